/-
  Merged texts.
-/
import Derived.WalkKit
import Derived.Laws.StructEq
import Derived.WalkSpells
import Derived.WalkLawsBesides
import Derived.Laws.Pointers
import Derived.LaidEqlPtr
import Derived.Lib.Builder
import Derived.Lib.UnsafeStr
import Derived.Deep.AppendSrc
import Derived.Laws.OwnMore
set_option linter.all false
set_option linter.unusedVariables false
set_option linter.unusedSimpArgs false
set_option linter.unusedSectionVars false
set_option linter.defProp false
set_option maxRecDepth 100000
set_option maxHeartbeats 8000000
def aj:=@List.length_map
def ae:=@trivial
def au:=@Nat.lt_or_ge
def ax:=@Nat.zero_le
def bg:=@Option.bind_eq_some_iff
def aN:=@List.length_append
def az:=@Nat.le_refl
def aO:=@Option.some.injEq
def ag:=@if_neg
def dh:=@Option.ite_none_right_eq_some
def bF:=@Option.map_eq_some_iff
def ah:=@if_pos
def bI:=@List.length_take
def dY:=@List.getElem?_eq_getElem
def bZ:=@List.append_assoc
def dB:=@List.length_cons
def gW:=@List.getD_eq_getElem?_getD
def fP:=@Nat.le_of_ble_eq_true
def dK:=@decide_eq_false
def kJ:=@List.eq_nil_of_length_eq_zero
def dZ:=@Option.bind_some
def dm:=@List.map_cons
def eH:=@List.length_drop
def fC:=@Int.toNat_natCast
def mP:=@List.take_succ_eq_append_getElem
def gG:=@Nat.eq_zero_or_pos
def gy:=@Bool.false_ne_true
def iQ:=@Array.length_toList
def dR:=@Prod.mk.injEq
def eU:=@decide_eq_true
def gB:=@List.take_length
def lW:=@Array.getElem?_eq_some_iff
def dS:=@List.map_nil
def dP:=@List.mem_map
def gV:=@List.append_nil
def fG:=@List.mem_cons
def iG:=@List.mem_append
def kN:=@List.map_congr_left
def jX:=@List.mem_singleton
def iY:=@List.nil_append
def ji:=@List.getElem_mem
def o8:=@Classical.byContradiction
def jM:=@List.drop_length
def pF:=@Option.isSome_iff_exists
def oz:=@List.take_of_length_le
def qK:=@List.getElem?_eq_some_iff
def iZ:=@Nat.le_trans
def lL:=@Bool.and_eq_true
def lM:=@List.all_eq_true
def qh:=@Bool.or_eq_false_iff
def oq:=@Bool.false_eq_true
def iE:=@Array.ext'
def ou:=@List.size_toArray
def qL:=@Nat.pow_le_pow_right
def mO:=@List.cons_append
def mQ:=@Option.map_some
def vX:=@List.getElem?_cons_zero
def lX:=@List.drop_zero
def nI:=@List.length_set
def nJ:=@List.map_append
def zx:=@List.drop_eq_getElem_cons
def nH:=@Bool.false_and
def ql:=@beq_self_eq_true
def sF:=@Nat.lt_of_lt_of_le
def o9:=@List.length_nil
def vY:=@Nat.mul_le_mul_right
def zy:=@List.getElem?_cons_succ
def uC:=@Nat.add_sub_cancel
def qj:=@Nat.min_eq_left
def uz:=@List.pairwise_cons
def pq:=@List.take_left
def kQ:=@Nat.mod_lt
def nM:=@Nat.zero_add
def jb:=@and_true
def uw:=@List.map_toArray
def BF:=@List.drop_of_length_le
def qi:=@Bool.true_and
def nK:=@Nat.add_mul
def sD:=@List.drop_take
def su:=@List.drop_drop
def BG:=@List.mem_of_mem_drop
def zu:=@Int.cast_ofNat_Int
def vV:=@Bool.and_false
def DZ:=@List.mem_cons_of_mem
def D5:=@List.mem_iff_getElem
def zD:=@Option.bind_none
def LY:=@List.eq_nil_iff_forall_not_mem
def Gi:=@List.getElem?_eq_none
def Gn:=@List.mem_iff_getElem?
def xN:=@Bool.not_false
def vW:=@Bool.not_true
def xO:=@Option.map_map
def lN:=@true_and
def jY:=@Ne.symm
def BH:=@List.not_mem_nil
def Gq:=@List.mem_of_mem_take
def rZ:=@Int.le_refl
def Gp:=@List.mem_of_getElem?
def xM:=@Bool.and_true
def xJ:=@Bool.and_self
def uA:=@List.take_take
def mV:=@congrArg
def LX:=@Int.tmod_eq_emod_of_nonneg
def uD:=@Prod.exists
def BI:=@List.range_succ
def BD:=@Int.natCast_add
def Gm:=@List.mem_filterMap
def L9:=@List.set_eq_of_length_le
def DY:=@Bool.eq_iff_iff
def IR:=@Array.toList_append
def IV:=@List.drop_succ_cons
def zB:=@List.map_set
def zC:=@Nat.sub_self
def zA:=@List.map_map
def Gv:=@Option.getD_some
def Gt:=@List.take_append
def Mc:=@List.take_append_drop
def LU:=@Array.mem_of_getElem?
def Rt:=@List.mem_or_eq_of_mem_set
def Gs:=@List.nodup_cons
def L6:=@List.getElem?_set_ne
def IW:=@List.ext_getElem?
def sG:=@or_false
def Gj:=@List.mapM_cons
def Rn:=@Int.eq_ofNat_of_zero_le
def LZ:=@List.getElem?_drop
def uF:=@false_or
def IX:=@Option.map_none
def Gl:=@List.mem_filter
def Ro:=@List.eq_nil_or_concat
def IU:=@List.drop_left
def Md:=@Nat.mod_eq_of_lt
def Gu:=@Nat.pow_succ
def Rq:=@List.length_reverse
def LV:=@Bool.or_eq_true
def Ru:=@decide_eq_true_eq
def Ri:=@Array.size_append
def Rl:=@Bool.not_eq_true
def Rj:=@Array.toList_map
def L8:=@List.map_drop
def axk:=@List.take_append_of_le_length
def axl:=@Option.ite_none_left_eq_some
def aaw:=@List.take_succ_cons
def aas:=@List.flatten_append
def axh:=@Int.fdiv_eq_ediv_of_nonneg
def aat:=@List.getElem?_take
def IY:=@of_eq_true
def aav:=@List.mem_reverse
def aau:=@List.map_take
def axi:=@Int.natCast_nonneg
def axm:=@decide_eq_true_iff
def axj:=@List.getElem?_map
section
namespace Go.Pg
open Go
theorem aI{a b:Prop}(h:a)(k:b):a/\b:=⟨h,k⟩
theorem Ac{a b c:Prop}(A:a)(B:b)(C:c):a/\b/\c:=⟨A,B,C⟩
theorem Ad{a b c d:Prop}(A:a)(B:b)(C:c)(D:d):a/\b/\c/\d:=⟨A,B,C,D⟩
theorem Ae{a b c d e:Prop}(A:a)(B:b)(C:c)(D:d)(E:e):a/\b/\c/\d/\e:=⟨A,B,C,D,E⟩
theorem Af{a b c d e f:Prop}(A:a)(B:b)(C:c)(D:d)(E:e)(F:f):a/\b/\c/\d/\e/\f:=⟨A,B,C,D,E,F⟩
theorem Ag{a b c d e f g:Prop}(A:a)(B:b)(C:c)(D:d)(E:e)(F:f)(G:g):a/\b/\c/\d/\e/\f/\g:=⟨A,B,C,D,E,F,G⟩
theorem Ah{a b c d e f g h:Prop}(A:a)(B:b)(C:c)(D:d)(E:e)(F:f)(G:g)(H:h):a/\b/\c/\d/\e/\f/\g/\h:=⟨A,B,C,D,E,F,G,H⟩
theorem A8{a b c d e f g h i:Prop}(A:a)(B:b)(C:c)(D:d)(E:e)(F:f)(G:g)(H:h)(I:i):a/\b/\c/\d/\e/\f/\g/\h/\i:=⟨A,B,C,D,E,F,G,H,I⟩
theorem Om{p:Prop}(h:p:=by omega):p:=h
theorem Aa{p:Prop}(h:p:=by simp):p:=h
theorem dX{p:Prop}(h:p:=by decide):p:=h
theorem Za{p:Prop}(h:p:=by kernel_rfl):p:=h
inductive Tag where
 | fz
 | nn
 | own (id:Nat) (e:TypeId)
def Tag.is(id:Nat):Tag->Bool
 | .fz=>false
 | .nn=>false
 | .own i _=>i == id
def Tag.isOwn:Tag->Bool
 | .fz=>false
 | .nn=>true
 | .own _ _=>true
def Tag.nnOk:Tag->Bool
 | .fz=>true
 | .nn=>true
 | .own _ _=>false
def Tag.notNN:Tag->Bool
 | .fz=>true
 | .nn=>false
 | .own _ _=>true
inductive V where
 | c (v:Value)
 | sl (t:Tag) (k:Nat) (xs:List V)
 | agg (cs:List V)
 | tup (vs:List V)
 | ref (b off:Nat)
 | el (t:Tag) (k:Nat) (xs:List V) (i off:Nat)
 | fn (f:FuncId) (first captured:List V)
 | top
 | nif
 | mh (it:Bool) (b:Nat)
 | bs (b:Nat) (e:TypeId) (o k n:Nat)
structure Lay where
 A:Nat->Prop
 own:Nat->Option Nat
 box:Nat->Option Nat
mutual
def V.any(p:Tag->Bool)(q:Nat->Bool)(tp:Bool):V->Bool
 | .c _=>false
 | .sl t _ _=>p t
 | .agg cs=>V.anyL p q tp cs
 | .tup cs=>V.anyL p q tp cs
 | .ref b _=>q b
 | .el t _ _ _ _=>p t
 | .fn _ fs cs=>V.anyL p q tp fs||V.anyL p q tp cs
 | .top=>tp
 | .nif=>false
 | .mh _ b=>q b
 | .bs b _ _ _ _=>q b
def V.anyL(p:Tag->Bool)(q:Nat->Bool)(tp:Bool):List V->Bool
 | []=>false
 | x::xs=>V.any p q tp x||V.anyL p q tp xs
end
def V.free(v:V):Bool := !(v.any Tag.isOwn (fun _=>true) true)
def V.has(id:Nat)(v:V):Bool:=v.any (Tag.is id) (fun _=>false) false
def Row(w:World)(g o:Nat)(cells:List Value):Prop :=
 ∃arr e f,w.heap[g]?=some (.cells arr e f)/\(arr.toList.drop o).take cells.length=cells
def SlMem(L:Lay)(w:World)(t:Tag)(k:Nat)(a:Option Addr)(l cap:Nat)(cells:List Value):Prop :=
 match t with
 | .fz=>l<=cap/\(l=0\/∃g o,a=some ⟨g,o,none⟩/\L.A g/\Row w g o cells)
 | .nn=>l=0/\a.isSome=true/\cap=0
 | .own id e=>(l=0/\a=none/\cap=0) \/
   ∃g arr,L.own id=some g/\a=some ⟨g,0,none⟩/\w.heap[g]?=some (.cells arr e (0,0))/\l<=cap/\cap<=maxLen/\arr.size=cap*k/\arr.toList.take (l*k)=cells
def ElMem(L:Lay)(w:World)(t:Tag)(g o:Nat)(cells:List Value):Prop :=
 match t with
 | .fz=>L.A g/\Row w g o cells
 | .nn=>False
 | .own id e=>L.own id=some g/\o=0/\∃arr,w.heap[g]?=some (.cells arr e (0,0))/\arr.toList.take cells.length=cells
mutual
def V.map(τ:Tag->Tag)(ρ:Nat->Nat):V->V
 | .c v => .c v
 | .sl t k xs => .sl (τ t) k xs
 | .agg cs => .agg (V.mapL τ ρ cs)
 | .tup cs => .tup (V.mapL τ ρ cs)
 | .ref b off => .ref (ρ b) off
 | .el t k xs i off => .el (τ t) k xs i off
 | .fn f fs cs => .fn f (V.mapL τ ρ fs) (V.mapL τ ρ cs)
 | .top => .top
 | .nif => .nif
 | .mh i b => .mh i (ρ b)
 | .bs b e o k n => .bs (ρ b) e o k n
def V.mapL(τ:Tag->Tag)(ρ:Nat->Nat):List V->List V
 | []=>[]
 | x::xs=>V.map τ ρ x::V.mapL τ ρ xs
end
def Cells(w:World)(g:Nat):Prop:=∃arr e,w.heap[g]?=some (.cells arr e (0,0))
def MapAt(w:World)(g:Nat):Bool->Prop
 |false=>∃e k,w.heap[g]?=some (.map e k)
 |true=>∃m s n l,w.heap[g]?=some (.mapIter m s n l)
mutual
def Rep(L:Lay)(w:World):V->Value->Prop
 | .c v,u=>u=v
 | .sl t k xs,u=>∃a cap cells,u = .slice a xs.length cap/\RepE L w k xs cells/\SlMem L w t k a xs.length cap cells
 | .agg cs,u=>∃a,u = .agg a/\Reps L w cs a.toList
 | .tup cs,u=>∃a,u = .tuple a/\Reps L w cs a.toList
 | .ref b off,u=>∃g,(L.box b=some g/\Cells w g)/\u = .pointer (some ⟨g,off,none⟩)
 | .el t k xs i off,u=>∃g o cells,u = .pointer (some ⟨g,o+i*k+off,none⟩)/\RepE L w k xs cells/\ElMem L w t g o cells
 | .fn f fs cs,u=>∃a b,u = .func (.func f) a b/\Reps L w fs a.toList/\Reps L w cs b.toList
 | .top,_=>True
 | .nif,u=>∃t v,u = .iface t v
 | .mh i b,u=>∃g,(L.box b=some g/\MapAt w g i)/\u=(match i with|false => .map (some g)|true => .pointer (some ⟨g,0,none⟩))
 | .bs b e o k n,u=>n=0/\u = .slice none 0 0\/∃g cap arr,L.box b=some g/\u = .slice (some ⟨g,o,none⟩) n cap/\w.heap[g]?=some (.cells arr e (0,0))/\n<=cap/\cap<=maxLen/\o+cap*k<=arr.size
def Reps(L:Lay)(w:World):List V->List Value->Prop
 | [],us=>us=[]
 | x::xs,us=>∃u r,us=u::r/\Rep L w x u/\Reps L w xs r
def RepE(L:Lay)(w:World)(k:Nat):List V->List Value->Prop
 | [],us=>us=[]
 | x::xs,us=>∃u r,us=u.cells.toList++r/\u.cells.size=k/\(x.free=true/\u.cells.toList.all Value.oneCell'=true)/\Rep L w x u/\RepE L w k xs r
end
structure Kp (Wr:Nat->Prop) (B:Nat) (w w':World):Prop where
 os:w'.os=w.os
 tape:w'.tape=w.tape
 output:w'.output=w.output
 size:w.heap.size<=w'.heap.size
 block:∀k,k<B->¬Wr k->w'.heap[k]?=w.heap[k]?
 drawn:w.drawn<=w'.drawn
def Kp.refl(Wr:Nat->Prop)(B:Nat)(w:World):Kp Wr B w w:=⟨rfl,rfl,rfl,az _,fun _ _ _=>rfl,az _⟩
def Kp.trans{Wr:Nat->Prop}{B:Nat}{a b c:World}(h:Kp Wr B a b)(k:Kp Wr B b c):Kp Wr B a c :=
 ⟨k.os.trans h.os,k.tape.trans h.tape,k.output.trans h.output,iZ h.size k.size,fun i d e=>(k.block i d e).trans (h.block i d e),iZ h.drawn k.drawn⟩
class Tb (P:Program) where
 T:World->Prop
 keep:∀w w',T w->Kp (fun _=>False) w.heap.size w w'->T w'
 nest:TypeId->Bool:=fun _=>false
def Kp.drew{Wr:Nat->Prop}{B:Nat}{a w:World}(h:Kp Wr B a w):Kp Wr B a w.drew:=⟨h.os,h.tape,h.output,h.size,h.block,iZ h.drawn (Nat.le_succ _)⟩
def V.ind{p:V->Prop}{q:List V->Prop}(D:∀v,p (.c v))(g:p .nif)(A:∀t k xs,q xs->p (.sl t k xs))(z:∀i b,p (.mh i b))(d:∀cs,q cs->p (.agg cs))(r:∀cs,q cs->p (.tup cs))
  (j:∀b o,p (.ref b o)) (u:∀b e o k n,p (.bs b e o k n)) (w:∀t k xs i o,q xs->p (.el t k xs i o)) (y:∀f fs cs,q fs->q cs->p (.fn f fs cs)) (m:p .top) (c:q []) (a:∀x xs,p x->q xs->q (x::xs)) :
  (∀v,p v)/\(∀l,q l):=by
 have C:∀v,p v:=fun v=>V.rec (motive_1:=p) (motive_2:=q) D (fun t k xs h=>A t k xs h) (fun cs h=>d cs h) (fun cs h=>r cs h) j (fun t k xs i o h=>w t k xs i o h) (fun f fs cs h s=>y f fs cs h s) m g z u c (fun x xs h s=>a x xs h s) v
 exact⟨C,fun l=>by induction l with|nil=>exact c|cons x xs E=>exact a x xs (C x) E⟩
def H6(τ:Tag->Tag)(ρ:Nat->Nat)(l:List V):V.mapL τ ρ l=l.map (V.map τ ρ):=by induction l<;>grind[V.mapL]
def map_id:(∀v:V,v.map id id=v)/\(∀l,V.mapL id id l=l):=by refine V.ind ?_ ?_ ?_ ?_ ?_ ?_ ?_ ?_ ?_ ?_ ?_ ?_ ?_<;>intros<;>simp_all[V.map,V.mapL]
def agq(p:Tag->Bool)(q:Nat->Bool)(g:p .fz=false)(tp:Bool) :
  (∀v:V,v.any Tag.isOwn (fun _=>true) true=false->v.any p q tp=false)/\(∀l,V.anyL Tag.isOwn (fun _=>true) true l=false->V.anyL p q tp l=false):=by
 refine V.ind ?_ ?_ ?_ ?_ ?_ ?_ ?_ ?_ ?_ ?_ ?_ ?_ ?_
 .intro v _;rfl
 .intro _;rfl
 .intro t k xs _ h;cases t with
  |fz=>simpa[V.any]using g
  |nn=>simp[V.any,Tag.isOwn]at h
  |own id e=>simp[V.any,Tag.isOwn]at h
 .intro i b h;simp[V.any]at h
 .intro cs d h;exact d h
 .intro cs d h;exact d h
 .intro b off h;simp[V.any]at h
 .intro b j o m n h;simp[V.any]at h
 .intro t k xs i off _ h;cases t with
  |fz=>simpa[V.any]using g
  |nn=>simp[V.any,Tag.isOwn]at h
  |own id e=>simp[V.any,Tag.isOwn]at h
 .intro f fs cs a c h;simp only[V.any,qh]at h⊢;exact⟨a h.1,c h.2⟩
 .intro h;simp[V.any]at h
 .intro _;rfl
 .intro x xs a c h;simp only[V.anyL,qh]at h⊢;exact⟨a h.1,c h.2⟩
def V.free.any{v:V}(h:v.free=true)(p:Tag->Bool)(q:Nat->Bool)(a:p .fz=false)(tp:Bool):v.any p q tp=false:=by simp_all[agq,V.free]
def al3(τ:Tag->Tag)(ρ:Nat->Nat)(g:τ .fz = .fz) :
  (∀v:V,v.any Tag.isOwn (fun _=>true) true=false->v.map τ ρ=v)/\(∀l,V.anyL Tag.isOwn (fun _=>true) true l=false->V.mapL τ ρ l=l):=by
 refine V.ind ?_ ?_ ?_ ?_ ?_ ?_ ?_ ?_ ?_ ?_ ?_ ?_ ?_
 .intro v _;rfl
 .intro _;rfl
 .intro t k xs _ h;cases t with
  |fz=>simp[V.map,g]
  |nn=>simp[V.any,Tag.isOwn]at h
  |own id e=>simp[V.any,Tag.isOwn]at h
 .intro i b h;simp[V.any]at h
 .intro cs d h;simp[V.map,d h]
 .intro cs d h;simp[V.map,d h]
 .intro b off h;simp[V.any]at h
 .intro b j o m n h;simp[V.any]at h
 .intro t k xs i off _ h;cases t with
  |fz=>simp[V.map,g]
  |nn=>simp[V.any,Tag.isOwn]at h
  |own id e=>simp[V.any,Tag.isOwn]at h
 .intro f fs cs a c h;simp only[V.any,qh]at h;simp[V.map,a h.1,c h.2]
 .intro _;rfl
 .intro _;rfl
 .intro x xs a c h;simp only[V.anyL,qh]at h;simp[V.mapL,a h.1,c h.2]
def V.free.map{v:V}(h:v.free=true)(τ:Tag->Tag)(ρ:Nat->Nat)(a:τ .fz = .fz):v.map τ ρ=v:=by simp_all[al3,V.free]
def RowKept(w w':World)(g:Nat):Prop:=∀arr e a,w.heap[g]?=some (.cells arr e a)->∃f,w'.heap[g]?=some (.cells arr e f)
theorem RowKept.of{w w':World}{g:Nat}(h:w'.heap[g]?=w.heap[g]?):RowKept w w' g:=fun _ _ f a=>⟨f,h.trans a⟩
theorem Row.keep{w w':World}{g o:Nat}{cells:List Value}(h:Row w g o cells)(i:RowKept w w' g):Row w' g o cells:=by obtain⟨arr,e,a,b,c⟩:=h;obtain⟨f,d⟩:=i arr e a b;exact⟨arr,e,f,d,c⟩
structure SizeKept (w w':World) (g:Nat):Prop where
 c:∀arr e,w.heap[g]?=some (.cells arr e (0,0))->∃arr',w'.heap[g]?=some (.cells arr' e (0,0))/\arr'.size=arr.size
 m:∀i,MapAt w g i->MapAt w' g i
def SizeKept.of{w w':World}{g:Nat}(h:w'.heap[g]?=w.heap[g]?):SizeKept w w' g:=⟨fun arr _ a=>⟨arr,h.trans a,rfl⟩,fun i b=>by cases i<;>(unfold MapAt at *;rw[h];exact b)⟩
theorem Cells.kept{w w':World}{g:Nat}(h:Cells w g)(k:SizeKept w w' g):Cells w' g:=by obtain⟨arr,e,h⟩:=h;obtain⟨arr',a,_⟩:=k.c arr e h;exact⟨arr',e,a⟩
structure Trans (p:Tag->Bool) (q:Nat->Bool) (τ:Tag->Tag) (ρ:Nat->Nat) (L L':Lay) (w w':World):Prop where
 fz':(τ .fz,(τ .nn).nnOk,fun id e=>(τ (.own id e)).notNN)=(Tag.fz,true,fun _ _=>true)
 A:∀g,L.A g->L'.A g/\RowKept w w' g
 own:∀id e,p (.own id e)=false->∀g,L.own id=some g->(match τ (.own id e) with | .fz=>L'.A g | .nn=>False | .own id' e'=>e'=e/\L'.own id'=some g)/\w'.heap[g]?=w.heap[g]?
 box:∀b,q b=false->∀g,L.box b=some g->L'.box (ρ b)=some g/\SizeKept w w' g
theorem Trans.fz{p:Tag->Bool}{q:Nat->Bool}{τ:Tag->Tag}{ρ:Nat->Nat}{L L':Lay}{w w':World}(K:Trans p q τ ρ L L' w w'):τ .fz = .fz:=(Prod.mk.inj K.fz').1
theorem Trans.nn{p:Tag->Bool}{q:Nat->Bool}{τ:Tag->Tag}{ρ:Nat->Nat}{L L':Lay}{w w':World}(K:Trans p q τ ρ L L' w w'):(τ .nn).nnOk=true:=(Prod.mk.inj (Prod.mk.inj K.fz').2).1
def Trans.ownNN{p:Tag->Bool}{q:Nat->Bool}{τ:Tag->Tag}{ρ:Nat->Nat}{L L':Lay}{w w':World}(K:Trans p q τ ρ L L' w w')(id:Nat)(e:TypeId):(τ (.own id e)).notNN=true:=congrFun (congrFun (Prod.mk.inj (Prod.mk.inj K.fz').2).2 id) e
section
variable {L L':Lay} {w w':World}
theorem SlMem.trans{p:Tag->Bool}{q:Nat->Bool}{τ:Tag->Tag}{ρ:Nat->Nat}(K:Trans p q τ ρ L L' w w'){t:Tag}{k:Nat}{a:Option Addr}{l cap:Nat}{cells:List Value}(x:p t=false)
  (h:SlMem L w t k a l cap cells):SlMem L' w' (τ t) k a l cap cells:=by
 cases t with
 |fz =>rw[K.fz];obtain⟨j,h⟩:=h;refine⟨j,h.imp id ?_⟩;rintro⟨g,o,d,c,i⟩;exact⟨g,o,d,(K.A g c).1,i.keep (K.A g c).2⟩
 |nn =>
  obtain⟨j,d,c⟩:=h
  have r:=K.nn
  cases b:τ .nn with
  |fz=>exact⟨by omega,.inl j⟩
  |nn=>exact⟨j,d,c⟩
  |own id e=>rw[b]at r;cases r
 |own id e =>
  rcases h with⟨d,c,i⟩|⟨g,arr,d,c,i,m,s,u,v⟩
  .cases b:τ (.own id e)with
   |fz=>exact⟨by omega,.inl d⟩
   |nn=>have:=K.ownNN id e;rw[b]at this;cases this
   |own id' e'=>exact .inl ⟨d,c,i⟩
  .obtain⟨f,n⟩:=K.own id e x g d;cases b:τ (.own id e)with
   |fz =>rw[b]at f;refine⟨m,.inr ⟨g,0,c,f,arr,e,(0,0),n.trans i,?_⟩⟩;grind
   |nn=>rw[b]at f;exact f.elim
   |own id' e' =>rw[b]at f;obtain⟨rfl,f⟩:=f;exact .inr ⟨g,arr,f,c,n.trans i,m,s,u,v⟩
theorem ElMem.trans{p:Tag->Bool}{q:Nat->Bool}{τ:Tag->Tag}{ρ:Nat->Nat}(K:Trans p q τ ρ L L' w w'){t:Tag}{g o:Nat}{cells:List Value}(j:p t=false)
  (h:ElMem L w t g o cells):ElMem L' w' (τ t) g o cells:=by
 cases t with
 |fz=>rw[K.fz];exact⟨(K.A g h.1).1,h.2.keep (K.A g h.1).2⟩
 |nn=>exact h.elim
 |own id e =>
  obtain⟨i,rfl,arr,c,d⟩:=h
  obtain⟨a,f⟩:=K.own id e j g i
  cases b:τ (.own id e)with
  |fz=>rw[b]at a;exact⟨a,arr,e,(0,0),f.trans c,by simpa using d⟩
  |nn=>rw[b]at a;exact a.elim
  |own id' e' =>rw[b]at a;obtain⟨rfl,a⟩:=a;exact⟨a,rfl,arr,f.trans c,d⟩
theorem Qi{p:Tag->Bool}{q:Nat->Bool}{τ:Tag->Tag}{ρ:Nat->Nat}(F:p .fz=false)(K:Trans p q τ ρ L L' w w') :
  (∀v u,v.any p q false=false->Rep L w v u->Rep L' w' (v.map τ ρ) u) /\
  (∀l,(∀us,V.anyL p q false l=false->Reps L w l us->Reps L' w' (V.mapL τ ρ l) us)/\∀k us,RepE L w k l us->RepE L' w' k l us):=by
 refine V.ind ?_ ?_ ?_ ?_ ?_ ?_ ?_ ?_ ?_ ?_ ?_ ?_ ?_
 .intro v u _ h;exact h
 .intro u _ h;exact h
 .rintro t k xs ⟨_,m⟩ u c ⟨a,cap,cells,d,e,j⟩
  exact⟨a,cap,cells,d,m k cells e,j.trans K c⟩
 .rintro i b u c ⟨g,⟨d,j⟩,e⟩
  exact⟨g,⟨(K.box b c g d).1,(K.box b c g d).2.m i j⟩,e⟩
 .rintro cs ⟨m,_⟩ u c ⟨a,d,e⟩
  exact⟨a,d,m _ c e⟩
 .rintro cs ⟨m,_⟩ u c ⟨a,d,e⟩
  exact⟨a,d,m _ c e⟩
 .rintro b off u c ⟨g,⟨d,j⟩,e⟩
  exact⟨g,⟨(K.box b c g d).1,j.kept (K.box b c g d).2⟩,e⟩
 .rintro b C O M N u c (D|⟨g,cap,arr,d,e,j,z,A,E⟩)
  .exact .inl D
  obtain⟨G,H⟩:=K.box b c g d
  obtain⟨arr',I,J⟩:=H.c arr C j
  exact .inr ⟨g,cap,arr',G,e,I,z,A,by rw[J];exact E⟩
 .rintro t k xs i off ⟨_,m⟩ u c ⟨g,o,cells,d,e,j⟩
  exact⟨g,o,cells,d,m k cells e,j.trans K c⟩
 .rintro f fs cs ⟨n,_⟩ ⟨s,_⟩ u c ⟨a,b,d,e,j⟩
  simp only[V.any,qh]at c
  exact⟨a,b,d,n _ c.1 e,s _ c.2 j⟩
 .intro u _ _;trivial
 .exact⟨fun us _ h=>h,fun k us h=>h⟩
 .rintro x xs y ⟨n,s⟩
  refine⟨?_,?_⟩
  .rintro us c ⟨u,r,d,e,j⟩
   simp only[V.anyL,qh]at c
   exact⟨u,r,d,y u c.1 e,n r c.2 j⟩
  .rintro k us ⟨u,r,d,e,j,z,A⟩
   have:=y u (V.free.any j.1 p q F _) z
   rw[V.free.map j.1 τ ρ K.fz]at this
   exact⟨u,r,d,e,j,this,s k r A⟩
theorem Rep.trans{p:Tag->Bool}{q:Nat->Bool}{τ:Tag->Tag}{ρ:Nat->Nat}(b:p .fz=false)(K:Trans p q τ ρ L L' w w'){v:V}{u:Value}(a:v.any p q false=false)(h:Rep L w v u) :
  Rep L' w' (v.map τ ρ) u:=by grind[Qi]
theorem Reps.trans{p:Tag->Bool}{q:Nat->Bool}{τ:Tag->Tag}{ρ:Nat->Nat}(b:p .fz=false)(K:Trans p q τ ρ L L' w w'){l:List V}{us:List Value}(a:V.anyL p q false l=false)(h:Reps L w l us) :
  Reps L' w' (V.mapL τ ρ l) us:=by grind[Qi]
theorem RepE.trans{p:Tag->Bool}{q:Nat->Bool}{τ:Tag->Tag}{ρ:Nat->Nat}(a:p .fz=false)(K:Trans p q τ ρ L L' w w'){k:Nat}{l:List V}{us:List Value}(h:RepE L w k l us) :
  RepE L' w' k l us:=by grind[Qi]
theorem MJ:(∀v:V,v.any (fun _=>false) (fun _=>false) false=false)/\(∀l,V.anyL (fun _=>false) (fun _=>false) false l=false):=by refine V.ind ?_ ?_ ?_ ?_ ?_ ?_ ?_ ?_ ?_ ?_ ?_ ?_ ?_<;>intros<;>simp_all[V.any,V.anyL]
abbrev qN(L L':Lay)(w w':World):Prop:=Trans (fun _=>false) (fun _=>false) id id L L' w w'
theorem Rep.whole(K:qN L L' w w'){v:V}{u:Value}(h:Rep L w v u):Rep L' w' v u:=by have:=h.trans rfl K (MJ.1 v);rwa [map_id.1]at this
theorem Reps.whole(K:qN L L' w w'){l:List V}{us:List Value}(h:Reps L w l us):Reps L' w' l us:=by have:=h.trans rfl K (MJ.2 l);rwa [map_id.2]at this
theorem Reps.length{l:List V}{us:List Value}(h:Reps L w l us):us.length=l.length:=by
 induction l generalizing us with
 |nil=>simp[Reps]at h;simp[h]
 |cons x xs i=>obtain⟨u,r,rfl,_,a⟩:=h;simp[i a]
theorem Reps.get{l:List V}{us:List Value}(h:Reps L w l us){i:Nat}{v:V}(a:l[i]?=some v):∃u,us[i]?=some u/\Rep L w v u:=by
 induction l generalizing us i with
 |nil=>simp at a
 |cons x xs d =>obtain⟨u,r,rfl,b,c⟩:=h;grind
theorem Reps.append{l b:List V}{us a:List Value}(h:Reps L w l us)(c:Reps L w b a):Reps L w (l++b) (us++a):=by
 induction l generalizing us with
 |nil=>simp[Reps]at h;simpa[h]using c
 |cons x xs i=>obtain⟨u,r,rfl,d,e⟩:=h;exact⟨u,r++a,rfl,d,i e⟩
theorem Reps.take{l:List V}{us:List Value}(h:Reps L w l us)(n:Nat):Reps L w (l.take n) (us.take n):=by
 induction l generalizing us n with
 |nil=>simp[Reps]at h;simp[h,Reps]
 |cons x xs i =>
  obtain⟨u,r,rfl,a,b⟩:=h
  cases n with
  |zero=>simp[Reps]
  |succ n=>exact⟨u,r.take n,by simp,a,i b n⟩
theorem Reps.drop{l:List V}{us:List Value}(h:Reps L w l us)(n:Nat):Reps L w (l.drop n) (us.drop n):=by
 induction l generalizing us n with
 |nil=>simp[Reps]at h;simp[h,Reps]
 |cons x xs i =>
  cases n with
  |zero=>simpa using h
  |succ n=>obtain⟨u,r,rfl,b,a⟩:=h;simpa using i a n
theorem RepE.length{k:Nat}{l:List V}{us:List Value}(h:RepE L w k l us):us.length=l.length*k:=by
 induction l generalizing us with
 |nil=>simp[RepE]at h;simp[h]
 |cons x xs i=>obtain⟨u,r,rfl,a,_,_,b⟩:=h;simp[i b,a,nK,Nat.add_comm]
theorem RepE.append{k:Nat}{l b:List V}{us a:List Value}(h:RepE L w k l us)(c:RepE L w k b a):RepE L w k (l++b) (us++a):=by
 induction l generalizing us with
 |nil=>simp[RepE]at h;simpa[h]using c
 |cons x xs i=>obtain⟨u,r,rfl,d,e,f,g⟩:=h;exact⟨u,r++a,by simp,d,e,f,i g⟩
theorem RepE.drop{k:Nat}{l:List V}{us:List Value}(h:RepE L w k l us)(n:Nat):RepE L w k (l.drop n) (us.drop (n*k)):=by
 induction l generalizing us n with
 |nil=>simp[RepE]at h;simp[h,RepE]
 |cons x xs i =>
  cases n with
  |zero=>simpa using h
  |succ n =>
   obtain⟨u,r,rfl,a,b,c,d⟩:=h;have e:(u.cells.toList++r).drop ((n+1)*k)=r.drop (n*k):=by rw[List.drop_append,List.drop_eq_nil_of_le (by simp[a,nK])];grind
   grind
theorem RepE.take{k:Nat}{l:List V}{us:List Value}(h:RepE L w k l us)(n:Nat):RepE L w k (l.take n) (us.take (n*k)):=by
 induction l generalizing us n with
 |nil=>simp[RepE]at h;simp[h,RepE]
 |cons x xs i =>
  cases n with
  |zero=>simp[RepE]
  |succ n =>obtain⟨u,r,rfl,a,b,c,d⟩:=h;refine⟨u,r.take (n*k),?_,a,b,c,i d n⟩;grind[Nat.add_mul]
theorem RepE.one{k:Nat}{l:List V}{us:List Value}(h:RepE L w k l us):∀u∈us,u.oneCell'=true:=by
 induction l generalizing us with
 |nil=>simp[RepE]at h;simp[h]
 |cons x xs i =>obtain⟨u,r,rfl,a,b,c,d⟩:=h;grind
theorem RepE.get{k:Nat}{l:List V}{us:List Value}(h:RepE L w k l us){i:Nat}{v:V}(c:l[i]?=some v) :
  ∃u,(us.drop (i*k)).take k=u.cells.toList/\u.cells.size=k/\(v.free=true/\u.cells.toList.all Value.oneCell'=true)/\Rep L w v u:=by
 have b:i<l.length:=(qK.1 c).1
 have a:=h.drop i
 rw[zx b]at a
 obtain⟨u,r,d,e,f,g,_⟩:=a
 grind
theorem RepE.set{k:Nat}{l:List V}{us:List Value}(h:RepE L w k l us){i:Nat}{v:V}{u:Value}(d:i<l.length)(b:u.cells.size=k)(a:v.free=true/\u.cells.toList.all Value.oneCell'=true)(c:Rep L w v u) :
  RepE L w k (l.set i v) (us.take (i*k)++u.cells.toList++us.drop (i*k+k)):=by
 have e:l.set i v=l.take i++([v]++l.drop (i+1)):=by grind[List.set_eq_take_append_cons_drop]
 rw[e,bZ]
 refine(h.take i).append (RepE.append ⟨u,[],by simp,b,a,c,rfl⟩ ?_)
 have:=h.drop (i+1)
 grind
end
end Go.Pg
end
section
namespace Go.Pg
open Go
structure St where
 env:Nat->V
 bx:Nat->Option (TypeId × List V)
 nid:Nat
 hd:Nat->V:=fun _ => .top
def upd{α:Type}(f:Nat->α)(d:Nat)(v:α):Nat->α:=fun t=>if t=d then v else f t
theorem bW{α:Type}(f:Nat->α)(d:Nat)(v:α):upd f d v d=v:=by simp[upd]
theorem aV{α:Type}(f:Nat->α)(d t:Nat)(v:α)(h:t≠d):upd f d v t=f t:=by simp[upd,h]
def jd:Value->V
 | .agg cs=>.agg (cs.toList.map .c)
 | .tuple vs=>.tup (vs.toList.map .c)
 |v=>.c v
def St.ev(s:St):Operand->V
 | .tmp t=>s.env t
 | .const v=>jd v
 | .global g=>.c (.pointer (some ⟨g,0,none⟩))
 | .func f=>.fn f [] []
def St.put(s:St)(d:Option Nat)(v:V):St :=
 match d with
 |some d=>{s with env:=upd s.env d v}
 |none=>s
structure Cx where
 n:Nat
 A0:Nat->Prop
 Wr:Nat->Prop
 w0:World
 hid:Nat->Value:=fun _=>undef
abbrev Cx.B(C:Cx):Nat:=C.w0.heap.size
def Cx.TOk(C:Cx)(P:Program)[Tb P]:Prop:=∀w',Kp C.Wr C.B C.w0 w'->Tb.T P w'
structure Wf (C:Cx) (nid:Nat) (L:Lay) (w:World):Prop where
 nidO:∀id g,L.own id=some g->id<nid
 nidB:∀b g,L.box b=some g->b<nid
 own:∀id g,L.own id=some g->g<w.heap.size/\(C.B<=g\/C.Wr g)/\¬L.A g
 boxW:∀b g,L.box b=some g->g<w.heap.size/\(C.B<=g\/C.Wr g)/\¬L.A g
 injO:∀i j g,L.own i=some g->L.own j=some g->i=j
 injB:∀i j g,L.box i=some g->L.box j=some g->i=j
 dis:∀i j g,L.own i=some g->L.box j=some g->False
 old:∀g,L.A g->g<w.heap.size
 frz:∀g,L.A g->C.A0 g\/C.B<=g\/C.Wr g
def CE(a:List MapEntry):List Value:=a.flatMap fun e=>[e.key,e.val,.int .i64 e.born]
def aax(o:Obj)(t:TypeId)(l:List Value):Prop :=
 match o with
 | .cells arr e g=>e=t/\g=(0,0)/\l=arr.toList
 | .map f d=>l = .int .i64 d :: .int .i64 f.size::CE f.toList
 | .mapIter (some m) a s c=>l = .map (some m) :: .int .i64 a :: .int .i64 c :: .int .i64 s.size::s.toList.map fun(b:Nat)=>Value.int .i64 b
 |_=>False
def BoxOk(L:Lay)(w:World)(b:Nat)(x:TypeId×List V):Prop :=
 ∃g o l,L.box b=some g/\(w.heap[g]?=some o/\aax o x.1 l)/\Reps L w x.2 (l.take x.2.length)
theorem BoxOk.cells{L:Lay}{w:World}{b g:Nat}{x:TypeId×List V}(h:BoxOk L w b x)(j:L.box b=some g)(i:Cells w g):∃arr,w.heap[g]?=some (.cells arr x.1 (0,0))/\Reps L w x.2 (arr.toList.take x.2.length):=by
 obtain⟨k,o,l,a,⟨c,d⟩,m⟩:=h;obtain⟨arr,e,f⟩:=i;rw[j]at a;cases a
 rw[f]at c;cases c
 obtain⟨rfl,_,rfl⟩:=d;grind
theorem BoxOk.mk{L:Lay}{w:World}{b g:Nat}{x:TypeId×List V}{arr:Array Value}(a:L.box b=some g)(h:w.heap[g]?=some (.cells arr x.1 (0,0)))(c:Reps L w x.2 (arr.toList.take x.2.length)):BoxOk L w b x:=⟨g,_,_,a,⟨h,rfl,rfl,rfl⟩,c⟩
theorem BoxOk.keep{L L':Lay}{w w':World}{b c:Nat}{x a:TypeId×List V}(h:BoxOk L w b x)(q:a.1=x.1)(n:a.2.length=x.2.length)(m:∀g,L.box b=some g->L'.box c=some g/\w'.heap[g]?=w.heap[g]?)(p:∀us,Reps L w x.2 us->Reps L' w' a.2 us):BoxOk L' w' c a:=by obtain⟨g,o,l,d,⟨e,f⟩,i⟩:=h;obtain⟨j,k⟩:=m g d;exact⟨g,o,l,j,⟨k.trans e,by rw[q];exact f⟩,by rw[n];exact p _ i⟩
structure Sim (C:Cx) (s:St) (L:Lay) (a:Act) (w:World):Prop where
 defers:a.defers=[]
 size:a.tmps.size=C.n
 env:∀t,Rep L w (s.env t) (a.tmps.getD t undef)
 hid:∀t,Rep L w (s.hd t) (C.hid t)
 box:∀b cs,s.bx b=some cs->BoxOk L w b cs
 wf:Wf C s.nid L w
 kp:Kp C.Wr C.B C.w0 w
def FM(L:Lay)(w:World)(l:List Value):Reps L w (l.map .c) l:=by
 induction l with
 |nil=>rfl
 |cons x xs i=>exact⟨x,xs,rfl,rfl,i⟩
theorem Iu(L:Lay)(w:World)(v:Value):Rep L w (jd v) v:=by cases v<;>first|rfl|exact⟨_,rfl,FM L w _⟩
section
variable {C:Cx} {s:St} {L:Lay} {a:Act} {w:World}
theorem Sim.ev(S:Sim C s L a w)(x:Operand):Rep L w (s.ev x) (a.eval x):=by
 cases x with
 |tmp t=>exact S.env t
 |const v=>exact Iu L w v
 |global g=>rfl
 |func f=>exact⟨#[],#[],rfl,rfl,rfl⟩
theorem Sim.put(S:Sim C s L a w){v:V}{u:Value}(h:Rep L w v u){d:Option Nat}(hd:∀t,d=some t->t<C.n):Sim C (s.put d v) L (a.put d u) w:=by
 cases d with
 |none=>exact S
 |some d =>
  have hd:=hd d rfl;refine⟨S.defers,by simp[Act.put,S.size],fun t => ?_,S.hid,S.box,S.wf,S.kp⟩;simp[St.put,Act.put,upd];by_cases b:t=d
  .subst b;have:t<a.tmps.size:=by rw[S.size];exact hd
   simp_all
  .have:=S.env t;rw[ag b];simpa[jY b]using this
end
def tsz(P:Program)(t:TypeId):Option Nat:=(P.info? t).map (·.size)
def lV(P:Program)(t:TypeId):Option Value:=(P.info? t).bind (·.zero)
def sZ(P:Program)(t:TypeId):Option Bool:=(P.underlying t).map fun | .struct _=>true | .array _ _=>true|_=>false
def elemT(P:Program)(t:TypeId):Option TypeId:=match P.underlying t with|some (.slice e)=>some e|_=>none
def sU(P:Program)(t:TypeId)(f:Nat):Option (TypeId×Nat):=match P.underlying t with|some (.struct fs)=>(fs[f]?).map fun x=>(x.type,x.offset)|_=>none
def sH(P:Program)(t:TypeId):Option (Nat×TypeId):=match P.underlying t with|some (.array n e)=>some (n,e)|_=>none
def iU(P:Program)(t:TypeId):Bool:=match P.underlying t with|some .string=>true|_=>false
def xu(P:Program)(t:TypeId):Bool:=match P.underlying t with|some .bool=>true|_=>false
def kS(P:Program)(t:TypeId):Option IntKind:=match P.underlying t with|some (.int k)=>some k|_=>none
section
variable {P:Program} {t:TypeId}
theorem auy{n:Nat}(h:tsz P t=some n):∃i,P.info? t=some i/\i.size=n:=by simp_all[tsz]
theorem auD{v:Value}(h:lV P t=some v):∃i,P.info? t=some i/\i.zero=some v:=by grind[lV,Option.bind_eq_some_iff]
theorem iw{e:TypeId}(h:elemT P t=some e):P.underlying t=some (.slice e):=by grind[elemT]
theorem MK{n:Nat}{e:TypeId}(h:sH P t=some (n,e)):P.underlying t=some (.array n e):=by grind[sH]
theorem yM(h:iU P t=true):P.underlying t=some .string:=by grind[iU]
theorem VK(h:xu P t=true):P.underlying t=some .bool:=by grind[xu]
theorem CV{k:IntKind}(h:kS P t=some k):P.underlying t=some (.int k):=by grind[kS]
theorem Ui{f n:Nat}{ft:TypeId}(h:sU P t f=some (ft,n)):∃fs a,P.underlying t=some (.struct fs)/\fs[f]?=some a/\a.type=ft/\a.offset=n:=by grind[sU]
theorem mF{n:Nat}(h:tsz P t=some n)(w:World):(sizeOf t).run P w = .ok n w:=by obtain⟨i,a,b⟩:=auy h;simp[sizeOf,typeInfo,a,b]
theorem DF{v:Value}(h:lV P t=some v)(w:World):(zeroValue t).run P w = .ok v w:=by obtain⟨i,a,b⟩:=auD h;simp[zeroValue,typeInfo,a,b]
theorem FO{b:Bool}(h:sZ P t=some b)(w:World):(isAgg t).run P w = .ok b w:=by simp[sZ]at h;obtain⟨d,h1,h2⟩:=h;cases d<;>simp_all[isAgg,run_underlying h1]
end
def V.cs:V->Option (List V)
 | .agg l=>some l
 | .top=>none
 | .c v=>some (v.cells.toList.map .c)
 | .sl t k xs=>some [.sl t k xs]
 | .tup vs=>some [.tup vs]
 | .ref b o=>some [.ref b o]
 | .el t k xs i o=>some [.el t k xs i o]
 | .fn f a b=>some [.fn f a b]
 | .nif=>some [.nif]
 | .mh i b=>some [.mh i b]
 | .bs b e o k n=>some [.bs b e o k n]
theorem xE{L:Lay}{w:World}{v:V}{u:Value}{l:List V}(h:Rep L w v u)(d:v.cs=some l):Reps L w l u.cells.toList:=by
 cases v<;>simp[V.cs]at d
 case c x=>subst d;subst h;exact FM L w _
 case agg cs=>subst d;obtain⟨a,rfl,h⟩:=h;exact h
 all_goals
  subst d
  have e:u.cells.toList=[u]:=by
   first
    |(rcases h with⟨_,b⟩|⟨_,_,_,_,b,_⟩<;>(subst b;rfl))
    |(obtain⟨_,_,_,rfl,_⟩:=h;rfl)
    |(obtain⟨_,rfl,_⟩:=h;rfl)
    |(obtain⟨_,_,rfl,_⟩:=h;rfl)
    |(obtain⟨_,_,b⟩:=h;subst b;split<;>rfl)
  rw[e]
  exact⟨u,[],rfl,h,rfl⟩
def mW(o:BinOp)(k:IntKind)(a b:Int):Option Value :=
 match o with
 | .add=>some (.int k (k.wrap (a+b)))
 | .sub=>some (.int k (k.wrap (a-b)))
 | .mul=>some (.int k (k.wrap (a*b)))
 | .quo=>if b=0 then none else some (.int k (k.wrap (a.tdiv b)))
 | .rem=>if b=0 then none else some (.int k (a.tmod b))
 | .and=>some (.int k (bits .and k a b))
 | .or=>some (.int k (bits .or k a b))
 | .xor=>some (.int k (bits .xor k a b))
 | .andNot=>some (.int k (bits .andNot k a b))
 | .eql=>some (.bool (a == b))
 | .neq=>some (.bool (a != b))
 | .lss=>some (.bool (decide (a<b)))
 | .leq=>some (.bool (decide (a<=b)))
 | .gtr=>some (.bool (decide (a > b)))
 | .geq=>some (.bool (decide (a>=b)))
 | .shl | .shr=>none
def QJ(o:BinOp)(a b:ByteArray):Option Value :=
 match o with
 | .add=>if a.size+b.size<=9223372036854775807 then some (.string (a++b))else none
 | .eql=>some (.bool (decide (a=b)))
 | .neq=>some (.bool (!decide (a=b)))
 | .lss=>some (.bool (Op.bytesLess a.toList b.toList))
 | .leq=>some (.bool (Op.bytesLess a.toList b.toList||decide (a=b)))
 | .gtr=>some (.bool (!(Op.bytesLess a.toList b.toList||decide (a=b))))
 | .geq=>some (.bool (!Op.bytesLess a.toList b.toList))
 |_=>none
def JV:V->Option Bool
 | .c (.slice none _ _)=>some true
 | .sl _ _ (_::_)=>some false
 | .sl .nn _ []=>some false
 |_=>none
def jh(P:Program)(t:TypeId):Bool:=match P.underlying t with|some (.pointer e)=>(P.info? e).isSome|_=>false
def JU:V->Option Bool
 | .c (.pointer p)=>some p.isNone
 | .ref _ _=>some false
 | .el _ _ _ _ _=>some false
 |_=>none
inductive EqK where
 | n
 | b
 | s
def Ju(P:Program)(f:Field):Option (Nat×EqK) :=
 if f.name = "_" then none else
  match P.underlying f.type with
  |some (.int _)=>some (f.offset,.n)
  |some .bool=>some (f.offset,.b)
  |some .string=>some (f.offset,.s)
  |_=>none
def oK(P:Program)(t:TypeId):Option (List (Nat×EqK)) :=
 if P.stoodInHeld t=true\/P.eqGuardType P.depth t=true then none else
  match P.underlying t with
  |some (.struct fs)=>fs.toList.mapM (Ju P)
  |_=>none
def eqK(k:EqK)(x y:Option V)(z:Option Bool):Option Bool :=
 match k,x,y with
 | .n,some (.c (.int k a)),some (.c (.int c b))=>if k=c then z.map fun z=>(a == b)&&z else none
 | .b,some (.c (.bool a)),some (.c (.bool b))=>z.map fun z=>(a == b)&&z
 | .s,some (.c (.string a)),some (.c (.string b))=>z.map fun z=>decide (a=b)&&z
 |_,_,_=>none
def eqL:List (Nat×EqK)->List V->List V->Option Bool
 |[],_,_=>some true
 |(o,k)::r,xs,y=>eqK k xs[o]? y[o]? (eqL r xs y)
def PY(P:Program)(e:BinOp)(t:TypeId)(x y:V):Option V :=
 match e,x,y with
 | .eql,x,.c (.pointer none)=>if jh P t=true then(JU x).map fun b=>.c (.bool b)else none
 | .neq,x,.c (.pointer none)=>if jh P t=true then(JU x).map fun b=>.c (.bool (!b))else none
 | .eql,.ref b o,.ref a c=>if jh P t=true/\b=a/\o=c then some (.c (.bool true))else none
 | .neq,.ref b o,.ref a c=>if jh P t=true/\b=a/\o=c then some (.c (.bool false))else none
 | .eql,.agg xs,.agg d=>(oK P t).bind fun p=>(eqL p xs d).map fun b=>.c (.bool b)
 | .neq,.agg xs,.agg d=>(oK P t).bind fun p=>(eqL p xs d).map fun b=>.c (.bool (!b))
 |_,_,_=>none
def bU(P:Program)(o:BinOp)(t:TypeId)(x y:V):Option V :=
 match o,x,y with
 | .shl,.c (.int k a),.c (.int _ b)=>if b<0 then none else some (.c (.int k (k.wrap (a*2^min b.toNat k.bits))))
 | .shr,.c (.int k a),.c (.int _ b)=>if b<0 then none else some (.c (.int k (a.fdiv (2^min b.toNat k.bits))))
 |o,.c (.int k a),.c (.int c b)=>if k=c then(mW o k a b).map .c else none
 |o,.c (.string a),.c (.string b)=>(QJ o a b).map .c
 | .eql,.c (.bool a),.c (.bool b)=>if xu P t then some (.c (.bool (a == b)))else none
 | .neq,.c (.bool a),.c (.bool b)=>if xu P t then some (.c (.bool (!(a == b))))else none
 | .eql,x,.c (.slice none 0 0)=>if(elemT P t).isSome then(JV x).map fun b=>.c (.bool b)else none
 | .neq,x,.c (.slice none 0 0)=>if(elemT P t).isSome then(JV x).map fun b=>.c (.bool (!b))else none
 |o,x,y=>PY P o t x y
def SQ(a b:ByteArray):(a.toList == b.toList)=decide (a=b):=by
 rw[DY];simp[ByteArray.toList_eq];constructor
 .cases a;simp_all
 .grind
section
variable {P:Program} {L:Lay} {w:World}
theorem VO{x:V}{u:Value}{b:Bool}(h:JV x=some b)(r:Rep L w x u):∃a n c,u = .slice a n c/\a.isNone=b:=by
 unfold JV at h;split at h
 .subst r;simp at h;exact⟨_,_,_,rfl,by simp[<-h]⟩
 .rename_i t k y i;obtain⟨a,cap,cells,rfl,f,d⟩:=r;simp at h;cases t with
  |fz =>obtain⟨_,d⟩:=d;grind
  |nn=>simp[SlMem]at d
  |own id e =>
   rcases d with⟨d,_⟩|⟨g,arr,_,rfl,_⟩
   .simp at d
   .simp[<-h]
 .obtain⟨a,cap,cells,rfl,f,d⟩:=r;obtain⟨_,d,_⟩:=d;simp_all
 .cases h
theorem aci{o:BinOp}{k:IntKind}{a b:Int}{r:Value}(h:mW o k a b=some r)(t:TypeId):(binOp o t (.int k a) (.int k b)).run P w = .ok r w:=by
 cases o<;>simp[mW]at h
 case quo=>obtain⟨c,h⟩:=h;subst h;simp[binOp,Op.intDiv,c]
 case rem=>obtain⟨c,h⟩:=h;subst h;simp[binOp,Op.intDiv,c]
 all_goals
  subst h
  simp[binOp,Op.intArith,Op.intCmp,intBits_and,intBits_or,intBits_xor,intBits_andNot]
theorem aud{o:BinOp}{a b:ByteArray}{r:Value}(h:QJ o a b=some r)(t:TypeId):(binOp o t (.string a) (.string b)).run P w = .ok r w:=by
 cases o<;>simp[QJ]at h
 case add =>
  have:¬((a.size+b.size:Nat):Int) > IntKind.i64.max:=by rw[IntKind.max_i64];omega
  simp[binOp,Op.stringOp]
  simp_all
 all_goals
  subst h
  simp[binOp,Op.stringOp,SQ]
theorem wI(o:BinOp)(t:TypeId)(x y:Operand)(u v:Value)(h:u ≠ .nilIface)(b:∀a,u ≠ .agg a):(eqGuard o t x y u v).run P w = .ok () w:=by cases u<;>first|exact absurd rfl h|exact absurd rfl (b _)|(cases o<;>rfl)
theorem aqQ(d:Nat){t e:TypeId}(h:P.underlying t=some (.slice e))(a:Option Addr)(n c:Nat):(Op.equalIn (d+1) t (.slice a n c) (.slice none 0 0)).run P w = .ok a.isNone w:=by cases a<;>simp[Op.equalIn,run_underlying h]
theorem YM{t e:TypeId}(h:P.underlying t=some (.slice e))(a:Option Addr)(n c:Nat):(Op.equal t (.slice a n c) (.slice none 0 0)).run P w = .ok a.isNone w:=aqQ 9999 h a n c
theorem JW{t:TypeId}(h:jh P t=true):∃e j,P.underlying t=some (.pointer e)/\P.info? e=some j/\P.pointee t=e:=by
 unfold jh at h;split at h
 .rename_i e a;obtain⟨j,hj⟩:=pF.1 h;exact⟨e,j,a,hj,by simp[Program.pointee,a]⟩
 .cases h
theorem VN{x:V}{u:Value}{b:Bool}(h:JU x=some b)(r:Rep L w x u):∃p,u = .pointer p/\p.isNone=b:=by
 unfold JU at h;split at h
 .subst r;exact⟨_,rfl,by simpa using h⟩
 .obtain⟨g,_,rfl⟩:=r;exact⟨_,rfl,by simpa using h⟩
 .obtain⟨g,o,cells,rfl,_⟩:=r;exact⟨_,rfl,by simpa using h⟩
 .cases h
theorem NG{t:TypeId}{pl:List (Nat×EqK)}(h:oK P t=some pl):P.stoodInHeld t=false/\P.eqGuardType P.depth t=false/\P.underlying t=some (.struct (P.fieldsOf t))/\(P.fieldsOf t).toList.mapM (Ju P)=some pl:=by
 unfold oK at h;split at h
 .cases h
 .split at h
  .rename_i fs a;have:P.fieldsOf t=fs:=by simp[Program.fieldsOf,a]
   grind
  .cases h
theorem afD(d:Nat){i j:Array Value}{xs F:List V}(D:Reps L w xs i.toList)(E:Reps L w F j.toList):∀(fs:List Field) (C:List (Nat×EqK)) (b:Bool),fs.mapM (Ju P)=some C->eqL C xs F=some b ->
  (Op.eqFields (d+1) i j fs).run P w = .ok b w:=by
 intro fs
 induction fs with
 |nil =>
  intro C b h g
  simp only[List.mapM_nil,pure,aO]at h
  subst h
  simp only[eqL,aO]at g
  subst g
  rfl
 |cons f fs K =>
  intro C b h g
  rw[Gj]at h
  simp only[bind,bg,pure,aO]at h
  obtain⟨⟨o,k⟩,h,A,H,rfl⟩:=h
  rw[eqL]at g
  unfold Ju at h
  split at h
  .cases h
  .rename_i I
   have s:∀(u v:Value) (r z:Bool),i[f.offset]?=some u->j[f.offset]?=some v->sZ P f.type=some false->(Op.equalIn (d+1) f.type u v).run P w = .ok r w->eqL A xs F=some z->(Op.eqFields (d+1) i j (f::fs)).run P w = .ok (r&&z) w:=by
    intro u v r z m n G J p
    have N:(part f.type i f.offset).run P w = .ok u w:=by simp[part,FO G,m]
    have O:(part f.type j f.offset).run P w = .ok v w:=by simp[part,FO G,n]
    have:=K A z H p
    simp only[Op.eqFields,I,ne_eq,not_false_eq_true,if_true,Sem.run_bind,N,O,J,Result.andThen_ok]
    cases r
    .rfl
    .grind
   unfold eqK at g
   split at g
   .rename_i M a Q t x y
    simp only[dh,bF]at g
    obtain⟨rfl,z,p,rfl⟩:=g
    split at h
    .rename_i q l
     simp only[aO,dR]at h
     obtain⟨rfl,_⟩:=h
     obtain⟨u,m,c⟩:=D.get x
     obtain⟨v,n,e⟩:=E.get y
     simp only[Rep]at c e
     subst c;subst e
     exact s _ _ _ z (by simpa using m) (by simpa using n) (by simp[sZ,l]) (run_equalIn_int w d f.type M q a t l) p
    all_goals simp at h
   .rename_i a t x y
    simp only[bF]at g
    obtain⟨z,p,rfl⟩:=g
    split at h
    .simp at h
    .rename_i l
     simp only[aO,dR]at h
     obtain⟨rfl,_⟩:=h
     obtain⟨u,m,c⟩:=D.get x
     obtain⟨v,n,e⟩:=E.get y
     simp only[Rep]at c e
     subst c;subst e
     exact s _ _ _ z (by simpa using m) (by simpa using n) (by simp[sZ,l]) (run_equalIn_bool w d f.type a t l) p
    all_goals simp at h
   .rename_i a t x y
    simp only[bF]at g
    obtain⟨z,p,rfl⟩:=g
    split at h
    .simp at h
    .simp at h
    .rename_i l
     simp only[aO,dR]at h
     obtain⟨rfl,_⟩:=h
     obtain⟨u,m,c⟩:=D.get x
     obtain⟨v,n,e⟩:=E.get y
     simp only[Rep]at c e
     subst c;subst e
     refine s _ _ _ z (by simpa using m) (by simpa using n) (by simp[sZ,l]) ?_ p
     rw[<-SQ]
     exact run_equalIn_string w d f.type a t l
    all_goals simp at h
   .cases g
theorem Ud{t:TypeId}{p:List (Nat×EqK)}{xs y:List V}{b:Bool}{u a:Array Value}(h:oK P t=some p)(f:eqL p xs y=some b)(r:Reps L w xs u.toList)(i:Reps L w y a.toList) :
  (Op.equal t (.agg u) (.agg a)).run P w = .ok b w:=by
 obtain⟨g,d,c,e⟩:=NG h
 show(Op.equalIn (9999+1) t (.agg u) (.agg a)).run P w=_
 rw[run_equalIn_struct w 9999 t u a c g]
 grind[afD]
theorem Ue{op:BinOp}{t:TypeId}(h:P.eqGuardType P.depth t=false)(x y:Operand)(u v:Array Value):(eqGuard op t x y (.agg u) (.agg v)).run P w = .ok () w:=by cases op<;>simp[eqGuard,h]
theorem apv{s:BinOp}{t:TypeId}{x y r:V}{C D:Value}(h:PY P s t x y=some r)(k:Rep L w x C)(d:Rep L w y D)(F G:Operand) :
  ∃u,(do eqGuard s t F G C D;binOp s t C D:Sem Value).run P w = .ok u w/\Rep L w r u:=by
 unfold PY at h
 split at h
 .simp only[Rep]at d;subst d;simp only[dh,bF]at h;obtain⟨f,b,c,rfl⟩:=h;obtain⟨p,rfl,q⟩:=VN c k;obtain⟨e,j,i,m,l⟩:=JW f;refine⟨.bool p.isNone,?_,by rw[q];rfl⟩;rw[Sem.run_bind,wI _ _ _ _ _ _ Aa Aa];exact run_eql_pointer_nil w t p (by rw[l];exact i)
 .simp only[Rep]at d;subst d;simp only[dh,bF]at h;obtain⟨f,b,c,rfl⟩:=h;obtain⟨p,rfl,q⟩:=VN c k;obtain⟨e,j,i,m,l⟩:=JW f;refine⟨.bool (!p.isNone),?_,by rw[q];rfl⟩;rw[Sem.run_bind,wI _ _ _ _ _ _ Aa Aa];exact run_neq_pointer_nil w t p (by rw[l];exact i)
 .simp only[dh,aO]at h;obtain⟨⟨f,rfl,rfl⟩,rfl⟩:=h;obtain⟨g,⟨o,_⟩,rfl⟩:=k;obtain⟨E,⟨a,_⟩,rfl⟩:=d;rw[o]at a;simp only[aO]at a;subst a;obtain⟨e,j,i,m,l⟩:=JW f;refine⟨.bool true,?_,rfl⟩;rw[Sem.run_bind,wI _ _ _ _ _ _ Aa Aa];exact run_eql_ptr_same w _ i m
 .simp only[dh,aO]at h;obtain⟨⟨f,rfl,rfl⟩,rfl⟩:=h;obtain⟨g,⟨o,_⟩,rfl⟩:=k;obtain⟨E,⟨a,_⟩,rfl⟩:=d;rw[o]at a;simp only[aO]at a;subst a;obtain⟨e,j,i,m,l⟩:=JW f;refine⟨.bool false,?_,rfl⟩;rw[Sem.run_bind,wI _ _ _ _ _ _ Aa Aa];exact Lib.run_neq_ptr_same w _ i m
 .simp only[bg,bF]at h;obtain⟨H,c,b,n,rfl⟩:=h;obtain⟨u,rfl,z⟩:=k;obtain⟨v,rfl,A⟩:=d;refine⟨.bool b,?_,rfl⟩;rw[Sem.run_bind,Ue (NG c).2.1];have:=Ud c n z A;simp only[binOp,Result.andThen_ok,Sem.run_bind,this,Sem.run_pure]
 .simp only[bg,bF]at h;obtain⟨H,c,b,n,rfl⟩:=h;obtain⟨u,rfl,z⟩:=k;obtain⟨v,rfl,A⟩:=d;refine⟨.bool (!b),?_,rfl⟩;rw[Sem.run_bind,Ue (NG c).2.1];have:=Ud c n z A;simp only[binOp,Result.andThen_ok,Sem.run_bind,this,Sem.run_pure]
 .cases h
theorem acJ{o:BinOp}{t:TypeId}{x y r:V}{m p:Value}(h:bU P o t x y=some r)(f:Rep L w x m)(g:Rep L w y p)(q s:Operand) :
  ∃u,(do eqGuard o t q s m p;binOp o t m p:Sem Value).run P w = .ok u w/\Rep L w r u:=by
 unfold bU at h
 split at h
 .subst f;subst g;simp only[axl,aO]at h;obtain⟨d,rfl⟩:=h;refine⟨_,?_,rfl⟩;rw[Sem.run_bind,wI _ _ _ _ _ _ Aa Aa];simp[binOp,Op.shift,d]
 .subst f;subst g;simp only[axl,aO]at h;obtain⟨d,rfl⟩:=h;refine⟨_,?_,rfl⟩;rw[Sem.run_bind,wI _ _ _ _ _ _ Aa Aa];simp[binOp,Op.shift,d]
 .subst f;subst g;simp at h;obtain⟨rfl,v,i,rfl⟩:=h;exact⟨v,by rw[Sem.run_bind,wI _ _ _ _ _ _ Aa Aa];exact aci i t,rfl⟩
 .subst f;subst g;simp at h;obtain⟨v,i,rfl⟩:=h;exact⟨v,by rw[Sem.run_bind,wI _ _ _ _ _ _ Aa Aa];exact aud i t,rfl⟩
 .subst f;subst g;simp at h;obtain⟨d,rfl⟩:=h;exact⟨_,by rw[];exact run_eql_bool w t _ _ (VK d),rfl⟩
 .subst f;subst g;simp at h;obtain⟨d,rfl⟩:=h;exact⟨_,by rw[];exact run_neq_bool w t _ _ (VK d),rfl⟩
 .subst g;simp only[dh,bF]at h;obtain⟨d,b,i,rfl⟩:=h;obtain⟨a,n,c,rfl,j⟩:=VO i f;obtain⟨e,k⟩:=pF.1 d;have l:=iw k;refine⟨.bool a.isNone,?_,by rw[j];rfl⟩;rw[Sem.run_bind,wI _ _ _ _ _ _ Aa Aa];simp[binOp];simp[YM l]
 .subst g;simp only[dh,bF]at h;obtain⟨d,b,i,rfl⟩:=h;obtain⟨a,n,c,rfl,j⟩:=VO i f;obtain⟨e,k⟩:=pF.1 d;have l:=iw k;refine⟨.bool (!a.isNone),?_,by rw[j];rfl⟩;rw[Sem.run_bind,wI _ _ _ _ _ _ Aa Aa];simp[binOp];simp[YM l]
 .exact apv h f g q s
end
abbrev BX:=Nat->Option (TypeId × List V)
end Go.Pg
end
section
namespace Go.Pg
open Go
def u8s:List V->Option (List Int)
 |[]=>some []
 | .c (.int .u8 n)::r=>(u8s r).map (n::·)
 |_=>none
def unV(op:UnOp)(x:V):Option V :=
 match op,x with
 | .neg,.c (.int k n)=>some (.c (.int k (k.wrap (0-n))))
 | .xor,.c (.int k n)=>some (.c (.int k (bits .xor k (if k.signed then -1 else k.max) n)))
 | .not,.c (.bool b)=>some (.c (.bool (!b)))
 |_,_=>none
def G7(P:Program)(t:TypeId):Option FloatKind:=match P.underlying t with|some (.float k)=>some k|_=>none
def zT(s:FloatKind)(b:Nat)(k:IntKind):Option Int:=match(s.decode b).toInt .zero with|some n=>if k.min<=n/\n<=k.max then some n else none|none=>none
def cxV(x y:V):Option V:=match x,y with | .c (.float k a),.c (.float c b)=>if k=c then some (.c (.complex k a b))else none|_,_=>none
def reV(x:V):Option V:=match x with | .c (.complex k a _)=>some (.c (.float k a))|_=>none
def imV(x:V):Option V:=match x with | .c (.complex k _ b)=>some (.c (.float k b))|_=>none
def lZ(P:Program)(src d:TypeId)(x:V):Option V :=
 match kS P d,x with
 |some k,.c (.int _ n)=>if(P.underlying src).isSome then some (.c (.int k (k.wrap n)))else none
 |none,.c (.int _ n)=>if(P.underlying src).isSome then(G7 P d).map fun k=>.c (.float k (k.nearest n))else none
 |some k,.c (.float s b)=>if(P.underlying src).isSome then(zT s b k).map fun n=>.c (.int k n)else none
 |_,.c (.string z)=>if(P.underlying src).isSome&&iU P d then some (.c (.string z))else none
 |_,.c (.slice none _ _)=>if((elemT P src).bind (kS P))=some .u8&&iU P d then some (.c (.string .empty))else none
 |_,.sl _ k xs=>if((elemT P src).bind (kS P))=some .u8&&iU P d&&k == 1 then(u8s xs).map fun a=>.c (.string (strOfNums a))else none
 |_,_=>none
def tV(b:Bool)(x y:V):V :=
 match x,y with
 | .c (.bool p),.c (.bool q)=>.c (.bool (bif b then p else q))
 |x,y=>bif b then x else y
def jI(P:Program)(t:TypeId)(cs:List V)(off:Nat):Option V :=
 match sZ P t with
 |some true=>(tsz P t).bind fun n=>if off+n<=cs.length then some (.agg ((cs.drop off).take n))else none
 |some false=>cs[off]?
 |none=>none
def iaV(P:Program)(t:TypeId)(x i:V):Option V :=
 match x,i with
 | .sl a k xs,.c (.int _ n)=>if(elemT P t).bind (tsz P)=some k/\0<=n/\n<xs.length then some (.el a k xs n.toNat 0)else none
 | .ref b off,.c (.int _ n)=>(sH P t).bind fun(len,e)=>(tsz P e).bind fun k=>if 0<=n/\n<len then some (.ref b (off+n.toNat*k))else none
 | .bs b _ o k m,.c (.int _ n)=>if(elemT P t).bind (tsz P)=some k/\0<=n/\n<m then some (.ref b (o+n.toNat*k))else none
 |_,_=>none
def faV(P:Program)(t:TypeId)(x:V)(f:Nat):Option V :=
 (sU P t f).bind fun(ft,n)=>(tsz P ft).bind fun k=>if k=0 then none else
  match x with
  | .ref b off=>some (.ref b (off+n))
  | .el a j xs i off=>some (.el a j xs i (off+n))
  |_=>none
def EC(P:Program)(t:TypeId)(x:V)(f:Nat):Option V :=
 match x with
 | .agg cs=>(sU P t f).bind fun(ft,n)=>jI P ft cs n
 |_=>none
def ixV(P:Program)(t:TypeId)(x i:V):Option V :=
 match x,i with
 | .c (.string z),.c (.int _ n)=>if iU P t=true/\0<=n/\n<z.size then some (.c (.int .u8 ((z.data.toList.getD n.toNat 0).toNat)))else none
 | .agg cs,.c (.int _ n)=>(sH P t).bind fun(len,e)=>(tsz P e).bind fun k=>if 0<=n/\n<len then jI P e cs (n.toNat*k)else none
 |_,_=>none
def bdV(x:Option V)(d:Nat):Option Int :=
 match x with
 |none=>some d
 |some (.c (.int _ n))=>some n
 |_=>none
def slV(P:Program)(t:TypeId)(x:V)(lo hi:Option V):Option V :=
 match x with
 | .c (.string z)=>(bdV lo 0).bind fun l=>(bdV hi z.size).bind fun h=>if iU P t=true/\0<=l/\l<=h/\h<=z.size then some (.c (.string (z.extract l.toNat h.toNat)))else none
 | .sl .fz k xs=>(bdV lo 0).bind fun l=>(bdV hi xs.length).bind fun h=>if(elemT P t).bind (tsz P)=some k/\0<=l/\l<=h/\h<=xs.length then some (.sl .fz k ((xs.take h.toNat).drop l.toNat))else none
 | .c (.slice none 0 0)=>(bdV lo 0).bind fun l=>(bdV hi 0).bind fun h=>if((elemT P t).bind (tsz P)).isSome/\l=0/\h=0 then some (.c (.slice none 0 0))else none
 | .bs b be o k n=>(bdV lo 0).bind fun l=>(bdV hi n).bind fun h=>if(elemT P t).bind (tsz P)=some k/\0<=l/\l<=h/\h<=n/\(l=0\/l<n)then some (.bs b be (o+l.toNat*k) k (h.toNat-l.toNat))else none
 |_=>none
def rC(P:Program)(t:TypeId)(x:V):Option V :=
 match x with
 | .c (.string z)=>if iU P t then some (.c (.int .i64 z.size))else none
 | .c (.slice none n _)=>if(elemT P t).isSome then some (.c (.int .i64 n))else none
 | .sl _ _ xs=>if(elemT P t).isSome then some (.c (.int .i64 xs.length))else none
 | .bs _ _ _ _ n=>if(elemT P t).isSome then some (.c (.int .i64 n))else none
 |_=>none
def AC(m:Bool)(x y:V):Option V :=
 match x,y with
 | .c (.int k a),.c (.int _ b)=>some (.c (.int k (if m then(if b > a then b else a)else(if b<a then b else a))))
 |_,_=>none
def KI(P:Program)(t:TypeId):Option (List (Nat×Nat)) :=
 match P.underlying t with
 |some (.struct fs)=>fs.toList.mapM fun f=>(tsz P f.type).map fun n=>(f.offset,n)
 |some (.array n e)=>(tsz P e).map fun k=>(List.range n).map fun i=>(i*k,k)
 |_=>none
def uP(p:List (Nat×Nat))(cells:List V):List (Nat×V)->Option (List V)
 |[]=>some cells
 |(i,v)::r =>
  match p[i]?,v.cs with
  |some (off,size),some l=>if l.length=size/\off+l.length<=cells.length then uP p (cells.take off++l++cells.drop (off+l.length)) r else none
  |_,_=>none
def BR(P:Program)(t:TypeId)(parts:List (Nat×V)):Option V :=
 (lV P t).bind fun z=>(KI P t).bind fun ps=>(uP ps (z.cells.toList.map .c) parts).map .agg
section
variable {P:Program} {L:Lay} {w:World}
theorem Row.cell{g o j:Nat}{cells:List Value}{v:Value}(h:Row w g o cells)(hj:cells[j]?=some v):w.cell? ⟨g,o+j,none⟩=some v:=by obtain⟨arr,e,fr,h1,h2⟩:=h;rw[cell_of_row w g (o+j) arr e fr h1];grind
theorem ElMem.row{t:Tag}{g o:Nat}{cells:List Value}(h:ElMem L w t g o cells):Row w g o cells:=by
 cases t with
 |fz=>exact h.2
 |nn=>exact h.elim
 |own id e=>obtain⟨_,rfl,arr,h3,h4⟩:=h;exact⟨arr,e,_,h3,by simpa using h4⟩
theorem SlMem.el{t:Tag}{k:Nat}{a:Option Addr}{len cap:Nat}{cells:List Value}(h:SlMem L w t k a len cap cells)(d:0<len)(c:cells.length=len*k) :
  ∃g o,a=some ⟨g,o,none⟩/\ElMem L w t g o cells:=by
 cases t with
 |fz =>
  obtain⟨_,h|⟨g,o,h1,h2,h3⟩⟩:=h
  .omega
  .exact⟨g,o,h1,h2,h3⟩
 |nn=>have:=h.1;omega
 |own id e =>
  rcases h with⟨h,_⟩|⟨g,arr,h1,h2,h3,h4,h5,f,b⟩
  .omega
  .exact⟨g,0,h2,h1,rfl,arr,h3,by rw[c];exact b⟩
theorem SlMem.le{t:Tag}{k:Nat}{a:Option Addr}{len cap:Nat}{cells:List Value}(h:SlMem L w t k a len cap cells):len<=cap:=by
 cases t with
 |fz=>exact h.1
 |nn=>have:=h.1;omega
 |own id e=>rcases h with⟨h,_,_⟩|⟨g,arr,h1,h2,h3,h4,_⟩<;>omega
theorem jO(g o n:Nat):(⟨g,o,none⟩:Addr).add n=⟨g,o+n,none⟩:=Addr.add_lit g o n
theorem Wj{t:TypeId}{cs:List V}{off g o:Nat}{r:V}{us:List Value}(h:jI P t cs off=some r)(b:Reps L w cs us)(f:Row w g o us) :
  ∃u,(loadVar t ⟨g,o+off,none⟩).run P w = .ok u w/\Rep L w r u:=by
 unfold jI at h
 split at h
 .rename_i ha;simp[bg]at h;obtain⟨n,l,k,rfl⟩:=h;have hl:=b.length;have c:=(b.drop off).take n;have a:((us.drop off).take n).length=n:=by simp;omega
  have i:∀j v,((us.drop off).take n)[j]?=some v->w.cell? ((⟨g,o+off,none⟩:Addr).add j)=some v:=by intro j v hj;rw[jO,Nat.add_assoc];refine f.cell ?_;grind
  refine⟨.agg ((us.drop off).take n).toArray,?_,_,rfl,by simpa using c⟩;have:=run_loadCells_list (P:=P) w ⟨g,o+off,none⟩ _ i;rw[a]at this;simp[loadVar,FO ha,mF l,this]
 .rename_i ha;obtain⟨u,m,d⟩:=b.get h;refine⟨u,?_,d⟩;simp[loadVar,FO ha,f.cell m]
 .cases h
theorem X4{t:TypeId}{cs:List V}{off:Nat}{r:V}{us:Array Value}(h:jI P t cs off=some r)(b:Reps L w cs us.toList) :
  ∃u,(part t us off).run P w = .ok u w/\Rep L w r u:=by
 unfold jI at h
 split at h
 .rename_i ha;simp[bg]at h;obtain⟨n,f,d,rfl⟩:=h;have g:=(b.drop off).take n;refine⟨.agg (us.extract off (off+n)),by simp[part,FO ha,mF f],_,rfl,?_⟩;simp_all
 .rename_i ha;obtain⟨u,c,a⟩:=b.get h;refine⟨u,?_,a⟩;simp at c;simp[part,FO ha,c]
 .cases h
theorem auH{xs:List V}{b:List Int}{cells:List Value}(h:u8s xs=some b)(r:RepE L w 1 xs cells):cells=b.map (Value.int .u8):=by
 induction xs generalizing b cells with
 |nil=>simp[u8s]at h;subst h;simpa[RepE]using r
 |cons x xs i =>
  unfold u8s at h;split at h
  .grind
  .rename_i n r' a;obtain⟨rfl,rfl⟩:=a;simp at h;obtain⟨d,h1,rfl⟩:=h;obtain⟨u,c,rfl,_,_,h4,h5⟩:=r;subst h4;rw[i h1 h5];rfl
  .cases h
theorem auP{op:UnOp}{x r:V}{u:Value}(h:unV op x=some r)(a:Rep L w x u):∃v,(Op.unary op u).run P w = .ok v w/\Rep L w r v:=by
 unfold unV at h;split at h
 .subst a;simp at h;subst h;exact⟨_,by rfl,by simp[Rep]⟩
 .subst a;simp at h;subst h;exact⟨_,rfl,rfl⟩
 .subst a;simp at h;subst h;exact⟨_,rfl,rfl⟩
 .cases h
theorem agl{P:Program}{t:TypeId}{k:FloatKind}(h:G7 P t=some k):P.underlying t=some (.float k):=by grind[G7]
theorem aeq{at_:Array TypeId}{ty:TypeId}{x y r:V}{u f:Value}(h:cxV x y=some r)(c:Rep L w x u)(d:Rep L w y f):∃v,(Builtin.complex_ at_ ty #[u,f]).run P w = .ok v w/\Rep L w r v:=by
 unfold cxV at h;split at h
 .simp at h;obtain⟨rfl,rfl⟩:=h;simp[Rep]at c d;subst c;subst d;rename_i k a b;exact⟨.complex k a b,by cases k<;>rfl,by simp[Rep]⟩
 .cases h
theorem apM{at_:Array TypeId}{ty:TypeId}{x r:V}{u:Value}(h:reV x=some r)(c:Rep L w x u):∃v,(Builtin.real_ at_ ty #[u]).run P w = .ok v w/\Rep L w r v:=by
 unfold reV at h;split at h
 .simp at h;subst h;simp[Rep]at c;subst c;rename_i k a b;exact⟨.float k a,rfl,by simp[Rep]⟩
 .cases h
theorem ajv{at_:Array TypeId}{ty:TypeId}{x r:V}{u:Value}(h:imV x=some r)(c:Rep L w x u):∃v,(Builtin.imag_ at_ ty #[u]).run P w = .ok v w/\Rep L w r v:=by
 unfold imV at h;split at h
 .simp at h;subst h;simp[Rep]at c;subst c;rename_i k a b;exact⟨.float k b,rfl,by simp[Rep]⟩
 .cases h
theorem adX{src c:TypeId}{x r:V}{u:Value}(h:lZ P src c x=some r)(j:Rep L w x u):∃v,(convert src c u).run P w = .ok v w/\Rep L w r v:=by
 unfold lZ at h;split at h
 .rename_i k E n hk;simp only[dh,aO]at h;obtain⟨f,rfl⟩:=h;obtain⟨d,hd⟩:=pF.1 f;simp only[Rep]at j;subst j;exact⟨_,by simp[convert,run_underlying hd,run_underlying (CV hk),Conv.intToInt],rfl⟩
 .simp only[dh,bF]at h;obtain⟨f,k,hk,rfl⟩:=h;obtain⟨d,hd⟩:=pF.1 f;simp only[Rep]at j;subst j;exact⟨_,by simp[convert,run_underlying hd,run_underlying (agl hk),Conv.intToFloat],rfl⟩
 .rename_i k s b hk;simp only[dh,bF]at h;obtain⟨f,n,p,rfl⟩:=h;obtain⟨d,hd⟩:=pF.1 f;simp only[Rep]at j;subst j;refine⟨_,?_,rfl⟩;unfold zT at p;split at p
  .rename_i m hm;simp only[dh,aO]at p;obtain⟨h1,rfl⟩:=p;simp[convert,run_underlying hd,run_underlying (CV hk),Conv.floatToInt,hm,h1]
  .cases p
 .rename_i z hk;simp only[dh,lL,aO]at h;obtain⟨⟨f,h1⟩,rfl⟩:=h;obtain⟨d,hd⟩:=pF.1 f;simp only[Rep]at j;subst j;exact⟨_,by simp[convert,run_underlying hd,run_underlying (yM h1)],rfl⟩
 .simp only[dh,lL,Ru,bg,aO]at h;obtain⟨⟨⟨e,he,hk⟩,h1⟩,rfl⟩:=h;simp only[Rep]at j;subst j;exact⟨_,run_convert_bytes_nil w src e (iw he) (CV hk) _ _ c (yM h1),rfl⟩
 .rename_i t k xs;simp only[dh,lL,Ru,bg,bF,beq_iff_eq]at h;obtain⟨⟨⟨⟨e,he,hk⟩,h1⟩,rfl⟩,C,A,rfl⟩:=h;obtain⟨a,cap,cells,rfl,h2,h3⟩:=j;have l:=h2.length;have q:=auH A h2;subst q;simp only[aj,Nat.mul_one]at l;rcases gG xs.length with f|f
  .have y:C=[]:=kJ Om;subst y;refine⟨.string .empty,?_,?_⟩
   .rw[f,run_convert_bytes_string w src c e a 0 cap (iw he) (CV hk) (yM h1)];cases a<;>simp[Conv.bytesToString,loadCells,loadCellsFrom]
   .rfl
  .obtain⟨g,o,rfl,h4⟩:=h3.el f (by simpa using l);refine⟨_,run_convert_bytes_arg w src e (iw he) (CV hk) g o _ cap C l ?_ c (yM h1),rfl⟩;intro i hi;refine h4.row.cell ?_;simp[dY (show i<C.length by omega),List.getD]
 .cases h
theorem ape{b:Bool}{x y:V}{u a:Value}(r:Rep L w x u)(c:Rep L w y a):Rep L w (tV b x y) (if b then u else a):=by unfold tV;grind
theorem ai2{t:TypeId}{x i r:V}{q u:Value}(h:iaV P t x i=some r)(l:Rep L w x q)(d:Rep L w i u):∃v,(Instr.indexAt t q u).run P w = .ok v w/\Rep L w r v:=by
 unfold iaV at h
 split at h
 .rename_i A k xs p n
  simp only[dh,bg,aO]at h
  obtain⟨⟨⟨e,he,hk⟩,f,h1⟩,rfl⟩:=h
  simp only[Rep]at d;subst d
  obtain⟨a,cap,cells,rfl,h2,h3⟩:=l
  obtain⟨g,o,rfl,h4⟩:=h3.el Om h2.length
  have j:=iw he
  refine⟨.pointer (some ⟨g,o+n.toNat*k,none⟩),?_,g,o,cells,by simp,h2,h4⟩
  simp[Instr.indexAt,asIntOf,run_underlying j,f,h1,mF hk,jO]
 .rename_i b off p n
  simp[bg,dh,aO,uD]at h
  obtain⟨len,e,he,k,hk,⟨f,h1⟩,rfl⟩:=h
  simp[Rep]at d;subst d
  obtain⟨g,hb,rfl⟩:=l
  have j:=MK he
  refine⟨.pointer (some ⟨g,off+n.toNat*k,none⟩),?_,g,hb,rfl⟩
  simp[Instr.indexAt,asIntOf,run_underlying j,Instr.sureAddr,f,h1,mF hk,jO]
 .rename_i b be o s m p n
  simp[dh,aO,bg]at h
  obtain⟨⟨⟨e,he,hk⟩,f,h1⟩,rfl⟩:=h
  simp[Rep]at d;subst d
  obtain⟨y,rfl⟩|⟨g,cap,arr,hb,rfl,c⟩:=l
  .omega
  have j:=iw he
  refine⟨.pointer (some ⟨g,o+n.toNat*s,none⟩),?_,g,⟨hb,_,_,c.1⟩,rfl⟩
  simp[Instr.indexAt,asIntOf,run_underlying j,f,h1,mF hk,jO]
 .cases h
theorem afR{t:TypeId}{f:Nat}{x r:V}{u:Value}(h:faV P t x f=some r)(m:Rep L w x u):∃v,(Instr.fieldAt t u f).run P w = .ok v w/\Rep L w r v:=by
 simp[faV,bg]at h;obtain⟨ft,n,hf,k,hk,c,h⟩:=h;obtain⟨fs,d,l,a,h1,h2⟩:=Ui hf;subst h1 h2;split at h
 .rename_i b off;simp at h;subst h;obtain⟨g,hb,rfl⟩:=m;refine⟨.pointer (some ⟨g,off+d.offset,none⟩),?_,g,hb,rfl⟩;simp[Instr.fieldAt,run_underlying l,a,Instr.sureAddr,fieldPlace,mF hk,c,jO]
 .rename_i p j xs i off;simp at h;subst h;obtain⟨g,o,cells,rfl,h3,h4⟩:=m;refine⟨.pointer (some ⟨g,o+i*j+(off+d.offset),none⟩),?_,g,o,cells,rfl,h3,h4⟩;simp[Instr.fieldAt,run_underlying l,a,Instr.sureAddr,fieldPlace,mF hk,c,jO]
 .cases h
theorem afT{t:TypeId}{f:Nat}{x r:V}{c:Value}(h:EC P t x f=some r)(i:Rep L w x c):∃v,(Instr.field t c f).run P w = .ok v w/\Rep L w r v:=by
 unfold EC at h;split at h
 .simp[bg]at h;obtain⟨ft,n,hf,h⟩:=h;obtain⟨fs,j,d,b,h1,h2⟩:=Ui hf;subst h1 h2;obtain⟨a,rfl,g⟩:=i;obtain⟨u,h3,h4⟩:=X4 h g;exact⟨u,by simp[Instr.field,run_underlying d,b,asAgg,h3],h4⟩
 .cases h
theorem akI{t:TypeId}{x i r:V}{j g:Value}(h:ixV P t x i=some r)(f:Rep L w x j)(c:Rep L w i g):∃v,(Instr.index t j g).run P w = .ok v w/\Rep L w r v:=by
 unfold ixV at h;split at h
 .rename_i z m n;simp only[dh,aO]at h;obtain⟨⟨d,h1,h2⟩,rfl⟩:=h;simp[Rep]at c f;subst c;subst f;have b:n.toNat<z.size:=Om;have hg:z[n.toNat]?=some z[n.toNat]:=getElem?_pos z n.toNat b
  have hd:z.data.toList.getD n.toNat 0=z[n.toNat]:=by
   have:n.toNat<z.data.toList.length:=by simpa using b
   simp[dY this];rfl
  refine⟨.int .u8 (z[n.toNat]).toNat,?_,by rw[hd];rfl⟩;simp[Instr.index,asIntOf,run_underlying (yM d),h1,hg]
 .simp[bg]at h;obtain⟨len,e,he,k,hk,⟨d,h1⟩,h⟩:=h;simp[Rep]at c;subst c;obtain⟨a,rfl,l⟩:=f;obtain⟨u,h3,h4⟩:=X4 h l;exact⟨u,by simp[Instr.index,asIntOf,run_underlying (MK he),d,h1,mF hk,h3],h4⟩
 .cases h
theorem alg{t ty:TypeId}{x r:V}{u:Value}(h:rC P t x=some r)(c:Rep L w x u):∃v,(Builtin.len_ #[t] ty #[u]).run P w = .ok v w/\Rep L w r v:=by
 unfold rC at h
 split at h
 .simp at h
  obtain⟨b,rfl⟩:=h
  simp[Rep]at c;subst c
  exact⟨_,by simp[Builtin.len_,run_underlying (yM b),goInt],rfl⟩
 .simp at h
  obtain⟨b,rfl⟩:=h
  obtain⟨e,he⟩:=pF.1 b
  simp[Rep]at c;subst c
  exact⟨_,by simp[Builtin.len_,run_underlying (iw he),goInt],rfl⟩
 .simp at h
  obtain⟨b,rfl⟩:=h
  obtain⟨e,he⟩:=pF.1 b
  obtain⟨a,cap,cells,rfl,h2,h3⟩:=c
  exact⟨_,by simp[Builtin.len_,run_underlying (iw he),goInt],rfl⟩
 .simp at h
  obtain⟨b,rfl⟩:=h
  obtain⟨e,he⟩:=pF.1 b
  obtain⟨f,rfl⟩|⟨g,cap,arr,hb,rfl,d⟩:=c
  .subst f;exact⟨_,by simp[Builtin.len_,run_underlying (iw he),goInt],rfl⟩
  exact⟨_,by simp[Builtin.len_,run_underlying (iw he),goInt],rfl⟩
 .cases h
theorem sJ{x:Option V}{a:Option Value}{d:Nat}{n:Int}(h:bdV x d=some n)(hx:x=none/\a=none\/∃v u,x=some v/\a=some u/\Rep L w v u) :
  (a=none/\n=d)\/∃k,a=some (.int k n):=by
 rcases hx with⟨rfl,rfl⟩|⟨v,u,rfl,rfl,b⟩
 .grind[bdV]
 .unfold bdV at h;grind[Rep]
theorem Ea{isS:Bool}{len cap:Nat}{lo hi:Option Value}{l h:Int}(b:len<=cap)(hl:(lo=none/\l=(0:Nat))\/∃k,lo=some (.int k l))(a:(hi=none/\h=len)\/∃k,hi=some (.int k h))
  (c:0<=l) (h1:l<=h) (h2:h<=len):(Instr.sliceBounds isS len cap lo hi none).run P w = .ok (l.toNat,h.toNat,cap) w:=by
 have e:(h.toNat:Int)=h:=Om
 have h3:0<=h:=Om
 have h4:h<=cap:=Om
 rcases hl with⟨rfl,rfl⟩|⟨k,rfl⟩<;>rcases a with⟨rfl,rfl⟩|⟨d,rfl⟩ <;>
  simp[Instr.sliceBounds,Instr.sliceBound,asIntOf, *]
theorem Y1{t:TypeId}{x r:V}{I:Value}{lo hi:Option V}{H G:Option Value}(h:slV P t x lo hi=some r)(j:Rep L w x I)
  (q:lo=none/\H=none\/∃v u,lo=some v/\H=some u/\Rep L w v u) (p:hi=none/\G=none\/∃v u,hi=some v/\G=some u/\Rep L w v u) :
  ∃v,(Instr.sliceAt t I H G none).run P w = .ok v w/\Rep L w r v:=by
 unfold slV at h
 split at h
 .rename_i z;simp only[bg,dh,aO]at h;obtain⟨l,hl,c,d,⟨E,m,h1,h2⟩,rfl⟩:=h;simp only[Rep]at j;subst j;have hb:=Ea (P:=P) (w:=w) (isS:=false) (az _) (sJ hl q) (sJ d p) m h1 h2;exact⟨_,by simp[Instr.sliceAt,Instr.slice,run_underlying (yM E),hb],rfl⟩
 .rename_i k xs;simp only[bg,dh,aO]at h;obtain⟨l,hl,c,d,⟨⟨e,he,hk⟩,m,h1,h2⟩,rfl⟩:=h;obtain⟨a,cap,cells,rfl,h3,h4⟩:=j;have C:=h4.le;have hb:=Ea (P:=P) (w:=w) (isS:=true) C (sJ hl q) (sJ d p) m h1 h2;refine⟨.slice (if cap=l.toNat then a else a.map (·.add (l.toNat*k))) (c.toNat-l.toNat) (cap-l.toNat),?_,?_⟩
  .simp[Instr.sliceAt,Instr.slice,run_underlying (iw he),hb,mF hk]
  .have i:((xs.take c.toNat).drop l.toNat).length=c.toNat-l.toNat:=by simp;omega
   refine⟨_,_,(cells.take (c.toNat*k)).drop (l.toNat*k),by rw[i],(h3.take _).drop _,?_⟩;rw[i];refine⟨by omega,?_⟩;rcases gG (c.toNat-l.toNat)with F|F
   .omega
   .right;obtain⟨g,o,rfl,hA,arr,J,fr,h5,K⟩:=h4.el (by omega) h3.length;refine⟨g,o+l.toNat*k,?_,hA,arr,J,fr,h5,?_⟩
    .grind[jO]
    .rw[<-K];have R:cells.length=xs.length*k:=h3.length;simp only[<-su];have:(((arr.toList.drop o).take cells.length).take (c.toNat*k))=(arr.toList.drop o).take (c.toNat*k):=by grind[Nat.min_eq_left,Nat.mul_le_mul_right]
     rw[this,sD];simp only[bI,eH];congr 1;have U:cells.length<=arr.toList.length-o:=by grind
     have M:c.toNat*k<=xs.length*k:=vY _ (by omega);omega
 .simp only[bg,dh,aO]at h;obtain⟨l,hl,c,d,⟨E,rfl,rfl⟩,rfl⟩:=h;simp only[Rep]at j;subst j;obtain⟨k,hk⟩:=pF.1 E;simp only[bg]at hk;obtain⟨e,he,hk⟩:=hk;have hb:=Ea (P:=P) (w:=w) (isS:=true) (len:=0) (cap:=0) (az _) (sJ hl q) (sJ d p) (by decide) (by decide) (by decide);exact⟨_,by simp[Instr.sliceAt,Instr.slice,run_underlying (iw he),hb,mF hk],rfl⟩
 .rename_i b be o k n;simp only[bg,dh,aO]at h;obtain⟨l,hl,c,d,⟨⟨e,he,hk⟩,m,h1,h2,M⟩,rfl⟩:=h;obtain⟨F,rfl⟩|⟨g,cap,arr,hg,rfl,ha,s,N,Q⟩:=j
  .subst F;have A:l=0:=by omega
   have y:c=0:=by omega
   subst A y;have hb:=Ea (P:=P) (w:=w) (isS:=true) (len:=0) (cap:=0) (az _) (sJ hl q) (sJ d p) (by decide) (by decide) (by decide);exact⟨_,by simp[Instr.sliceAt,Instr.slice,run_underlying (iw he),hb,mF hk],.inl ⟨rfl,rfl⟩⟩
  .have hb:=Ea (P:=P) (w:=w) (isS:=true) s (sJ hl q) (sJ d p) m h1 h2;have T:l.toNat<=cap:=by omega
   have hm:l.toNat*k+(cap-l.toNat)*k=cap*k:=by rw[<-nK];congr 1;omega
   refine⟨.slice (some ⟨g,o+l.toNat*k,none⟩) (c.toNat-l.toNat) (cap-l.toNat),?_,.inr ⟨g,cap-l.toNat,arr,hg,rfl,ha,by omega,by omega,by omega⟩⟩;have S:(if cap=l.toNat then(⟨g,o,none⟩:Addr)else(⟨g,o,none⟩:Addr).add (l.toNat*k))=⟨g,o+l.toNat*k,none⟩:=by grind[jO]
   have f:(if cap=l.toNat then some (⟨g,o,none⟩:Addr)else(some (⟨g,o,none⟩:Addr)).map (·.add (l.toNat*k)))=some ⟨g,o+l.toNat*k,none⟩:=by grind
   simp only[mQ]at f;simp[Instr.sliceAt,Instr.slice,run_underlying (iw he),hb,mF hk,f]
 .cases h
theorem ak5{t:TypeId}{m:Tag}{k i off:Nat}{xs:List V}{d:Value}{x r:V}{cs:List V}(l:Rep L w (.el m k xs i off) d)(hx:xs[i]?=some x)(j:x.cs=some cs)(h:jI P t cs off=some r) :
  ∃v,(Instr.loadAt t d).run P w = .ok v w/\Rep L w r v:=by
 obtain⟨g,o,cells,rfl,h3,h4⟩:=l
 obtain⟨u,h5,n,p,f⟩:=h3.get hx
 have b:Row w g (o+i*k) u.cells.toList:=by obtain⟨arr,e,fr,c,a⟩:=h4.row;refine⟨arr,e,fr,c,?_⟩;grind[List.drop_drop,List.drop_take]
 obtain⟨v,c,a⟩:=Wj h (xE f j) b
 exact⟨v,by simpa[Instr.loadAt,Instr.sureAddr]using c,a⟩
theorem WU{m:Bool}{at_:Array TypeId}{ty:TypeId}{x y r:V}{u a:Value}(h:AC m x y=some r)(b:Rep L w x u)(c:Rep L w y a) :
  ∃v,(if m then Builtin.max_ at_ ty #[u,a]else Builtin.min_ at_ ty #[u,a]:Sem Value).run P w = .ok v w/\Rep L w r v:=by
 unfold AC at h
 split at h
 .simp at h;subst h;simp[Rep]at b c;subst b;subst c;cases m
  .exact⟨_,by rfl,by simp[Rep]⟩
  .exact⟨_,by rfl,by simp[Rep]⟩
 .cases h
theorem NQ(vs:List Value):∀(j off:Nat) (cs:Array Value),off+j+vs.length<=cs.size ->
  ((vs.zipIdx j).foldl (fun(cs:Array Value) (x:Value×Nat)=>cs.setIfInBounds (off+x.2) x.1) cs).toList=cs.toList.take (off+j)++vs++cs.toList.drop (off+j+vs.length):=by
 induction vs with
 |nil=>intro j off cs _;simp
 |cons v vs i =>intro j off cs h;simp only[dB]at h;simp only[List.zipIdx_cons,List.foldl_cons];rw[i (j+1) off _ (by simp;omega)];have e:=list_seg_step cs.toList (off+j) v vs (by simpa using by omega);simpa[Array.toList_setIfInBounds,Nat.add_assoc]using e
theorem Ul(ps:List (Nat×Nat))(c:Nat->Option (Nat×Nat))(hp:∀i x,ps[i]?=some x->c i=some x)(sv:Operand->V)(se:Operand->Value)(t:∀x,Rep L w (sv x) (se x)) :
  ∀(parts:List (Nat×Operand)) (cells r:List V) (a:Array Value),
  uP ps cells (parts.map fun p=>(p.1,sv p.2))=some r->Reps L w cells a.toList ->
  ∃n,Instr.fill c a (parts.map fun p=>(p.1,se p.2))=some n/\Reps L w r n.toList:=by
 intro parts
 induction parts with
 |nil =>intro cells r a h f;simp[dS,uP,aO]at h;subst h;exact⟨a,rfl,f⟩
 |cons p m v =>
   intro cells r a h f;obtain⟨i,x⟩:=p;have hv:=t x;simp[dm,uP]at h⊢;generalize se x=u at hv⊢;split at h
   .rename_i off size l q k;simp at h;have g:=xE hv k;have d:=g.length;have j:=f.length;simp at d j;have b:=NQ u.cells.toList 0 off a (by simp;omega);simp only[iQ,d]at b;have s:Reps L w (cells.take off++l++cells.drop (off+l.length)) (u.cells.zipIdx.foldl (fun cs (x:Value×Nat)=>cs.setIfInBounds (off+x.2) x.1) a).toList:=by rw[<-Array.foldl_toList,Array.toList_zipIdx,b];exact((f.take off).append g).append (f.drop _)
    simp[Instr.fill];grind
   .cases h
theorem aqR(fs:List Field):∀(ps:List (Nat×Nat)),(fs.mapM fun f=>(tsz P f.type).map fun n=>(f.offset,n))=some ps ->
  (fs.mapM fun f=>(do pure (f.offset,<-sizeOf f.type):Sem (Nat×Nat))).run P w = .ok ps w:=by
 induction fs with
 |nil=>intro ps h;simp at h;subst h;rfl
 |cons f fs i =>intro ps h;simp only[Gj,Option.bind_eq_bind,bg,bF,Option.pure_def,aO]at h;obtain⟨p,⟨n,b,rfl⟩,a,h1,rfl⟩:=h;simp only[Gj,Sem.run_bind,mF b,Result.andThen_ok,i a h1,Sem.run_pure]
theorem ado{t:TypeId}{parts:Array (Nat×Operand)}(sv:Operand->V)(se:Operand->Value)(g:∀x,Rep L w (sv x) (se x)){r:V}(h:BR P t (parts.toList.map fun p=>(p.1,sv p.2))=some r) :
  ∃v,(Instr.build t (parts.map fun(i,x)=>(i,se x))).run P w = .ok v w/\Rep L w r v:=by
 simp[BR,bg]at h
 obtain⟨z,l,ps,a,cs,b,rfl⟩:=h
 unfold KI at a
 split at a
 .rename_i fs d;obtain⟨u,h1,h2⟩:=Ul (L:=L) (w:=w) ps (ps.toArray[·]?) (fun i x h=>by simpa using h) sv se g parts.toList _ cs z.cells b (FM L w _);have hm:=aqR (P:=P) (w:=w) fs.toList ps a;have c:(fs.mapM fun f=>(do pure (f.offset,<-sizeOf f.type):Sem (Nat×Nat))).run P w = .ok ps.toArray w:=by rw[Array.mapM_eq_mapM_toList,Sem.run_map,hm];rfl
  refine⟨.agg u,?_,_,rfl,h2⟩;simp only[Instr.build,Sem.run_bind,DF l,Result.andThen_ok,run_underlying d,c,Rj,h1,Sem.run_pure]
 .rename_i n e d;simp at a;obtain⟨k,hk,rfl⟩:=a;obtain⟨u,h1,h2⟩:=Ul (L:=L) (w:=w) _ (fun i=>some (i*k,k)) (fun i x h=>by simp at h;obtain⟨j,hj,rfl⟩:=h;have:=(qK.1 hj).2;rw[List.getElem_range]at this;rw[this]) sv se g parts.toList _ cs z.cells b (FM L w _);refine⟨.agg u,?_,_,rfl,h2⟩;simp[Instr.build,DF l,run_underlying d,mF hk,h1]
 .cases a
end
end Go.Pg
end
section
namespace Go.Pg
open Go
def V.one:V->Bool
 | .c v=>v.oneCell'
 | .agg _=>false
 | .tup _=>false
 | .top=>false
 | .sl _ _ _=>true
 | .ref _ _=>true
 | .el _ _ _ _ _=>true
 | .fn _ _ _=>true
 | .nif=>true
 | .mh _ _=>true
 | .bs _ _ _ _ _=>true
def aF(id:Nat)(v:V):V:=if v.has id then .top else v
def frz(id:Nat)(v:V):V:=v.map (fun t=>if t.is id then .fz else t) _root_.id
def aY(id k i:Nat)(x:V)(v:V):V :=
 match v with
 | .sl (.own j e) a xs=>if j=id then(if a=k then .sl (.own j e) a (xs.set i x)else .top)else .sl (.own j e) a xs
 | .el (.own j e) a xs b off=>if j=id then(if a=k then .el (.own j e) a (xs.set i x) b off else .top)else .el (.own j e) a xs b off
 |v=>aF id v
def St.mapV(s:St)(ψ:V->V):St:={env:=fun t=>ψ (s.env t),bx:=fun b=>(s.bx b).map fun x=>(x.1,x.2.map ψ),nid:=s.nid,hd:=fun t=>ψ (s.hd t)}
structure Grow (w w':World):Prop where
 os:w'.os=w.os
 tape:w'.tape=w.tape
 output:w'.output=w.output
 size:w.heap.size<=w'.heap.size
 block:∀k,k<w.heap.size->w'.heap[k]?=w.heap[k]?
 drawn:w.drawn<=w'.drawn
def Grow.kp{w w':World}(G:Grow w w')(Wr:Nat->Prop){B:Nat}(hB:B<=w.heap.size):Kp Wr B w w' :=
 ⟨G.os,G.tape,G.output,G.size,fun k hk _=>G.block k Om,G.drawn⟩
def Grow.alloc(w:World)(o:Obj):Grow w (w.alloc o):=⟨rfl,rfl,rfl,by simp,fun k hk=>RowKit.Below.heap_alloc w o k hk,az _⟩
def Grow.drewAlloc(w:World)(o:Obj):Grow w (w.drew.alloc o):=⟨rfl,rfl,rfl,by simp,fun k hk=>RowKit.Below.heap_alloc w.drew o k hk,Nat.le_succ _⟩
structure Lay.Le (L L':Lay):Prop where
 A:∀g,L.A g->L'.A g
 own:∀i g,L.own i=some g->L'.own i=some g
 box:∀b g,L.box b=some g->L'.box b=some g
section
variable {P:Program} {C:Cx} {s:St} {L L':Lay} {a:Act} {w w':World}
theorem Sim.hB(S:Sim C s L a w):C.B<=w.heap.size:=S.kp.size
theorem Wf.whole(W:Wf C s.nid L w)(G:Grow w w')(E:L.Le L'):qN L L' w w' where
 fz':=rfl
 A:=fun g h=>⟨E.A g h,.of (G.block g (W.old g h))⟩
 own:=fun id _ _ g h=>⟨⟨rfl,E.own id g h⟩,G.block g (W.own id g h).1⟩
 box:=fun b _ g h=>⟨E.box b g h,.of (G.block g (W.boxW b g h).1)⟩
theorem BoxOk.grow{b:Nat}{cs:TypeId×List V}(W:Wf C s.nid L w)(G:Grow w w')(E:L.Le L')(h:BoxOk L w b cs):BoxOk L' w' b cs:=by exact h.keep rfl rfl (fun g h1=>⟨E.box b g h1,G.block g (W.boxW b g h1).1⟩) (fun _ h3=>h3.whole (W.whole G E))
theorem Sim.grow{s':St}(S:Sim C s L a w)(G:Grow w w')(E:L.Le L')(he:s'.env=s.env)(hb:∀b cs,s'.bx b=some cs->s.bx b=some cs\/BoxOk L' w' b cs)(wf:Wf C s'.nid L' w')(c:s'.hd=s.hd:=by rfl):Sim C s' L' a w' where
 defers:=S.defers
 size:=S.size
 env:=fun t=>by rw[he];exact(S.env t).whole (S.wf.whole G E)
 hid:=fun t=>by rw[c];exact(S.hid t).whole (S.wf.whole G E)
 box:=fun b cs h=>(hb b cs h).elim (fun h=>(S.box b cs h).grow S.wf G E) id
 wf:=wf
 kp:=S.kp.trans (G.kp C.Wr S.hB)
def Lay.addOwn(L:Lay)(i g:Nat):Lay:={L with own:=upd L.own i (some g)}
def Lay.addBox(L:Lay)(i g:Nat):Lay:={L with box:=upd L.box i (some g)}
def Lay.addA(L:Lay)(g:Nat):Lay:={L with A:=fun x=>L.A x\/x=g}
theorem Wf.leOwn(W:Wf C s.nid L w)(g:Nat):L.Le (L.addOwn s.nid g) :=
 ⟨fun _ h=>h,fun i a h=>by have:=W.nidO i a h;simp[Lay.addOwn,upd,show i≠s.nid by omega,h],fun _ _ h=>h⟩
theorem Wf.leBox(W:Wf C s.nid L w)(g:Nat):L.Le (L.addBox s.nid g) :=
 ⟨fun _ h=>h,fun _ _ h=>h,fun i a h=>by have:=W.nidB i a h;simp[Lay.addBox,upd,show i≠s.nid by omega,h]⟩
theorem Lay.leA(L:Lay)(g:Nat):L.Le (L.addA g):=⟨fun _ h=>.inl h,fun _ _ h=>h,fun _ _ h=>h⟩
theorem Wf.addOwn{nid:Nat}(W:Wf C nid L w)(hB:C.B<=w.heap.size)(c:w.heap.size<w'.heap.size):Wf C (nid+1) (L.addOwn nid w.heap.size) w' where
 nidO:=fun id g h=>by
  simp[Lay.addOwn,upd]at h;split at h
  .omega
  .have:=W.nidO id g h;omega
 nidB:=fun b g h=>by have:=W.nidB b g h;omega
 own:=fun id g h=>by
  simp[Lay.addOwn,upd]at h;split at h
  .simp at h;subst h;exact⟨c,.inl hB,fun h=>by have:=W.old _ h;omega⟩
  .obtain⟨h1,h2,h3⟩:=W.own id g h;exact⟨by omega,h2,h3⟩
 boxW:=fun b g h=>by obtain⟨h1,h2,h3⟩:=W.boxW b g h;exact⟨by omega,h2,h3⟩
 injO:=fun i j g h a=>by
  simp[Lay.addOwn,upd]at h a;split at h<;>split at a
  .omega
  .simp at h;have:=(W.own j _ a).1;omega
  .simp at a;have:=(W.own i _ h).1;omega
  .exact W.injO i j g h a
 injB:=W.injB
 dis:=fun i j g h a=>by
  simp[Lay.addOwn,upd]at h;split at h
  .simp at h;have:=(W.boxW j _ a).1;omega
  .exact W.dis i j g h a
 old:=fun g h=>by have:=W.old g h;omega
 frz:=W.frz
theorem Wf.addBox{nid:Nat}(W:Wf C nid L w)(hB:C.B<=w.heap.size)(c:w.heap.size<w'.heap.size):Wf C (nid+1) (L.addBox nid w.heap.size) w' where
 nidO:=fun b g h=>by have:=W.nidO b g h;omega
 nidB:=fun id g h=>by
  simp[Lay.addBox,upd]at h;split at h
  .omega
  .have:=W.nidB id g h;omega
 own:=fun b g h=>by obtain⟨h1,h2,h3⟩:=W.own b g h;exact⟨by omega,h2,h3⟩
 boxW:=fun id g h=>by
  simp[Lay.addBox,upd]at h;split at h
  .simp at h;subst h;exact⟨c,.inl hB,fun h=>by have:=W.old _ h;omega⟩
  .obtain⟨h1,h2,h3⟩:=W.boxW id g h;exact⟨by omega,h2,h3⟩
 injO:=W.injO
 injB:=fun i j g h a=>by
  simp[Lay.addBox,upd]at h a;split at h<;>split at a
  .omega
  .simp at h;have:=(W.boxW j _ a).1;omega
  .simp at a;have:=(W.boxW i _ h).1;omega
  .exact W.injB i j g h a
 dis:=fun i j g h a=>by
  simp[Lay.addBox,upd]at a;split at a
  .simp at a;have:=(W.own i _ h).1;omega
  .exact W.dis i j g h a
 old:=fun g h=>by have:=W.old g h;omega
 frz:=W.frz
theorem Wf.addA{nid:Nat}(W:Wf C nid L w)(hB:C.B<=w.heap.size)(a:w.heap.size<w'.heap.size):Wf C nid (L.addA w.heap.size) w' where
 nidO:=W.nidO
 nidB:=W.nidB
 own:=fun b g h=>by obtain⟨h1,h2,h3⟩:=W.own b g h;exact⟨by omega,h2,fun h=>h.elim h3 (fun h=>by omega)⟩
 boxW:=fun b g h=>by obtain⟨h1,h2,h3⟩:=W.boxW b g h;exact⟨by omega,h2,fun h=>h.elim h3 (fun h=>by omega)⟩
 injO:=W.injO
 injB:=W.injB
 dis:=W.dis
 old:=fun g h=>h.elim (fun h=>by have:=W.old g h;omega) (fun h=>by omega)
 frz:=fun g h=>h.elim (W.frz g) (fun h=>.inr (.inl Om))
theorem Wf.mono{nid n:Nat}(W:Wf C nid L w)(a:nid<=n)(c:w.heap.size<=w'.heap.size):Wf C n L w' where
 nidO:=fun id g h=>by have:=W.nidO id g h;omega
 nidB:=fun id g h=>by have:=W.nidB id g h;omega
 own:=fun b g h=>by obtain⟨h1,h2,h3⟩:=W.own b g h;exact⟨by omega,h2,h3⟩
 boxW:=fun b g h=>by obtain⟨h1,h2,h3⟩:=W.boxW b g h;exact⟨by omega,h2,h3⟩
 injO:=W.injO
 injB:=W.injB
 dis:=W.dis
 old:=fun g h=>by have:=W.old g h;omega
 frz:=W.frz
def Df(s:St)(e:TypeId)(l:List V):V×St:=(.ref s.nid 0,{s with bx:=upd s.bx s.nid (some (e,l)),nid:=s.nid+1})
theorem Reps.takeAll{l:List V}{us:List Value}(h:Reps L w l us):Reps L w l (us.take l.length):=by rw[oz (by rw[h.length];exact az _)];exact h
theorem auj{α:Type}(a u:List α)(off n:Nat)(h:off+u.length<=n)(b:n<=a.length):(a.take off++u++a.drop (off+u.length)).take n=(a.take n).take off++u++(a.take n).drop (off+u.length):=by
 have h1:(a.take off++u).length=off+u.length:=by simp;omega
 grind[List.drop_take,List.take_append,List.take_of_length_le]
theorem SizeKept.setRow{w:World}{g:Nat}{a arr:Array Value}{e:TypeId}(hg:w.heap[g]?=some (.cells a e (0,0)))(c:arr.size=a.size)(b:Nat):SizeKept w (w.setRow g arr) b:=by
 by_cases hj:b=g
 .subst hj;refine⟨fun d f h1 => ?_,fun i hi => ?_⟩
  .rw[hg]at h1;obtain⟨rfl,rfl,_⟩:=h1;exact⟨arr,setRow_heap w b _ arr _ _ hg,c⟩
  .cases i
   .obtain⟨_,_,h⟩:=hi;rw[hg]at h;cases h
   .obtain⟨_,_,_,_,h⟩:=hi;rw[hg]at h;cases h
 .exact .of (setRow_other w g b arr hj)
theorem Xf{e:TypeId}{l:List V}{us:Array Value}(S:Sim C s L a w)(c:Reps L w l us.toList) :
  ∃L',Sim C (Df s e l).2 L' a (w.alloc (.cells us e))/\Rep L' (w.alloc (.cells us e)) (Df s e l).1 (.pointer (some ⟨w.heap.size,0,none⟩)):=by
 have G:=Grow.alloc w (.cells us e)
 have E:=S.wf.leBox (s:=s) w.heap.size
 refine⟨L.addBox s.nid w.heap.size,S.grow G E rfl ?_ (S.wf.addBox S.hB Aa),w.heap.size,⟨by simp[Lay.addBox,upd],us,e,heap_alloc_new w _⟩,rfl⟩
 intro b cs h
 simp[Df,upd]at h
 split at h
 .rename_i hb;subst hb;simp at h;subst h;exact .inr (BoxOk.mk (g:=w.heap.size) (arr:=us) (by simp[Lay.addBox,upd]) (heap_alloc_new w _) (c.whole (S.wf.whole G E)).takeAll)
 .exact .inl h
def BN(P:Program)(s:St)(elem:TypeId):Option (V×St):=(lV P elem).map fun z=>Df s elem (z.cells.toList.map .c)
def BP(s:St)(e:TypeId)(x:V):Option (V×St):=x.cs.map fun l=>Df s e l
theorem aaK{elem:TypeId}{r:V}{s':St}(h:BN P s elem=some (r,s'))(S:Sim C s L a w) :
  ∃u w' L',(Instr.alloc elem true (.tuple #[])).run P w = .ok u w'/\Sim C s' L' a w'/\Rep L' w' r u:=by
 simp[BN]at h
 obtain⟨z,b,h⟩:=h
 obtain⟨L',h1,h2⟩:=Xf (e:=elem) (us:=z.cells) S (FM L w z.cells.toList)
 rw[h]at h1 h2
 exact⟨_,_,L',by simp[Instr.alloc,DF b,newVar,newRow],h1,h2⟩
theorem ada{elem:TypeId}{x r:V}{u:Value}{s':St}(h:BP s elem x=some (r,s'))(S:Sim C s L a w)(b:Rep L w x u) :
  ∃v w' L',(Instr.box elem u).run P w = .ok v w'/\Sim C s' L' a w'/\Rep L' w' r v:=by
 simp[BP]at h
 obtain⟨l,hl,h⟩:=h
 obtain⟨L',h1,h2⟩:=Xf (e:=elem) (us:=u.cells) S (xE b hl)
 rw[h]at h1 h2
 exact⟨_,_,L',by simp[Instr.box,newVar,newRow],h1,h2⟩
def nV(P:Program)(s:St)(t:TypeId)(b off:Nat):Option V:=(s.bx b).bind fun x=>jI P t x.2 off
theorem OV{t:TypeId}{b off:Nat}{r:V}{u:Value}(h:nV P s t b off=some r)(S:Sim C s L a w)(f:Rep L w (.ref b off) u) :
  ∃v,(Instr.loadAt t u).run P w = .ok v w/\Rep L w r v:=by
 simp only[nV,bg]at h
 obtain⟨⟨e,cs⟩,c,h⟩:=h
 obtain⟨g,⟨h1,d⟩,rfl⟩:=f
 obtain⟨arr,h2,h3⟩:=(S.box b _ c).cells h1 d
 obtain⟨v,h4,h5⟩:=Wj (P:=P) (g:=g) (o:=0) h h3 ⟨arr,e,(0,0),h2,by rw[lX,h3.length]⟩
 exact⟨v,by simpa[Instr.loadAt,Instr.sureAddr]using h4,h5⟩
theorem Yx{x:V}{u:Value}(h:Rep L w x u)(h1:x.one=true):u.oneCell'=true:=by
 cases x<;>simp[V.one]at h1
 case c v=>simp[Rep]at h;subst h;exact h1
 case sl=>obtain⟨_,_,_,rfl,_⟩:=h;rfl
 case ref=>obtain⟨_,_,rfl⟩:=h;rfl
 case el=>obtain⟨_,_,_,rfl,_⟩:=h;rfl
 case fn=>obtain⟨_,_,rfl,_⟩:=h;rfl
 case nif=>obtain⟨_,_,rfl⟩:=h;rfl
 case mh=>obtain⟨_,_,rfl⟩:=h;split<;>rfl
 case bs=>obtain⟨_,rfl⟩|⟨_,_,_,_,rfl,_⟩:=h<;>rfl
theorem KQ{l:List V}{us:List Value}(h:Reps L w l us)(h1:l.all V.one=true):∀u∈us,u.oneCell'=true:=by
 induction l generalizing us with
 |nil=>simp[Reps]at h;simp[h]
 |cons x xs i =>obtain⟨u,r,rfl,h2,h3⟩:=h;grind[Yx]
theorem YO{t:TypeId}{g o:Nat}{v:Value}{arr:Array Value}{e:TypeId}(a:tsz P t=some v.cells.size)(hg:w.heap[g]?=some (.cells arr e (0,0)))(h:o+v.cells.size<=arr.size)(h1:∀u∈v.cells.toList,u.oneCell'=true) :
  (Instr.storeAt t (.pointer (some ⟨g,o,none⟩)) v).run P w = .ok () (w.setRow g (arr.toList.take o++v.cells.toList++arr.toList.drop (o+v.cells.size)).toArray):=by
 have:=run_storeCells_at P g o e v.cells.toList 0 arr w hg (by simpa using h) h1
 simp[Instr.storeAt,Instr.sureAddr,storeVar,mF a,this]
theorem Kp.setRow{Wr:Nat->Prop}{B g:Nat}(arr:Array Value)(hg:B<=g\/Wr g):Kp Wr B w (w.setRow g arr) :=
 ⟨rfl,rfl,rfl,by simp,fun k hk a=>setRow_other w g k arr (fun e=>by subst e;exact hg.elim (fun h=>by omega) a),az _⟩
theorem ZY{g:Nat}{arr a:Array Value}{c:TypeId}(hg:w.heap[g]?=some (.cells a c (0,0)))(f:arr.size=a.size)(hA:¬L.A g)(d:∀i,L.own i≠some g):qN L L w (w.setRow g arr) where
 fz':=rfl
 A:=fun b h=>⟨h,.of (setRow_other w g b arr (fun e=>by subst e;exact hA h))⟩
 own:=fun id e _ b h=>⟨⟨rfl,h⟩,setRow_other w g b arr (fun e=>by subst e;exact d id h)⟩
 box:=fun _ _ b h=>⟨h,.setRow hg f b⟩
def oZ(P:Program)(s:St)(t:TypeId)(b off:Nat)(x:V):Option St :=
 (s.bx b).bind fun y=>x.cs.bind fun l=>if tsz P t=some l.length/\off+l.length<=y.2.length/\l.all V.one=true then
  some {s with bx:=upd s.bx b (some (y.1,y.2.take off++l++y.2.drop (off+l.length)))}else none
theorem QI{t:TypeId}{b off:Nat}{x:V}{u d:Value}{s':St}(h:oZ P s t b off x=some s')(S:Sim C s L a w)(F:Rep L w (.ref b off) u)(hx:Rep L w x d) :
  ∃w',(Instr.storeAt t u d).run P w = .ok () w'/\Sim C s' L a w':=by
 simp only[oZ,bg,dh,aO]at h
 obtain⟨⟨e,cs⟩,j,l,hl,⟨h1,h2,h3⟩,rfl⟩:=h
 simp only at h2
 obtain⟨g,⟨hg,E⟩,rfl⟩:=F
 obtain⟨arr,ha,f⟩:=(S.box b _ j).cells hg E
 simp only at ha f
 have c:=xE hx hl
 have k:d.cells.size=l.length:=by simpa using c.length
 have A:cs.length<=arr.size:=by have:=f.length;simp at this;omega
 obtain⟨G,m,n⟩:=S.wf.boxW b g hg
 have y:∀i,L.own i≠some g:=fun i h=>S.wf.dis i b g h hg
 have K:=ZY (w:=w) (arr:=(arr.toList.take off++d.cells.toList++arr.toList.drop (off+d.cells.size)).toArray) ha (by simp;omega) n y
 refine⟨_,YO (by rw[k];exact h1) ha (by omega) (KQ c h3),S.defers,S.size,fun t=>(S.env t).whole K,fun t=>(S.hid t).whole K,?_,S.wf.mono (az _) (by simp),S.kp.trans (Kp.setRow _ m)⟩
 intro p cs' h
 simp only[upd]at h
 split at h
 .rename_i hb;subst hb;simp only[aO]at h;subst h;refine BoxOk.mk hg (setRow_heap w g arr _ e _ ha) ?_;have:=(((f.take off).append c).append (f.drop (off+l.length))).whole K;have hd:off+l.length<=cs.length:=h2;have r:(cs.take off++l++cs.drop (off+l.length)).length=cs.length:=by simp;omega
  grind[Reps,auj]
 .rename_i hb;exact(S.box p cs' h).keep rfl rfl (fun q h4=>⟨h4,setRow_other w g q _ (fun e=>by subst e;exact hb (S.wf.injB p b q h4 hg))⟩) (fun _ v=>v.whole K)
theorem aiW{id:Nat}{v:V}(h:v.has id=false):v.any (Tag.is id) (fun _=>false) false=false:=h
theorem Io{id:Nat}(K:Trans (Tag.is id) (fun _=>false) _root_.id _root_.id L L' w w'){v:V}{u:Value}(h:Rep L w v u):Rep L' w' (aF id v) u:=by
 unfold aF;split
 .trivial
 .rename_i a;have:=h.trans rfl K (aiW (by simpa using a));rwa [map_id.1]at this
theorem Bf{ψ:V->V}(a:∀v u,Rep L w v u->Rep L' w' (ψ v) u){l:List V}{us:List Value}(h:Reps L w l us):Reps L' w' (l.map ψ) us:=by
 induction l generalizing us with
 |nil=>exact h
 |cons x xs i=>obtain⟨u,r,rfl,h2,h3⟩:=h;exact⟨u,r,rfl,a x u h2,i h3⟩
theorem Sim.mapV{nid:Nat}(S:Sim C s L a w){ψ:V->V}(d:∀v u,Rep L w v u->Rep L' w' (ψ v) u)(c:∀b g,L.box b=some g->L'.box b=some g/\w'.heap[g]?=w.heap[g]?)
  (wf:Wf C nid L' w') (kp:Kp C.Wr C.B w w'):Sim C {s.mapV ψ with nid:=nid} L' a w' where
 defers:=S.defers
 size:=S.size
 env:=fun t=>d _ _ (S.env t)
 hid:=fun t=>d _ _ (S.hid t)
 box:=fun b cs h=>by simp only[St.mapV,bF]at h;obtain⟨l,hl,rfl⟩:=h;exact(S.box b l hl).keep rfl (aj ..) (c b) (fun _ h3=>Bf d h3)
 wf:=wf
 kp:=S.kp.trans kp
def Lay.freeze(L:Lay)(id:Nat):Lay:={L with A:=fun g=>L.A g\/L.own id=some g,own:=fun j=>if j=id then none else L.own j}
theorem Sim.freeze(S:Sim C s L a w)(id:Nat):Sim C (s.mapV (frz id)) (L.freeze id) a w/\∀v u,Rep L w v u->Rep (L.freeze id) w (frz id v) u:=by
 have K:Trans (fun _=>false) (fun _=>false) (fun t=>if t.is id then .fz else t) _root_.id L (L.freeze id) w w:=by
  refine⟨Prod.ext rfl (Prod.ext rfl (funext fun j=>funext fun e => ?_)),fun g h=>⟨.inl h,.of rfl⟩,fun j e _ g h=>⟨?_,rfl⟩,fun _ _ _ h=>⟨h,.of rfl⟩⟩
  .show(if(j == id)=true then Tag.fz else Tag.own j e).notNN=true
   split<;>rfl
  grind[Tag.is,Lay.freeze]
 have d:∀v u,Rep L w v u->Rep (L.freeze id) w (frz id v) u:=fun v u h=>h.trans rfl K (MJ.1 v)
 refine⟨S.mapV (nid:=s.nid) d (fun b g h=>⟨h,rfl⟩) ?_ (Kp.refl _ _ _),d⟩
 have W:=S.wf
 exact{
  nidO:=fun j g h=>by
   simp only[Lay.freeze]at h
   split at h
   .cases h
   .exact W.nidO j g h
  nidB:=W.nidB
  own:=fun j g h=>by
   simp only[Lay.freeze]at h
   split at h
   .cases h
   .rename_i hj
    obtain⟨h1,h2,h3⟩:=W.own j g h
    exact⟨h1,h2,fun c=>c.elim h3 (fun c=>hj (W.injO j id g h c))⟩
  boxW:=fun b g h=>by
   obtain⟨h1,h2,h3⟩:=W.boxW b g h
   exact⟨h1,h2,fun c=>c.elim h3 (fun c=>W.dis id b g c h)⟩
  injO:=fun i j g h c=>by
   simp only[Lay.freeze]at h c
   split at h
   .cases h
   .split at c
    .cases c
    .exact W.injO i j g h c
  injB:=W.injB
  dis:=fun i j g h c=>by
   simp only[Lay.freeze]at h
   split at h
   .cases h
   .exact W.dis i j g h c
  old:=fun g h=>h.elim (W.old g) (fun h=>(W.own id g h).1)
  frz:=fun g h=>h.elim (W.frz g) (fun h=>.inr (W.own id g h).2.1)}
def tapp(P:Program)(e:TypeId):Option (Nat×Nat):=(P.info? e).bind fun i=>i.zero.bind fun z=>if z.cells.size=i.size/\0<i.size then some (i.size,i.bytes)else none
theorem pW{e:TypeId}{k b:Nat}(h:tapp P e=some (k,b)):∃i z,P.info? e=some i/\i.zero=some z/\z.cells.size=k/\i.size=k/\i.bytes=b/\0<k:=by grind[tapp,Option.bind_eq_some_iff]
def uI(z:ByteArray):List V:=z.data.toList.map fun b=>.c (.int .u8 b.toNat)
def rQ(P:Program)(t:TypeId)(k:Nat)(y:V):Option (List V) :=
 match y with
 | .sl _ a ys=>if a=k/\(elemT P t).isSome then some ys else none
 | .c (.slice none 0 _)=>if(elemT P t).isSome then some []else none
 | .c (.string z)=>if k=1/\iU P t=true then some (uI z)else none
 |_=>none
theorem SL(z:ByteArray):RepE L w 1 (uI z) (byteCells z):=by
 unfold uI byteCells
 induction z.data.toList with
 |nil=>rfl
 |cons b l i=>exact⟨_,_,rfl,rfl,⟨rfl,rfl⟩,rfl,i⟩
theorem QE{t:TypeId}{k:Nat}{y:V}{ys:List V}{u:Value}(h:rQ P t k y=some ys)(f:Rep L w y u) :
  ∃news,Src P k t u ys.length news w/\RepE L w k ys news:=by
 unfold rQ at h
 split at h
 .rename_i m n b;simp at h;obtain⟨⟨rfl,h1⟩,rfl⟩:=h;obtain⟨e,he⟩:=pF.1 h1;obtain⟨a,cap,cells,rfl,h2,h3⟩:=f;refine⟨cells,?_,h2⟩;cases a with
  |none =>
   have c:b.length=0:=by
    cases m with
    |fz =>
     rcases h3 with⟨_,h|⟨g,o,h,_⟩⟩
     .exact h
     .cases h
    |nn=>exact h3.1
    |own id e =>
     rcases h3 with⟨h,_⟩|⟨g,arr,_,h,_⟩
     .exact h
     .cases h
   have i:cells=[]:=kJ (by rw[h2.length,c,Nat.zero_mul]);subst i;rw[c];exact Src.ofNil w (iw he) cap
  |some ad =>
   refine Src.ofSlice w (iw he) ad _ cap cells h2.length ?_ h2.one;intro j v hj
   have d:0<b.length:=by
    rcases gG b.length with c|c
    .have i:cells=[]:=kJ (by rw[h2.length,c,Nat.zero_mul]);grind
    .exact c
   obtain⟨g,o,h5,l⟩:=h3.el d h2.length;simp at h5;subst h5;rw[jO];exact l.row.cell hj
 .simp at h;obtain⟨h1,rfl⟩:=h;obtain⟨e,he⟩:=pF.1 h1;simp[Rep]at f;subst f;exact⟨[],Src.ofNil w (iw he) _,rfl⟩
 .rename_i z;simp at h;obtain⟨⟨rfl,h1⟩,rfl⟩:=h;simp[Rep]at f;subst f;refine⟨byteCells z,?_,SL z⟩;have:=Src.ofString (P:=P) w (yM h1) z;simp_all[uI]
 .cases h
def Fits(n bytes:Nat):Prop:=n<=maxLen/\n*bytes<=140737488355328
instance (n bytes:Nat):Decidable (Fits n bytes):=by unfold Fits;infer_instance
def AP(ys:List V)(id:Nat)(e:TypeId):Tag:=match ys with|[]=>.nn|_::_=>.own id e
def uG(P:Program)(s:St)(t t2:TypeId)(x y:V):Option (V×St) :=
 (elemT P t).bind fun e=>(tapp P e).bind fun(k,bytes)=>(rQ P t2 k y).bind fun ys =>
  match x with
  | .c (.slice none 0 0)=>if Fits ys.length bytes then some (.sl (.own s.nid e) k ys,{s with nid:=s.nid+1})else none
  | .sl (.own id e') a xs=>if e'=e/\a=k/\Fits (xs.length+ys.length) bytes then some (.sl (.own id e) k (xs++ys),{s.mapV (aF id)with nid:=max s.nid (id+1)})else none
  | .sl .nn _ []=>if Fits ys.length bytes then some (.sl (AP ys s.nid e) k ys,{s with nid:=s.nid+1})else none
  |_=>none
theorem IA{t t2 ty e:TypeId}{i:TypeInfo}(d:P.underlying t=some (.slice e))(hi:P.info? e=some i){g n m cap:Nat}{arr:Array Value}(hg:w.heap[g]?=some (.cells arr e (0,0))){x:Value}{news:List Value}
  (b:Src P i.size t2 x m news w) (h:n+m<=cap) (a:n*i.size+news.length<=arr.size) :
  (Builtin.append_ #[t,t2] ty #[.slice (some ⟨g,0,none⟩) n cap,x]).run P w =
   .ok (.slice (some ⟨g,0,none⟩) (n+m) cap) (w.setRow g (arr.toList.take (n*i.size)++news++arr.toList.drop (n*i.size+news.length)).toArray):=by
 have c:=run_storeCells_at P g (n*i.size) e news 0 arr w hg (by simpa using a) b.one
 rcases b.kind with⟨e',hk⟩|hk<;>simp[Builtin.append_,run_underlying d,run_underlying hk,sizeOf,typeInfo,hi,b.len,h,b.cells,Addr.add_lit,c]
theorem Qu{t t2 ty e:TypeId}{i:TypeInfo}(a:P.underlying t=some (.slice e))(hi:P.info? e=some i){x:Value}{news:List Value}(h:Src P i.size t2 x 0 news w) :
  (Builtin.append_ #[t,t2] ty #[.slice none 0 0,x]).run P w = .ok (.slice none 0 0) w:=by
 rcases h.kind with⟨e',hk⟩|hk<;>simp[Builtin.append_,run_underlying a,run_underlying hk,sizeOf,typeInfo,hi,h.len,h.cells]
theorem YL{t t2 ty e:TypeId}{i:TypeInfo}(a:P.underlying t=some (.slice e))(hi:P.info? e=some i){ad:Addr}{x:Value}(h:Src P i.size t2 x 0 [] w) :
  (Builtin.append_ #[t,t2] ty #[.slice (some ad) 0 0,x]).run P w = .ok (.slice (some ad) 0 0) w:=by
 rcases h.kind with⟨e',hk⟩|hk<;>simp[Builtin.append_,run_underlying a,run_underlying hk,sizeOf,typeInfo,hi,h.len,h.cells,storeCells]
def iJ(w:World)(olds news:List Value)(n cap:Nat)(e:TypeId)(z:Value):Obj :=
 .cells ((olds++news).toArray++Builtin.zeroCells z.cells (grownCap w n cap e-n)) e
theorem Hq{olds news:List Value}{n cap k:Nat}{e:TypeId}{z:Value}{id:Nat}{L':Lay}{a:World}(ho:L'.own id=some w.heap.size)(b:a.heap[w.heap.size]?=some (iJ w olds news n cap e z))
  (c:z.cells.size=k) (hl:(olds++news).length=n*k) (hm:n<=maxLen) :
  SlMem L' a (.own id e) k (some ⟨w.heap.size,0,none⟩) n (grownCap w n cap e) (olds++news):=by
 refine .inr ⟨w.heap.size,_,ho,rfl,b,grownCap_ge w n cap e,grownCap_le_maxLen w n cap e hm,?_,?_⟩
 .have h:=grownCap_ge w n cap e;simp[size_zeroCells,c,hl,<-nK];grind
 .grind
theorem abL{t t2 ty:TypeId}{x y r:V}{ux uy:Value}{s':St}(h:uG P s t t2 x y=some (r,s'))(S:Sim C s L a w)(hx:Rep L w x ux)(hy:Rep L w y uy) :
  ∃u w' L',(Builtin.append_ #[t,t2] ty #[ux,uy]).run P w = .ok u w'/\Sim C s' L' a w'/\Rep L' w' r u:=by
 simp only[uG,bg,uD]at h
 obtain⟨e,he,k,bytes,hk,ys,hys,h⟩:=h
 obtain⟨i,z,hi,hz,Z,rfl,rfl,hpos⟩:=pW hk
 have X:=iw he
 obtain⟨news,d,J⟩:=QE hys hy
 have m:=J.length
 split at h
 .
  simp only[dh,aO,dR]at h
  obtain⟨⟨f,F⟩,rfl,rfl⟩:=h
  simp only[Rep]at hx;subst hx
  rcases gG ys.length with R|R
  .rw[R]at d
   have M:ys=[]:=kJ R
   subst M
   exact⟨_,w,L,Qu X hi d,⟨S.defers,S.size,S.env,S.hid,S.box,S.wf.mono Aa (az _),S.kp⟩,none,0,[],rfl,rfl,.inl ⟨rfl,rfl,rfl⟩⟩
  .have c:=run_append_grow_src (P:=P) w t t2 ty e i z X hi hz none 0 0 [] (by simp[Builtin.firstCells]) uy ys.length news d Om
    (by simp only[maxLen]at f;omega) (growslice_fits Om (by rw[nM];exact F))
   simp only[nM]at c
   have G:=Grow.drewAlloc w (iJ w [] news ys.length 0 e z)
   have E:=S.wf.leOwn (s:=s) w.heap.size
   have hh:(w.drew.alloc (iJ w [] news ys.length 0 e z)).heap[w.heap.size]?=some (iJ w [] news ys.length 0 e z):=heap_alloc_new w.drew _
   refine⟨_,_,L.addOwn s.nid w.heap.size,c,S.grow G E rfl (fun b cs h=>.inl h) (S.wf.addOwn S.hB Aa),_,_,news,rfl,?_,?_⟩
   .exact J.trans (p:=fun _=>false) (q:=fun _=>false) rfl (S.wf.whole G E)
   .have:=Hq (olds:=[]) (id:=s.nid) (L':=L.addOwn s.nid w.heap.size) (by simp[Lay.addOwn,upd]) hh Z (by simpa using m) f
    exact this
 .
  rename_i id e' k' xs
  simp only[dh,aO,dR]at h
  obtain⟨⟨rfl,rfl,f,F⟩,rfl,rfl⟩:=h
  obtain⟨ad,cap,cells,rfl,A,I⟩:=hx
  have Y:=A.length
  have N:∀g arr,L.own id=some g->Trans (Tag.is id) (fun _=>false) _root_.id _root_.id L L w (w.setRow g arr):=fun g arr hg =>
   ⟨rfl,fun U h=>⟨h,.of (setRow_other w g U arr (fun e=>by subst e;exact(S.wf.own id _ hg).2.2 h))⟩,
    fun j e hj U h=>⟨⟨rfl,h⟩,setRow_other w g U arr (fun e=>by subst e;have:=S.wf.injO j id _ h hg;simp[Tag.is,this]at hj)⟩,fun b _ U h=>⟨h,.of (setRow_other w g U arr (fun e=>by subst e;exact S.wf.dis id b _ hg h))⟩⟩
  have H:∀(olds:List Value),(Builtin.firstCells i.size xs.length (.slice ad xs.length cap)).run P w.drew = .ok olds.toArray w.drew->RepE L w i.size xs olds->cap<xs.length+ys.length ->
    ∃u w' L',(Builtin.append_ #[t,t2] ty #[.slice ad xs.length cap,uy]).run P w = .ok u w'/\Sim C {s.mapV (aF id)with nid:=max s.nid (id+1)} L' a w'/\Rep L' w' (.sl (.own id e') i.size (xs++ys)) u:=by
   intro olds hold hxo T
   have hol:=hxo.length
   have c:=run_append_grow_src (P:=P) w t t2 ty e' i z X hi hz ad xs.length cap olds hold uy ys.length news d T
    (by simp only[maxLen]at f;omega) (growslice_fits T F)
   have hh:(w.drew.alloc (iJ w olds news (xs.length+ys.length) cap e' z)).heap[w.heap.size]?=some (iJ w olds news (xs.length+ys.length) cap e' z):=heap_alloc_new w.drew _
   have G:=Grow.drewAlloc w (iJ w olds news (xs.length+ys.length) cap e' z)
   have K:Trans (Tag.is id) (fun _=>false) _root_.id _root_.id L (L.addOwn id w.heap.size) w (w.drew.alloc (iJ w olds news (xs.length+ys.length) cap e' z)) :=
    ⟨rfl,fun g h=>⟨h,.of (G.block g (S.wf.old g h))⟩,fun j e hj g h=>⟨⟨rfl,by
     have:j≠id:=fun e=>by subst e;simp[Tag.is]at hj
     simp[Lay.addOwn,upd,this,h]⟩,G.block g (S.wf.own j g h).1⟩,fun b _ g h=>⟨h,.of (G.block g (S.wf.boxW b g h).1)⟩⟩
   have W:=S.wf
   have wf:Wf C (max s.nid (id+1)) (L.addOwn id w.heap.size) (w.drew.alloc (iJ w olds news (xs.length+ys.length) cap e' z)):={
    nidO:=fun j g h=>by
     simp only[Lay.addOwn,upd]at h
     split at h
     .omega
     .have:=W.nidO j g h;omega
    nidB:=fun j g h=>by have:=W.nidB j g h;omega
    own:=fun j g h=>by
     simp only[Lay.addOwn,upd]at h
     split at h
     .simp only[aO]at h;subst h;exact⟨by simp,.inl S.hB,fun h=>by have:=W.old _ h;omega⟩
     .obtain⟨h1,h2,h3⟩:=W.own j g h;exact⟨by simp;omega,h2,h3⟩
    boxW:=fun b g h=>by obtain⟨h1,h2,h3⟩:=W.boxW b g h;exact⟨by simp;omega,h2,h3⟩
    injO:=fun i j g h Q=>by
     simp only[Lay.addOwn,upd]at h Q
     split at h<;>split at Q
     .omega
     .simp only[aO]at h;subst h;have:=(W.own j _ Q).1;omega
     .simp only[aO]at Q;subst Q;have:=(W.own i _ h).1;omega
     .exact W.injO i j g h Q
    injB:=W.injB
    dis:=fun i j g h Q=>by
     simp only[Lay.addOwn,upd]at h
     split at h
     .simp only[aO]at h;subst h;have:=(W.boxW j _ Q).1;omega
     .exact W.dis i j g h Q
    old:=fun g h=>by have:=W.old g h;simp;omega
    frz:=W.frz}
   refine⟨_,_,L.addOwn id w.heap.size,c,S.mapV (fun v u h=>Io K h) (fun b g h=>⟨h,G.block g (W.boxW b g h).1⟩) wf (G.kp _ S.hB),some ⟨w.heap.size,0,none⟩,grownCap w (xs.length+ys.length) cap e',olds++news,by simp,?_,?_⟩
   .exact(hxo.append J).trans (p:=Tag.is id) (q:=fun _=>false) rfl K
   .have:=Hq (olds:=olds) (news:=news) (id:=id) (n:=xs.length+ys.length) (L':=L.addOwn id w.heap.size) (by simp[Lay.addOwn,upd]) hh Z (by rw[aN,hol,m,nK]) f
    rw[aN]
    exact this
  rcases I with⟨h1,rfl,rfl⟩|⟨g,arr,h1,rfl,h3,h4,h5,h6,h7⟩
  .
   have hx0:xs=[]:=kJ h1
   subst hx0
   simp only[RepE]at A
   subst A
   rcases gG ys.length with R|R
   .rw[R]at d
    have M:ys=[]:=kJ R
    subst M
    refine⟨_,w,L,Qu X hi d,S.mapV (fun v u h=>Io ?_ h) (fun b g h=>⟨h,rfl⟩) (S.wf.mono Om (az _)) (Kp.refl _ _ _),none,0,[],rfl,rfl,.inl ⟨rfl,rfl,rfl⟩⟩
    exact⟨rfl,fun g h=>⟨h,.of rfl⟩,fun j e _ g h=>⟨⟨rfl,h⟩,rfl⟩,fun _ _ _ h=>⟨h,.of rfl⟩⟩
   .exact H [] (by simp[Builtin.firstCells]) rfl (by simpa using R)
  .by_cases l:xs.length+ys.length<=cap
   .have hfit:xs.length*i.size+news.length<=arr.size:=by rw[m,h6,<-nK];exact vY _ l
    have c:=IA (P:=P) (ty:=ty) X hi h3 d l hfit
    have K:=N g (arr.toList.take (xs.length*i.size)++news++arr.toList.drop (xs.length*i.size+news.length)).toArray h1
    refine⟨_,_,L,c,S.mapV (fun v u h=>Io K h) (fun b U h=>⟨h,setRow_other w g U _ (fun e=>by subst e;exact S.wf.dis id b _ h1 h)⟩) (S.wf.mono Om Aa) (Kp.setRow _ (S.wf.own id g h1).2.1),
     some ⟨g,0,none⟩,cap,cells++news,by simp,(A.append J).trans (p:=Tag.is id) (q:=fun _=>false) rfl K,.inr ⟨g,_,h1,rfl,setRow_heap w g arr _ e' _ h3,by simpa using l,h5,?_,?_⟩⟩
    .simp only[ou,aN,bI,eH,iQ]
     omega
    .rw[h7]
     have:(xs++ys).length*i.size=(cells++news).length:=by rw[aN,aN,Y,m,nK]
     rw[this]
     exact pq
   .refine H cells ?_ A Om
    refine run_firstCells_some w.drew i.size xs.length ⟨g,0,none⟩ _ cap cells Y ?_
    intro j v hj
    rw[jO,World.cell?_drew]
    have hrow:Row w g 0 cells:=⟨arr,e',(0,0),h3,by rw[Y];simpa using h7⟩
    exact hrow.cell hj
 .
  rename_i k'
  simp only[dh,aO,dR]at h
  obtain⟨⟨f,F⟩,rfl,rfl⟩:=h
  obtain⟨ad,cap,cells,rfl,A,I⟩:=hx
  obtain⟨_,hads,rfl⟩:=I
  obtain⟨a0,rfl⟩:=pF.1 hads
  cases ys with
  |nil =>
   have hn0:news=[]:=kJ (by simpa using m)
   subst hn0
   exact⟨_,w,L,YL X hi d,⟨S.defers,S.size,S.env,S.hid,S.box,S.wf.mono Aa (az _),S.kp⟩,some a0,0,[],rfl,rfl,rfl,rfl,rfl⟩
  |cons y0 ys =>
   have R:0<(y0::ys).length:=Aa
   have c:=run_append_grow_src (P:=P) w t t2 ty e i z X hi hz (some a0) 0 0 [] (by simp[Builtin.firstCells,loadCells,loadCellsFrom]) uy (y0::ys).length news d Om
    (by simp only[maxLen]at f;omega) (growslice_fits Om (by rw[nM];exact F))
   simp only[nM]at c
   have G:=Grow.drewAlloc w (iJ w [] news (y0::ys).length 0 e z)
   have E:=S.wf.leOwn (s:=s) w.heap.size
   have hh:(w.drew.alloc (iJ w [] news (y0::ys).length 0 e z)).heap[w.heap.size]?=some (iJ w [] news (y0::ys).length 0 e z):=heap_alloc_new w.drew _
   refine⟨_,_,L.addOwn s.nid w.heap.size,c,S.grow G E rfl (fun b cs h=>.inl h) (S.wf.addOwn S.hB Aa),_,_,news,rfl,?_,?_⟩
   .exact J.trans (p:=fun _=>false) (q:=fun _=>false) rfl (S.wf.whole G E)
   .have:=Hq (olds:=[]) (id:=s.nid) (L':=L.addOwn s.nid w.heap.size) (by simp[Lay.addOwn,upd]) hh Z (by simpa using m) f
    exact this
 .cases h
end
end Go.Pg
end
