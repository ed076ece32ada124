/-
  Merged texts.
-/
import Derived.Test.YtiohdbjggmmjcaaGreatWAM
import Derived.Test.YtiohdbjggmmjcaaGreatWAP
set_option linter.unusedVariables false
set_option linter.unusedSimpArgs false
set_option linter.unusedSectionVars false
set_option linter.defProp false
set_option maxRecDepth 100000
set_option maxHeartbeats 8000000
section
namespace Go.Pg
open Go
def ins(S:Nat→Bool)(i:Nat):Nat→Bool:=fun j=>if j=i then true else S j
theorem Ad(S:Nat→Bool)(i:Nat):ins S i i=true:=if_pos rfl
theorem bV{S:Nat→Bool}{i j:Nat}(h:j≠i):ins S i j=S j:=if_neg h
structure Ok (ops:Array Oper) (S:Nat→Bool):Prop where
 cl:∀i o,ops[i]?=some o→S i=true→∀e∈edgesOf o,S e=true
 bd:∀i,ops.size≤i→S i=false
section
variable {P:Program} [Tb P] {C:Cx} {ops:Array Oper} {Q:Exit→Act→World→Prop}
theorem count_set{l:List Bool}{i:Nat}(hi:i<l.length)(h:l[i]=false):(l.set i true).count false+1=l.count false:=by
 rw[List.count_set hi,h]
 have:0<l.count false:=List.count_pos_iff.2 (h ▸ List.getElem_mem hi)
 simp
 omega
theorem ab1(I:(Nat→Bool)→Act→World→Prop)(hidx:∀i o,ops[i]?=some o→∀e∈edgesOf o,e<i)
  (jZ:∀(S:Nat→Bool) i o a w,ops[i]?=some o→S i=false→(∀e∈edgesOf o,S e=true)→Ok ops S→I S a w→wpOp P ops Q i (I (ins S i)) a w)
  (hend:∀S a w,(∀j,j<ops.size→S j=true)→Ok ops S→I S a w→Q .normal a w) :
  ∀(fuel:Nat) (listed:Array Bool) (a:Act) (w:World),listed.toList.count false≤fuel→listed.size=ops.size→Ok ops (fun i=>listed.getD i false)→I (fun i=>listed.getD i false) a w→wpAny P .any ops Q fuel listed a w:=by
 have hno:∀(listed:Array Bool),listed.size=ops.size→Region.ready .any ops listed=[]→∀j,j<ops.size→listed.getD j false=true:=by
  intro listed hsz hr j
  induction j using Nat.strongRecOn with
  | _ j ih =>
   intro hj
   cases hle:listed.getD j false with
   | true=>rfl
   | false =>
    exfalso
    have hjl:j<listed.size:=by omega
    have:j∈Region.ready .any ops listed:=by
     refine mem_ready.2 ⟨by simpa [Array.getD,hjl] using hle,ops[j],Array.getElem?_eq_getElem hj,fun e he hb => ?_⟩
     have hlt:=hidx j ops[j] (Array.getElem?_eq_getElem hj) e.on (by simp [edgesOf];exact⟨e,⟨by simpa using he,hb⟩,rfl⟩)
     exact ih e.on hlt (by omega)
    rw[hr] at this
    cases this
 intro fuel
 induction fuel with
 | zero =>
  intro listed a w hc hsz hok hI
  have hall:∀j,j<ops.size→listed.getD j false=true:=by
   intro j hj
   cases hle:listed.getD j false with
   | true=>rfl
   | false =>
    exfalso
    have hjl:j<listed.size:=by omega
    have h1:listed.toList[j]'(by simpa using hjl)=false:=by simpa [Array.getD,hjl] using hle
    have:=List.count_pos_iff.2 (h1 ▸ List.getElem_mem (by simpa using hjl:j<listed.toList.length))
    omega
  refine⟨?_,hend _ a w hall hok hI⟩
  rw[List.eq_nil_iff_forall_not_mem]
  intro i hi
  obtain⟨h0,o,ho,_⟩:=mem_ready.1 hi
  have h1:=(Array.getElem?_eq_some_iff.1 ho).1
  have h2:=hall i h1
  have hil:i<listed.size:=by omega
  simp [Array.getD,hil] at h0 h2
  rw[h2] at h0
  cases h0
 | succ fuel ih =>
  intro listed a w hc hsz hok hI
  refine⟨fun hr=>hend _ a w (hno listed hsz hr) hok hI,fun i hi => ?_⟩
  obtain⟨h0,o,ho,hedge⟩:=mem_ready.1 hi
  have hisz:i<ops.size:=(Array.getElem?_eq_some_iff.1 ho).1
  have hil:i<listed.size:=by omega
  have h0':listed.getD i false=false:=by simpa [Array.getD,hil] using h0
  have hed:∀e∈edgesOf o,listed.getD e false=true:=by
   intro e he
   simp only[edgesOf,List.mem_map,List.mem_filter] at he
   obtain⟨e',⟨h2,h3⟩,rfl⟩:=he
   exact hedge e' (by simpa using h2) h3
  refine wpOp_mono (fun a' w' hI' => ?_) (jZ _ i o a w ho h0' hed hok hI)
  have hfun:ins (fun i=>listed.getD i false) i=fun j=>(listed.setIfInBounds i true).getD j false:=by
   funext j
   unfold ins
   split
   ·rename_i hj;subst hj;simp [Array.getD,hil]
   ·rename_i hj;rw[getD_set_ne false (fun e=>hj e.symm)]
  rw[hfun] at hI'
  refine ih _ a' w' ?_ (by simp [hsz]) ?_ hI'
  ·have h1:listed.toList[i]'(by simpa using hil)=false:=by simpa [Array.getD,hil] using h0'
   have h2:=count_set (l:=listed.toList) (by simpa using hil) h1
   have h3:(listed.setIfInBounds i true).toList=listed.toList.set i true:=by simp
   rw[h3]
   omega
  ·rw[←hfun]
   refine⟨fun j o' hj hS e he => ?_,fun j hj => ?_⟩
   ·by_cases hji:j=i
    ·subst hji
     rw[ho] at hj
     simp only[Option.some.injEq] at hj
     subst hj
     unfold ins;split
     ·rfl
     ·exact hed e he
    ·rw[bV hji] at hS
     unfold ins;split
     ·rfl
     ·exact hok.cl j o' hj hS e he
   ·rw[bV (by omega)]
    exact hok.bd j hj
theorem aeQ(hm:P.follows .mixedOrders=true){id:Nat}{a:Act}{w:World}(I:(Nat→Bool)→Act→World→Prop)(hidx:∀i o,ops[i]?=some o→∀e∈edgesOf o,e<i)
  (jZ:∀(S:Nat→Bool) i o a w,ops[i]?=some o→S i=false→(∀e∈edgesOf o,S e=true)→Ok ops S→I S a w→wpOp P ops Q i (I (ins S i)) a w)
  (hend:∀S a w,(∀j,j<ops.size→S j=true)→Ok ops S→I S a w→Q .normal a w) (h0:I (fun _=>false) a { w with drawn:=w.drawn+1 }):(Code.region id ops true).wp P Q a w:=by
 have hfun:(fun i=>(Array.replicate ops.size false).getD i false)=fun _=>false:=by
  funext i;simp [Array.getD]
 refine wp_region_any hm (ab1 I hidx jZ hend ops.size _ a _ ?_ (by simp) ?_ ?_)
 ·simp only[Array.toList_replicate]
  rw[List.count_replicate]
  split<;>omega
 ·rw[hfun]
  exact⟨fun _ _ _ h=>(by cases h),fun _ _=>rfl⟩
 ·rw[hfun];exact h0
theorem X4{s:St}{L:Lay}{a:Act}{w:World}(S:Sim C s L a w):Sim C s L a { w with drawn:=w.drawn+1 }:=by
 have K:o7 L L w w.drew:=⟨rfl,fun g h=>⟨h,.of rfl⟩,fun id e _ g h=>⟨⟨rfl,h⟩,rfl⟩,fun _ _ _ h=>⟨h,.of rfl⟩⟩
 exact⟨S.defers,S.size,fun t=>(S.env t).whole K,fun t=>(S.hid t).whole K,fun b cs h=>by obtain⟨g,arr,h1,h2,h3⟩:=S.box b cs h;exact⟨g,arr,h1,h2,h3.whole K⟩,S.wf.mono (Nat.le_refl _) (Nat.le_refl _),S.kp.drew⟩
def dT:Dw:=⟨fun P _ ops K s=>yQ P ops K s∨∀(id:Nat) (C:Cx) (Q:Exit→St→Prop) (L:Lay) (a:Act) (w:World),C.TOk P→Ey C.n ops.toList=true→Q .normal=K→Sim C s L a w→(Code.region id ops true).wp P (Ez C Q) a w,[],[]⟩
instance:Plain (dT):=⟨rfl⟩
theorem X5(hm:P.follows .mixedOrders=true):jE P dT:=by
 intro id C ops K Q s L a w hT hfit hQK h S
 rcases h with h|h
 ·exact rH [] hm id C ops K Q s L a w hT hfit hQK h S
 ·exact h id C Q L a w hT hfit hQK S
theorem SG(hm:P.follows .mixedOrders=true)(m:Nat){l:List Oper}{id:Nat}{Q:Exit→St→Prop}{s:St}(F:(Nat→Bool)→St)(hF:F (fun _=>false)=s)
  (hidx:(l.zipIdx.all fun x=>(edgesOf x.1).all fun e=>decide (e<x.2))=true) (hchk:((List.range l.length).all fun i=>decide (i<m)||(List.range i).all fun j=>((pq [] l).getD i 0).testBit j)=true) (hg:(l.all fun o=>o.guard.isNone)=true)
  (jZ:∀(S:Nat→Bool) i o,l[i]?=some o→i<m→S i=false→(∀e∈edgesOf o,S e=true)→(∀j o',l[j]?=some o'→S j=true→∀e∈edgesOf o',S e=true)→aA P (F S) o (fun _ s'=>s'=F (ins S i)))
  (hend:∀S,(∀j,j<m→j<l.length→S j=true)→pG P (l.map (·.dst)) Q (l.drop m) (F S)):wpS dT P (.region id l.toArray true) Q s:=by
 refine .inr fun id C Q' L a w hT hfit hQK S0 => ?_
 have hguard:∀(i:Nat) (o:Oper),l[i]?=some o→o.guard=none:=fun i o ho=>by
  have:=List.all_eq_true.1 hg o (List.mem_of_getElem? ho)
  simpa using this
 have hbef:∀(S:Nat→Bool) (i:Nat) (o:Oper),l[i]?=some o→m≤i→(∀e∈edgesOf o,S e=true)→Ok l.toArray S→∀j,j<i→S j=true:=by
  intro S i o ho hi he hok j hj
  have hil:i<l.length:=(List.getElem?_eq_some_iff.1 ho).1
  have h1:=List.all_eq_true.1 hchk i (List.mem_range.2 hil)
  rw[decide_eq_false (by omega),Bool.false_or] at h1
  have h2:=List.all_eq_true.1 h1 j (List.mem_range.2 hj)
  exact uK (fun i=>S i=true) l [] (fun k j _ h=>by simp at h) (fun k o hk hD e he=>hok.cl k o (by simpa using hk) (by simpa using hD) e he) i o ho he j (by simpa using h2)
 refine aeQ hm (fun S a w=>((∀j,m≤j→S j=false)∧∃L,Sim C (F S) L a w)∨∃k,m<k∧(∀j,j<k→j<l.length→S j=true)∧(∀j,k≤j→S j=false)∧∃s' L,Sim C s' L a w∧wpL P (l.map (·.dst)) (Q .normal) (l.drop k) s') ?_ ?_ ?_ (.inl ⟨fun _ _=>rfl,L,hF ▸ X4 S0⟩)
 ·intro i o ho e he
  have hm:(o,i)∈l.zipIdx:=by
   rw[List.mem_zipIdx_iff_getElem?]
   simpa using ho
  have:=List.all_eq_true.1 (List.all_eq_true.1 hidx (o,i) hm) e he
  simpa using this
 ·intro S i o a w ho hi he hok hI
  have ho':l[i]?=some o:=by simpa using ho
  have hil:i<l.length:=(List.getElem?_eq_some_iff.1 ho').1
  have hd:∀t,o.dst=some t→t<C.n:=jT hfit o (by simpa using Array.mem_of_getElem? ho)
  have hgo:=hguard i o ho'
  have go:∀{s1:St} {L:Lay} {K':St→Prop},aA P s1 o (fun _ s'=>K' s')→Sim C s1 L a w→∀{I':Act→World→Prop},(∀s' L' a' w',K' s'→Sim C s' L' a' w'→I' a' w')→wpOp P l.toArray (Ez C Q') i I' a w:=by
   intro s1 L K' h1 hS I' hI'
   obtain⟨κ,s2,h2,h3⟩:=vN h1
   exact DW (κ:=κ) hT ho (by unfold ji;rw[hgo];exact h2) hS hd (fun L' a' w' S'=>hI' _ _ _ _ h3 S')
  have seq:∀{s1:St} {L:Lay},wpL P (l.map (·.dst)) (Q .normal) (l.drop i) s1→Sim C s1 L a w→(∀j,j<i→S j=true)→(∀j,i≤j→S j=false)→m≤i→wpOp P l.toArray (Ez C Q') i (fun a w=>((∀j,m≤j→ins S i j=false)∧∃L,Sim C (F (ins S i)) L a w)∨∃k,m<k∧(∀j,j<k→j<l.length→ins S i j=true)∧(∀j,k≤j→ins S i j=false)∧∃s' L,Sim C s' L a w∧wpL P (l.map (·.dst)) (Q .normal) (l.drop k) s') a w:=by
   intro s1 L h1 hS hlt hge hmi
   rw[List.drop_eq_getElem_cons hil] at h1
   have hoe:l[i]=o:=(List.getElem?_eq_some_iff.1 ho').2
   rw[hoe] at h1
   unfold wpL at h1
   rw[hgo] at h1
   refine go h1 hS (fun s' L' a' w' h2 hS' => .inr ⟨i+1,by omega,fun j hj _ => ?_,fun j hj => ?_,s',L',hS',h2⟩)
   ·unfold ins;split
    ·rfl
    ·exact hlt j (by omega)
   ·rw[bV (by omega)];exact hge j (by omega)
  rcases hI with ⟨hno,L,hS⟩|⟨k,hk,hlt,hge,s1,L,hS,hw⟩
  ·rcases Nat.lt_or_ge i m with h1|h1
   ·refine go (jZ S i o ho' h1 hi he (fun j o' hj=>hok.cl j o' (by simpa using hj))) hS (fun s' L' a' w' h2 hS' => .inl ⟨fun j hj => ?_,L',h2 ▸ hS'⟩)
    rw[bV (by omega)];exact hno j hj
   ·have hall:=hbef S i o ho' h1 he hok
    have him:i=m:=by
     rcases Nat.lt_or_ge m i with h2|h2
     ·have:=hall m h2;rw[hno m (Nat.le_refl _)] at this;cases this
     ·omega
    subst him
    have:=hend S (fun j hj _=>hall j hj)
    exact seq this hS hall hno (Nat.le_refl _)
  ·have hall:=hbef S i o ho' (by
    rcases Nat.lt_or_ge i k with h2|h2
    ·have:=hlt i h2 hil;rw[hi] at this;cases this
    ·omega) he hok
   have hik:i=k:=by
    rcases Nat.lt_or_ge i k with h2|h2
    ·have:=hlt i h2 hil;rw[hi] at this;cases this
    ·rcases Nat.lt_or_ge k i with h3|h3
     ·have:=hall k h3;rw[hge k (Nat.le_refl _)] at this;cases this
     ·omega
   subst hik
   exact seq hw hS hall hge (by omega)
 ·rintro S a w hall hok (⟨hno,L,hS⟩|⟨k,hk,hlt,hge,s1,L,hS,hw⟩)
  ·have hml:l.length≤m:=by
    rcases Nat.lt_or_ge m l.length with h1|h1
    ·have:=hall m (by simpa using h1);rw[hno m (Nat.le_refl _)] at this;cases this
    ·exact h1
   have:=hend S (fun j hj hjl=>hall j (by simpa using hjl))
   rw[List.drop_of_length_le hml] at this
   exact⟨F S,L,by rw[hQK];exact this,hS⟩
  ·have hkl:l.length≤k:=by
    rcases Nat.lt_or_ge k l.length with h1|h1
    ·have:=hall k (by simpa using h1);rw[hge k (Nat.le_refl _)] at this;cases this
    ·exact h1
   rw[List.drop_of_length_le hkl] at hw
   exact⟨s1,L,by rw[hQK];exact hw,hS⟩
def qW:List (Nat × V)→Nat→(Nat→Bool)→(Nat→V)→Nat→V
 | [],_,_,e=>e
 | (d,v)::r,k,S,e=>fun t=>if t=d then (if S k=true then v else e t) else qW r (k+1) S e t
theorem aQ(k:Nat)(S:Nat→Bool)(e:Nat→V):qW [] k S e=e:=rfl
theorem aC(d:Nat)(v:V)(r:List (Nat × V))(k:Nat)(S:Nat→Bool)(e:Nat→V)(t:Nat):qW ((d,v)::r) k S e t=if t=d then (if S k=true then v else e t) else qW r (k+1) S e t:=rfl
theorem X6:∀(T:List (Nat × V)) (k:Nat) (e:Nat→V),qW T k (fun _=>false) e=e:=by
 intro T
 induction T with
 | nil=>intro k e;rfl
 | cons x r ih =>
  intro k e
  obtain⟨d,v⟩:=x
  funext t
  rw[aC,ih (k+1) e]
  simp
theorem X7(i:Nat)(S:Nat→Bool)(e:Nat→V):∀(T:List (Nat × V)) (k:Nat) (d:Nat) (v:V),k≤i→T[i-k]?=some (d,v)→(T.map (·.1)).Nodup→upd (qW T k S e) d v=qW T k (ins S i) e:=by
 intro T
 induction T with
 | nil=>intro k d v _ h;simp at h
 | cons x r ih =>
  intro k d v hk h hn
  obtain⟨d0,v0⟩:=x
  simp only[List.map_cons,List.nodup_cons] at hn
  funext t
  rw[aC]
  rcases Nat.lt_or_ge k i with hlt|hge
  ·have e1:i-k=(i-(k+1))+1:=by omega
   rw[e1,List.getElem?_cons_succ] at h
   have:=congrFun (ih (k+1) d v (by omega) h hn.2) t
   rw[←this]
   unfold upd
   have hd:d≠d0:=by
    intro hd;subst hd
    exact hn.1 (List.mem_map.2 ⟨(d,v),List.mem_of_getElem? h,rfl⟩)
   rw[aC,bV (by omega:k≠i)]
   by_cases h1:t=d
   ·rw[if_pos h1,if_neg (by omega),if_pos h1]
   ·rw[if_neg h1]
    split<;>rfl
  ·have hki:k=i:=by omega
   subst hki
   rw[Nat.sub_self] at h
   simp only[List.getElem?_cons_zero,Option.some.injEq,Prod.mk.injEq] at h
   obtain⟨rfl,rfl⟩:=h
   unfold upd
   rw[aC,Ad]
   by_cases h1:t=d0
   ·rw[if_pos h1,if_pos h1,if_pos rfl]
   ·rw[if_neg h1,if_neg h1,if_neg h1]
    have:∀(T:List (Nat × V)) (j:Nat),k<j→qW T j (ins S k) e=qW T j S e:=by
     intro T
     induction T with
     | nil=>intro j _;rfl
     | cons x r ih2 =>
      intro j hj
      obtain⟨d,v⟩:=x
      funext t
      rw[aC,aC,ih2 (j+1) (by omega),bV (by omega)]
    rw[this r (k+1) (by omega)]
theorem bI{T:List (Nat × V)}{S:Nat→Bool}{e:Nat→V}{bx bx':Bxx}{n n':Nat}{h:Nat→V}(i:Nat){d:Nat}{v:V}(hT:T[i]?=some (d,v))(hn:(T.map (·.1)).Nodup)(hb:bx=bx')(hnn:n=n'):(⟨upd (qW T 0 S e) d v,bx,n,h⟩:St)=⟨qW T 0 (ins S i) e,bx',n',h⟩:=by
 rw[X7 i S e T 0 d v (Nat.zero_le _) (by simpa using hT) hn,hb,hnn]
theorem SH(hm:P.follows .mixedOrders=true)(m:Nat)(T:List (Nat × V))(BX:(Nat→Bool)→Bxx)(NI:(Nat→Bool)→Nat){l:List Oper}{id:Nat}{Q:Exit→St→Prop}{e:Nat→V}{bx:Bxx}{n:Nat}{h:Nat→V}
  (hb0:BX (fun _=>false)=bx) (hn0:NI (fun _=>false)=n)
  (hidx:(l.zipIdx.all fun x=>(edgesOf x.1).all fun e=>decide (e<x.2))=true) (hchk:((List.range l.length).all fun i=>decide (i<m)||(List.range i).all fun j=>((pq [] l).getD i 0).testBit j)=true) (hg:(l.all fun o=>o.guard.isNone)=true)
  (jZ:∀(S:Nat→Bool) i o,l[i]?=some o→i<m→S i=false→(∀e∈edgesOf o,S e=true)→(∀j o',l[j]?=some o'→S j=true→∀e∈edgesOf o',S e=true)→aA P ⟨qW T 0 S e,BX S,NI S,h⟩ o (fun _ s'=>s'=⟨qW T 0 (ins S i) e,BX (ins S i),NI (ins S i),h⟩))
  (hend:∀S,(∀j,j<m→j<l.length→S j=true)→pG P (l.map (·.dst)) Q (l.drop m) ⟨qW T 0 S e,BX S,NI S,h⟩):wpS dT P (.region id l.toArray true) Q ⟨e,bx,n,h⟩ :=
 SG hm m (fun S=>⟨qW T 0 S e,BX S,NI S,h⟩) (by simp only[X6,hb0,hn0]) hidx hchk hg jZ hend
end
end Go.Pg
end
section
namespace Go.Pg
open Go
def wrs(id k:Nat)(W:List (Nat × V))(v:V):V:=W.foldl (fun v p=>aF id k p.1 p.2 v) v
def apw(W:List (Nat × V))(xs:List V):List V:=W.foldl (fun l p=>l.set p.1 p.2) xs
theorem Jz(id k:Nat)(p:Nat × V)(W:List (Nat × V))(v:V):wrs id k (p::W) v=wrs id k W (aF id k p.1 p.2 v):=rfl
theorem JA(id k i:Nat)(x:V)(W:List (Nat × V))(v:V):aF id k i x (wrs id k W v)=wrs id k (W++[(i,x)]) v:=by
 simp only[wrs,List.foldl_append,List.foldl_cons,List.foldl_nil]
theorem X8(p:Nat × V)(W:List (Nat × V))(xs:List V):apw (p::W) xs=apw W (xs.set p.1 p.2):=rfl
theorem ab2(W W':List (Nat × V))(xs:List V):apw (W++W') xs=apw W' (apw W xs):=by simp only[apw,List.foldl_append]
theorem Ya(id k:Nat)(b:Bxx):mapB (wrs id k []) b=b:=by
 funext x
 show (b x).map (fun y=>(y.1,y.2.map fun v=>v))=b x
 cases b x with
 | none=>rfl
 | some y=>simp
theorem SI(id k i:Nat)(x:V)(W:List (Nat × V))(e:Nat→V):dX (aF id k i x) (dX (wrs id k W) e)=dX (wrs id k (W++[(i,x)])) e:=by
 funext t
 exact JA id k i x W (e t)
theorem Ee(id k i:Nat)(x:V)(W:List (Nat × V))(b:Bxx):mapB (aF id k i x) (mapB (wrs id k W) b)=mapB (wrs id k (W++[(i,x)])) b:=by
 funext t
 show ((b t).map _).map _=(b t).map _
 cases b t with
 | none=>rfl
 | some y =>
  simp only[Option.map_some,List.map_map]
  congr 2
  apply List.map_congr_left
  intro v _
  exact JA id k i x W v
theorem ab3(id k:Nat)(W:List (Nat × V))(ty:TypeId):∀xs:List V,wrs id k W (.sl (.own id ty) k xs) = .sl (.own id ty) k (apw W xs):=by
 induction W with
 | nil=>intro xs;rfl
 | cons p W ih =>
  intro xs
  rw[Jz,X8,←ih]
  simp [aF]
theorem O7{id k:Nat}{v:V}(h:∀i x,aF id k i x v=v)(W:List (Nat × V)):wrs id k W v=v:=by
 induction W with
 | nil=>rfl
 | cons p W ih=>rw[Jz,h,ih]
theorem agA(id k:Nat)(W:List (Nat × V))(v:Value):wrs id k W (.c v) = .c v:=O7 (fun _ _=>rfl) W
theorem ab4(id k:Nat)(W:List (Nat × V))(b o:Nat):wrs id k W (.ref b o) = .ref b o:=O7 (fun _ _=>rfl) W
def ahT:=aI @SI @Ee
section
variable {ι:Type} {D:Dw} {P:Program} [Tb P]
theorem Yb{x:Code}{Q:Exit→St→Prop}{e:Nat→V}{bx:Bxx}{n:Nat}{h:Nat→V}(X:ι→List (Nat × V))(B:ι→Bxx)(N:ι→Nat)(H:ι→Nat→V)(Inv:ι→Prop)(μ:ι→Nat)(i0:ι)(he:EnvIs e (X i0))(hb:∀b,B i0 b=bx b∨B i0 b=none)(hn:n≤N i0)(hh:h=H i0)(h0:Inv i0)
  (hr:∀i,Inv i→wpS D P x (yV (fun i=>⟨iP (X i),B i,N i,H i⟩) Inv μ i Q) ⟨iP (X i),B i,N i,H i⟩):Be D P x Q ⟨e,bx,n,h⟩:=by
 subst hh
 refine⟨fun m s1=>∃i,Inv i∧μ i=m∧s1=⟨iP (X i),B i,N i,H i⟩,μ i0,⟨_,Fh (gp he) hb hn,i0,h0,rfl,rfl⟩, ?_⟩
 rintro m s1 ⟨i,hi,rfl,rfl⟩
 exact hr i hi
theorem Yc{X:ι→List (Nat × V)}{B:ι→Bxx}{N:ι→Nat}{H:ι→Nat→V}{Inv:ι→Prop}{μ:ι→Nat}{i:ι}{e:Nat→V}{bx:Bxx}{n:Nat}{h:Nat→V}(j:ι)(h1:Inv j)(h2:μ j<μ i)(he:EnvIs e (X j))(hb:∀b,B j b=bx b∨B j b=none)(hn:n≤N j)(hh:h=H j) :
  qK (fun i=>(⟨iP (X i),B i,N i,H i⟩:St)) Inv μ i ⟨e,bx,n,h⟩:=by
 subst hh
 exact⟨μ j,_,h2,Fh (gp he) hb hn,j,h1,rfl,rfl⟩
end
def xM(n:Nat)(f:Bxx):Bxx:=fun b=>if b<n then f b else none
theorem ab5(n:Nat)(f:Bxx)(b:Nat):xM n f b=f b∨xM n f b=none:=by unfold xM;split<;>simp
theorem SK(id k i:Nat)(x:V)(W:List (Nat × V))(bx:Bxx)(n m:Nat)(hm:n≤m)(c:TypeId × List V)(b:Nat) :
  xM n (mapB (wrs id k (W++[(i,x)])) bx) b=mapB (aF id k i x) (upd (xM n (mapB (wrs id k W) bx)) m (some c)) b∨xM n (mapB (wrs id k (W++[(i,x)])) bx) b=none:=by
 by_cases hb:b<n
 ·left
  have h1:=congrFun (Ee id k i x W bx) b
  have e1:upd (xM n (mapB (wrs id k W) bx)) m (some c) b=mapB (wrs id k W) bx b:=by
   rw[TY _ _ _ _ (by omega)];exact if_pos hb
  have e2:mapB (aF id k i x) (upd (xM n (mapB (wrs id k W) bx)) m (some c)) b=mapB (aF id k i x) (mapB (wrs id k W) bx) b:=by rw[iG,iG,e1]
  rw[e2,h1]
  exact if_pos hb
 ·right
  exact if_neg hb
theorem GoodZ.leN{P:Program}[Tb P]{g:FuncId}{args:List V}{e e':Nat→V}{bx bx' bx2:Bxx}{n n' n2:Nat}{h h':Nat→V}{r:V}(hg:GoodZ P g args ⟨e,bx,n,h⟩ ⟨e',bx',n',h'⟩ r)(hn:n'≤n2)
  (hb:∀b,bx2 b=bx' b∨bx2 b=none∨(n≤b∧(bx b=none→bx2 b=none))):GoodZ P g args ⟨e,bx,n,h⟩ ⟨e',bx2,n2,h'⟩ r:=by
 intro C L a w cargs hT S hr
 have weak:∀L' w',Sim C ⟨e',bx',n',h'⟩ L' a w'→Sim C ⟨e',bx2,n2,h'⟩ L' a w':=by
  intro L' w' S'
  refine⟨S'.defers,S'.size,S'.env,S'.hid,fun b cs hc => ?_,S'.wf.mono hn (Nat.le_refl _),S'.kp⟩
  have hc':bx2 b=some cs:=hc
  rcases hb b with h1|h1|⟨h1,h2⟩
  ·rw[h1] at hc';exact S'.box b cs hc'
  ·rw[h1] at hc';cases hc'
  ·rw[h2 (S.bxNone (b:=b) h1)] at hc';cases hc'
 rcases hg C L a w cargs hT S hr with ⟨h1,h2⟩|⟨u,w',L',h1,h2,h3⟩
 ·exact .inl ⟨h1,h2.mono fun e w' ⟨u,L',he,hs,hr⟩=>⟨u,L',he,weak L' w' hs,hr⟩⟩
 ·exact .inr ⟨u,w',L',h1,weak L' w' h2,h3⟩
end Go.Pg
end
section
namespace Go.Pg
open Go
section
variable {P:Program}
theorem XW(p:Tag→Bool)(q:Nat→Bool)(tp:Bool)(b:Nat)(e:TypeId)(o k n:Nat):V.any p q tp (.bs b e o k n)=q b:=rfl
theorem aeR(τ:Tag→Tag)(ρ:Nat→Nat)(b:Nat)(e:TypeId)(o k n:Nat):V.map τ ρ (.bs b e o k n) = .bs (ρ b) e o k n:=rfl
theorem agB(b:Nat)(e:TypeId)(o k n:Nat):V.cs (.bs b e o k n)=some [.bs b e o k n]:=rfl
theorem aeS(b:Nat)(e:TypeId)(o k n:Nat):V.one (.bs b e o k n)=true:=rfl
theorem aeT(b:Nat)(e:TypeId)(o k n:Nat):V.ids (.bs b e o k n)=[]:=rfl
theorem ab6(b:Nat)(e:TypeId)(o k n:Nat):V.free (.bs b e o k n)=false:=rfl
theorem kN(id:Nat)(e:TypeId)(k:Nat)(xs:List V):V.free (.sl (.own id e) k xs)=false:=rfl
theorem ab7(t:TypeId)(b:Nat)(e:TypeId)(o k n:Nat):Ej P t (.bs b e o k n)=if (elemT P t).isSome then some (.c (.int .i64 n)) else none:=rfl
theorem aeU(t:TypeId)(b:Nat)(e:TypeId)(o k n:Nat)(ik:IntKind)(i:Int)(h0:0≤i)(h:i<n):iaV P t (.bs b e o k n) (.c (.int ik i))=if (elemT P t).bind (tsz P)=some k then some (.ref b (o+i.toNat*k)) else none:=by
 show (if _∧_∧_ then _ else _)=_
 by_cases he:(elemT P t).bind (tsz P)=some k<;>simp [he,h0,h]
theorem SL(s:St)(d:Option Nat)(t:TypeId)(b:Nat)(e:TypeId)(o k n:Nat)(lo hi:Option V)(l:List V)(K:Kd→St→Prop):uM P s d t (.bs b e o k n) lo hi l K=kz (slV P t (.bs b e o k n) lo hi) s d l K:=rfl
theorem SN(t:TypeId)(b:Nat)(e:TypeId)(o k n:Nat)(ik:IntKind)(h:Int)(h0:0≤h)(h1:h≤n):slV P t (.bs b e o k n) none (some (.c (.int ik h)))=if (elemT P t).bind (tsz P)=some k then some (.bs b e o k h.toNat) else none:=by
 simp only[slV,bdV,Option.bind_some]
 by_cases he:(elemT P t).bind (tsz P)=some k<;>simp [he,h0,h1]
theorem ab8(e:Nat→V)(b:Bxx)(n:Nat)(h:Nat→V)(t:TypeId)(v:V):DT P ⟨e,b,n,h⟩ t 1 [(0,v)]=(elemT P t).bind fun el=>(tapp P el).bind fun p=>v.cs.bind fun l=>if l.length=p.1∧l.all V.one=true∧p.1≤16777216∧v.free=false then some (.bs n el 0 p.1 1,⟨e,upd b n (some (el,l)),n+1,h⟩) else none:=rfl
theorem ab9(e:Nat→V)(b:Bxx)(n:Nat)(h:Nat→V)(t:TypeId)(k b':Nat)(e':TypeId)(o k' n':Nat):PU P ⟨e,b,n,h⟩ t k (.bs b' e' o k' n')=if k'=k∧(elemT P t).isSome∧0<n' then (b b').bind fun x=>if o+n'*k≤x.2.length then some (n',(x.2.drop o).take (n'*k)) else none else none:=rfl
theorem aca(s:St)(t:TypeId)(k:Nat)(tg:Tag)(k':Nat)(xs:List V):PU P s t k (.sl tg k' xs)=(vH P t k (.sl tg k' xs)).bind fun ys=>(o9 k ys).map fun cs=>(ys.length,cs):=rfl
theorem SQ(k:Nat):o9 k []=some []:=rfl
theorem Nq(k:Nat)(v:V)(r:List V):o9 k (v::r)=v.cs.bind fun l=>if l.length=k then (o9 k r).map (l++·) else none:=rfl
theorem Nr(l:List ByteArray):o9 1 (l.map fun z=>V.c (.string z))=some (l.map fun z=>V.c (.string z)):=by
 induction l with
 | nil=>rfl
 | cons z l ih=>simp [o9,V.cs,Value.cells,ih]
theorem aeV(e:Nat→V)(b:Bxx)(n:Nat)(h:Nat→V)(i m:Nat):Et ⟨e,b,n,h⟩ i m=if m=0 then some [] else (b i).bind fun x=>if m≤x.2.length then some (x.2.take m) else none:=rfl
def apB(e:Nat→V)(b:Bxx)(n:Nat)(h:Nat→V)(el:TypeId)(k bytes m:Nat)(cs:List V)(x:V):Option (V × St) :=
 match x with
 | .c (.slice none 0 0)=>if 0<m∧cs.all V.one=true∧Fits m bytes then some (.bs n el 0 k m,⟨e,upd b n (some (el,cs)),n+1,h⟩) else none
 | .bs i e' 0 k' n'=>(Et ⟨e,b,n,h⟩ i (n'*k)).bind fun old=>if e'=el∧k'=k∧0<m∧cs.all V.one=true∧Fits (n'+m) bytes then
   some (.bs i el 0 k (n'+m),⟨dX (dP i) e,upd (mapB (dP i) b) i (some (el,(old++cs).map (dP i))),max n (i+1),dX (dP i) h⟩) else none
 | _=>none
theorem Ns(e:Nat→V)(b:Bxx)(n:Nat)(h:Nat→V)(t t2:TypeId)(x y:V):kD P ⟨e,b,n,h⟩ t t2 x y=(elemT P t).bind fun el=>(tapp P el).bind fun p=>(PU P ⟨e,b,n,h⟩ t2 p.1 y).bind fun q=>apB e b n h el p.1 p.2 q.1 q.2 x:=by
 simp only[kD]
 congr
theorem acb(e:Nat→V)(b:Bxx)(n:Nat)(h:Nat→V)(el:TypeId)(k bytes m:Nat)(cs:List V)(hf:Fits m bytes):apB e b n h el k bytes m cs (.c (.slice none 0 0))=if 0<m∧cs.all V.one=true then some (.bs n el 0 k m,⟨e,upd b n (some (el,cs)),n+1,h⟩) else none:=by
 simp only[apB,hf,and_true]
theorem aeW(e:Nat→V)(b:Bxx)(n:Nat)(h:Nat→V)(el:TypeId)(k bytes m:Nat)(cs:List V)(i:Nat)(e':TypeId)(k' n':Nat)(hf:Fits (n'+m) bytes):apB e b n h el k bytes m cs (.bs i e' 0 k' n')=(Et ⟨e,b,n,h⟩ i (n'*k)).bind fun old=>if e'=el∧k'=k∧0<m∧cs.all V.one=true then
   some (.bs i el 0 k (n'+m),⟨dX (dP i) e,upd (mapB (dP i) b) i (some (el,(old++cs).map (dP i))),max n (i+1),dX (dP i) h⟩) else none:=by
 simp only[apB,hf,and_true]
theorem agK(s:St)(t:TypeId)(id:Nat)(e:TypeId)(k:Nat)(xs:List V)(i off:Nat)(y:V):tV P s t id e k xs i off y=if y.free=true then none else (o9 k xs).bind fun cs=>jB P (boS s id e cs) t s.nid (i*k+off) (V.bo id s.nid y):=rfl
theorem aeX(e:Nat→V)(b:Bxx)(n:Nat)(h:Nat→V)(id:Nat)(e':TypeId)(cs:List V):boS ⟨e,b,n,h⟩ id e' cs=⟨dX (V.bo id n) e,upd (mapB (V.bo id n) b) n (some (e',cs.map (V.bo id n))),n+1,dX (V.bo id n) h⟩:=rfl
theorem ahU(id m:Nat)(v:Value):V.bo id m (.c v) = .c v:=rfl
theorem agC(id m k:Nat)(xs:List V):V.bo id m (.sl .fz k xs) = .sl .fz k xs:=rfl
theorem agD(id m k:Nat)(xs:List V):V.bo id m (.sl .nn k xs) = .sl .nn k xs:=rfl
theorem aeY(id m j:Nat)(e:TypeId)(k:Nat)(xs:List V):V.bo id m (.sl (.own j e) k xs)=if j=id then .bs m e 0 k xs.length else .sl (.own j e) k xs:=rfl
theorem agF(id m j:Nat)(e:TypeId)(k:Nat)(xs:List V)(i off:Nat):V.bo id m (.el (.own j e) k xs i off)=if j=id then .ref m (i*k+off) else .el (.own j e) k xs i off:=rfl
theorem aeZ(id m:Nat)(cs:List V):V.bo id m (.agg cs) = .agg (cs.map (V.bo id m)):=by simp only[V.bo,Eu]
theorem ae0(id m:Nat)(cs:List V):V.bo id m (.tup cs) = .tup (cs.map (V.bo id m)):=by simp only[V.bo,Eu]
theorem ae1(id m b o:Nat):V.bo id m (.ref b o) = .ref b o:=rfl
theorem ae2(id m:Nat):V.bo id m .top = .top:=rfl
theorem ae3(id m:Nat):V.bo id m .nif = .nif:=rfl
theorem agG(id m b:Nat)(e:TypeId)(o k n:Nat):V.bo id m (.bs b e o k n) = .bs b e o k n:=rfl
theorem agH(id m:Nat)(f:FuncId)(fs cs:List V):V.bo id m (.fn f fs cs) = .fn f (fs.map (V.bo id m)) (cs.map (V.bo id m)):=by simp only[V.bo,Eu]
theorem acd(t:TypeId)(k b:Nat)(e:TypeId)(o k' n:Nat):vH P t k (.bs b e o k' n)=none:=rfl
theorem ae4(e:Nat→V)(b:Bxx)(n:Nat)(h:Nat→V)(el:TypeId)(k bytes i:Nat)(e':TypeId)(o k' n':Nat)(ys:List V):apK e b n h el k bytes (.bs i e' o k' n') ys=none:=rfl
theorem O8(e:Nat→V)(b:Bxx)(n:Nat)(h:Nat→V)(el:TypeId)(k bytes k':Nat)(ys:List V)(hf:Fits ys.length bytes):apK e b n h el k bytes (.sl .nn k' []) ys=some (.sl (mX ys n el) k ys,⟨e,b,n+1,h⟩):=if_pos hf
theorem Yd(l:List V)(i:Nat)(e:TypeId)(k:Nat)(xs:List V):V.free (.sl (mX l i e) k xs)=false:=by cases l<;>rfl
def iT:=aI @acd (aI @ae4 (aI @XW (aI @aeR (aI @agB (aI @aeS (aI @aeT (aI @ab6 (aI @kN (aI @ab7 (aI @aeU (aI @SL (aI @SN (aI @ab8 (aI @ab9 (aI @aca (aI @SQ (aI @Nq (aI @Nr (aI @aeV (aI @Ns (aI @acb (aI @aeW (aI @agK (aI @aeX (aI @ahU (aI @agC (aI @agD (aI @aeY (aI @agF (aI @aeZ (aI @ae0 (aI @ae1 (aI @ae2 (aI @ae3 (aI @agG @agH)))))))))))))))))))))))))))))))))))
theorem GoodZ.fb[Tb P]{g:FuncId}{args:List V}{s s':St}{r:V}{b:Nat}{e:TypeId}{cs:List V}(H:GoodZ P g args s s' r)(hb:s'.bx b=some (e,cs))(hf:cs.all (fun v=>v.free&&v.one)=true):GoodZ P g args s (fbS s' b cs) (V.fb b cs r):=by
 intro C L a w cargs hT S hr
 rcases H C L a w cargs hT S hr with ⟨h1,h2⟩|⟨u,w',L',h1,h2,h3⟩
 ·exact .inl ⟨h1,h2.mono fun _ w' ⟨u,L',he,hs,hr'⟩=>⟨u,_,he,(hs.fb hb hf).1,(hs.fb hb hf).2 _ _ hr'⟩⟩
 ·exact .inr ⟨u,w',_,h1,(h2.fb hb hf).1,(h2.fb hb hf).2 _ _ h3⟩
theorem BZ{n k:Nat}{v:V}(h:Fr n v)(hk:n≤k):dP k v=v:=by
 have:v.any (fun _=>false) (fun j=>j == k) false=false :=
  (tY (p:=Tag.gf n) (p':=fun _=>false) (q:=fun b=>decide (n≤b)) (q':=fun j=>j == k) (fun _ ht=>by cases ht) (fun b hb=>by simp at hb ⊢;omega)).1 v h
 rw[rM,this];rfl
theorem qy{ψ:V→V}{e:Nat→V}(h:∀t,ψ (e t)=e t):dX ψ e=e:=funext h
theorem O9{ψ:V→V}{b:Bxx}(h:∀k x,b k=some x→∀v∈x.2,ψ v=v):mapB ψ b=b:=by
 funext k
 show (b k).map _=b k
 cases hb:b k with
 | none=>rfl
 | some x =>
  simp only[Option.map_some,Option.some.injEq]
  refine Prod.ext rfl ?_
  show x.2.map ψ=x.2
  conv=>rhs;rw[←List.map_id x.2]
  exact List.map_congr_left fun v hv=>h k x hb v hv
theorem JB{n k:Nat}{e:Nat→V}(h:FrE n e)(hk:n≤k):dX (dP k) e=e:=qy fun t=>BZ (h t) hk
end
end Go.Pg
end
