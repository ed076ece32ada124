/-
  Texts of this claim, merged; own names are short.
-/
import Derived.Test.YtjiolbcdfgclaaaGreatDoorWAG
import Derived.Test.YtjiolbcdfgclaaaGreatDoorWAX
import Derived.Test.YtjiolbcdfgclaaaGreatDoorWAJ
import Derived.Test.YtjiolbcdfgclaaaGreatDoorWAU
import Derived.Test.YtjiolbcdfgclaaaGreatDoorWAV
set_option linter.unusedVariables false
set_option linter.unusedSimpArgs false
set_option linter.unusedSectionVars false
set_option linter.defProp false
set_option maxRecDepth 100000
set_option maxHeartbeats 8000000
section
namespace Go.Pg
open Go
def ins(S:Nat→Bool)(i:Nat):Nat→Bool:=fun j=>if j=i then true else S j
theorem P8(S:Nat→Bool)(i:Nat):ins S i i=true:=if_pos rfl
theorem Gj{S:Nat→Bool}{i j:Nat}(h:j≠i):ins S i j=S j:=if_neg h
structure Ok (ops:Array Oper) (S:Nat→Bool):Prop where
 cl:∀i o,ops[i]?=some o→S i=true→∀e∈edgesOf o,S e=true
 bd:∀i,ops.size≤i→S i=false
section
variable {P:Program} [Tb P] {C:Cx} {ops:Array Oper} {Q:Exit→Act→World→Prop}
theorem count_set{l:List Bool}{i:Nat}(hi:i<l.length)(h:l[i]=false):(l.set i true).count false+1=l.count false:=by
 rw[List.count_set hi,h]
 have:0<l.count false:=List.count_pos_iff.2 (h ▸ List.getElem_mem hi)
 simp
 omega
theorem ajL(I:(Nat→Bool)→Act→World→Prop)(hidx:∀i o,ops[i]?=some o→∀e∈edgesOf o,e<i)
  (yH:∀(S:Nat→Bool) i o a w,ops[i]?=some o→S i=false→(∀e∈edgesOf o,S e=true)→Ok ops S→I S a w→wpOp P ops Q i (I (ins S i)) a w)
  (hend:∀S a w,(∀j,j<ops.size→S j=true)→Ok ops S→I S a w→Q .normal a w) :
  ∀(fuel:Nat) (listed:Array Bool) (a:Act) (w:World),listed.toList.count false≤fuel→listed.size=ops.size→Ok ops (fun i=>listed.getD i false)→I (fun i=>listed.getD i false) a w→wpAny P .any ops Q fuel listed a w:=by
 have hno:∀(listed:Array Bool),listed.size=ops.size→Region.ready .any ops listed=[]→∀j,j<ops.size→listed.getD j false=true:=by
  intro listed hsz hr j
  induction j using Nat.strongRecOn with
  | _ j ih =>
   intro hj
   cases hle:listed.getD j false with
   | true=>rfl
   | false =>
    exfalso
    have hjl:j<listed.size:=by omega
    have:j∈Region.ready .any ops listed:=by
     refine mem_ready.2 ⟨by simpa [Array.getD,hjl] using hle,ops[j],Array.getElem?_eq_getElem hj,fun e he hb => ?_⟩
     have hlt:=hidx j ops[j] (Array.getElem?_eq_getElem hj) e.on (by simp [edgesOf];exact⟨e,⟨by simpa using he,hb⟩,rfl⟩)
     exact ih e.on hlt (by omega)
    rw[hr] at this
    cases this
 intro fuel
 induction fuel with
 | zero =>
  intro listed a w hc hsz hok hI
  have hall:∀j,j<ops.size→listed.getD j false=true:=by
   intro j hj
   cases hle:listed.getD j false with
   | true=>rfl
   | false =>
    exfalso
    have hjl:j<listed.size:=by omega
    have h1:listed.toList[j]'(by simpa using hjl)=false:=by simpa [Array.getD,hjl] using hle
    have:=List.count_pos_iff.2 (h1 ▸ List.getElem_mem (by simpa using hjl:j<listed.toList.length))
    omega
  refine⟨?_,hend _ a w hall hok hI⟩
  rw[List.eq_nil_iff_forall_not_mem]
  intro i hi
  obtain⟨h0,o,ho,_⟩:=mem_ready.1 hi
  have h1:=(Array.getElem?_eq_some_iff.1 ho).1
  have h2:=hall i h1
  have hil:i<listed.size:=by omega
  simp [Array.getD,hil] at h0 h2
  rw[h2] at h0
  cases h0
 | succ fuel ih =>
  intro listed a w hc hsz hok hI
  refine⟨fun hr=>hend _ a w (hno listed hsz hr) hok hI,fun i hi => ?_⟩
  obtain⟨h0,o,ho,hedge⟩:=mem_ready.1 hi
  have hisz:i<ops.size:=(Array.getElem?_eq_some_iff.1 ho).1
  have hil:i<listed.size:=by omega
  have h0':listed.getD i false=false:=by simpa [Array.getD,hil] using h0
  have hed:∀e∈edgesOf o,listed.getD e false=true:=by
   intro e he
   simp only[edgesOf,List.mem_map,List.mem_filter] at he
   obtain⟨e',⟨h2,h3⟩,rfl⟩:=he
   exact hedge e' (by simpa using h2) h3
  refine wpOp_mono (fun a' w' hI' => ?_) (yH _ i o a w ho h0' hed hok hI)
  have hfun:ins (fun i=>listed.getD i false) i=fun j=>(listed.setIfInBounds i true).getD j false:=by
   funext j
   unfold ins
   split
   ·rename_i hj;subst hj;simp [Array.getD,hil]
   ·rename_i hj;rw[getD_set_ne false (fun e=>hj e.symm)]
  rw[hfun] at hI'
  refine ih _ a' w' ?_ (by simp [hsz]) ?_ hI'
  ·have h1:listed.toList[i]'(by simpa using hil)=false:=by simpa [Array.getD,hil] using h0'
   have h2:=count_set (l:=listed.toList) (by simpa using hil) h1
   have h3:(listed.setIfInBounds i true).toList=listed.toList.set i true:=by simp
   rw[h3]
   omega
  ·rw[←hfun]
   refine⟨fun j o' hj hS e he => ?_,fun j hj => ?_⟩
   ·by_cases hji:j=i
    ·subst hji
     rw[ho] at hj
     simp only[Option.some.injEq] at hj
     subst hj
     unfold ins;split
     ·rfl
     ·exact hed e he
    ·rw[Gj hji] at hS
     unfold ins;split
     ·rfl
     ·exact hok.cl j o' hj hS e he
   ·rw[Gj (by omega)]
    exact hok.bd j hj
theorem aqe(hm:P.follows .mixedOrders=true){id:Nat}{a:Act}{w:World}(I:(Nat→Bool)→Act→World→Prop)(hidx:∀i o,ops[i]?=some o→∀e∈edgesOf o,e<i)
  (yH:∀(S:Nat→Bool) i o a w,ops[i]?=some o→S i=false→(∀e∈edgesOf o,S e=true)→Ok ops S→I S a w→wpOp P ops Q i (I (ins S i)) a w)
  (hend:∀S a w,(∀j,j<ops.size→S j=true)→Ok ops S→I S a w→Q .normal a w) (h0:I (fun _=>false) a { w with drawn:=w.drawn+1 }):(Code.region id ops true).wp P Q a w:=by
 have hfun:(fun i=>(Array.replicate ops.size false).getD i false)=fun _=>false:=by
  funext i;simp [Array.getD]
 refine wp_region_any hm (ajL I hidx yH hend ops.size _ a _ ?_ (by simp) ?_ ?_)
 ·simp only[Array.toList_replicate]
  rw[List.count_replicate]
  split<;>omega
 ·rw[hfun]
  exact⟨fun _ _ _ h=>(by cases h),fun _ _=>rfl⟩
 ·rw[hfun];exact h0
theorem acr{s:St}{L:Lay}{a:Act}{w:World}(S:Sim C s L a w):Sim C s L a { w with drawn:=w.drawn+1 }:=by
 have K:Whole L L w w.drew:=⟨rfl,fun g h=>⟨h,.of rfl⟩,fun id e _ g h=>⟨⟨rfl,h⟩,rfl⟩,fun _ _ _ h=>h⟩
 exact⟨S.defers,S.size,fun t=>(S.env t).whole K,fun t=>(S.hid t).whole K,fun b cs h=>by obtain⟨g,arr,h1,h2,h3⟩:=S.box b cs h;exact⟨g,arr,h1,h2,h3.whole K⟩,S.wf.mono (Nat.le_refl _) (Nat.le_refl _),S.kp.drew⟩
def dT:Dw:=⟨fun P _ ops K s=>FN P ops K s∨∀(id:Nat) (C:Cx) (Q:Exit→St→Prop) (L:Lay) (a:Act) (w:World),C.TOk P→Nk C.n ops.toList=true→Q .normal=K→Sim C s L a w→(Code.region id ops true).wp P (aht C Q) a w,[]⟩
theorem acs(hm:P.follows .mixedOrders=true):mZ P dT:=by
 intro id C ops K Q s L a w hT hfit hQK h S
 rcases h with h|h
 ·exact GH [] hm id C ops K Q s L a w hT hfit hQK h S
 ·exact h id C Q L a w hT hfit hQK S
theorem Gz(x y:Code)(Q:Exit→St→Prop)(s:St):wpS dT P (.seq x y) Q s=wpS dT P x (qH dT P y Q) s:=by
 have:nP dT.cuts (kC y)=false:=by cases h:kC y<;>rfl
 simp only[wpS,this,cond_false]
 rfl
theorem abo(hm:P.follows .mixedOrders=true)(m:Nat){l:List Oper}{id:Nat}{Q:Exit→St→Prop}{s:St}(F:(Nat→Bool)→St)(hF:F (fun _=>false)=s)
  (hidx:(l.zipIdx.all fun x=>(edgesOf x.1).all fun e=>decide (e<x.2))=true) (hchk:((List.range l.length).all fun i=>decide (i<m)||(List.range i).all fun j=>((wF [] l).getD i 0).testBit j)=true) (hg:(l.all fun o=>o.guard.isNone)=true)
  (yH:∀(S:Nat→Bool) i o,l[i]?=some o→i<m→S i=false→(∀e∈edgesOf o,S e=true)→(∀j o',l[j]?=some o'→S j=true→∀e∈edgesOf o',S e=true)→az P (F S) o (fun _ s'=>s'=F (ins S i)))
  (hend:∀S,(∀j,j<m→j<l.length→S j=true)→wY P (l.map (·.dst)) Q (l.drop m) (F S)):wpS dT P (.region id l.toArray true) Q s:=by
 refine .inr fun id C Q' L a w hT hfit hQK S0 => ?_
 have hguard:∀(i:Nat) (o:Oper),l[i]?=some o→o.guard=none:=fun i o ho=>by
  have:=List.all_eq_true.1 hg o (List.mem_of_getElem? ho)
  simpa using this
 have hbef:∀(S:Nat→Bool) (i:Nat) (o:Oper),l[i]?=some o→m≤i→(∀e∈edgesOf o,S e=true)→Ok l.toArray S→∀j,j<i→S j=true:=by
  intro S i o ho hi he hok j hj
  have hil:i<l.length:=(List.getElem?_eq_some_iff.1 ho).1
  have h1:=List.all_eq_true.1 hchk i (List.mem_range.2 hil)
  rw[decide_eq_false (by omega),Bool.false_or] at h1
  have h2:=List.all_eq_true.1 h1 j (List.mem_range.2 hj)
  exact C9 (fun i=>S i=true) l [] (fun k j _ h=>by simp at h) (fun k o hk hD e he=>hok.cl k o (by simpa using hk) (by simpa using hD) e he) i o ho he j (by simpa using h2)
 refine aqe hm (fun S a w=>((∀j,m≤j→S j=false)∧∃L,Sim C (F S) L a w)∨∃k,m<k∧(∀j,j<k→j<l.length→S j=true)∧(∀j,k≤j→S j=false)∧∃s' L,Sim C s' L a w∧wpL P (l.map (·.dst)) (Q .normal) (l.drop k) s') ?_ ?_ ?_ (.inl ⟨fun _ _=>rfl,L,hF ▸ acr S0⟩)
 ·intro i o ho e he
  have hm:(o,i)∈l.zipIdx:=by
   rw[List.mem_zipIdx_iff_getElem?]
   simpa using ho
  have:=List.all_eq_true.1 (List.all_eq_true.1 hidx (o,i) hm) e he
  simpa using this
 ·intro S i o a w ho hi he hok hI
  have ho':l[i]?=some o:=by simpa using ho
  have hil:i<l.length:=(List.getElem?_eq_some_iff.1 ho').1
  have hd:∀t,o.dst=some t→t<C.n:=pI hfit o (by simpa using Array.mem_of_getElem? ho)
  have hgo:=hguard i o ho'
  have go:∀{s1:St} {L:Lay} {K':St→Prop},az P s1 o (fun _ s'=>K' s')→Sim C s1 L a w→∀{I':Act→World→Prop},(∀s' L' a' w',K' s'→Sim C s' L' a' w'→I' a' w')→wpOp P l.toArray (aht C Q') i I' a w:=by
   intro s1 L K' h1 hS I' hI'
   obtain⟨κ,s2,h2,h3⟩:=CV h1
   exact TF (κ:=κ) hT ho (by unfold aV;rw[hgo];exact h2) hS hd (fun L' a' w' S'=>hI' _ _ _ _ h3 S')
  have seq:∀{s1:St} {L:Lay},wpL P (l.map (·.dst)) (Q .normal) (l.drop i) s1→Sim C s1 L a w→(∀j,j<i→S j=true)→(∀j,i≤j→S j=false)→m≤i→wpOp P l.toArray (aht C Q') i (fun a w=>((∀j,m≤j→ins S i j=false)∧∃L,Sim C (F (ins S i)) L a w)∨∃k,m<k∧(∀j,j<k→j<l.length→ins S i j=true)∧(∀j,k≤j→ins S i j=false)∧∃s' L,Sim C s' L a w∧wpL P (l.map (·.dst)) (Q .normal) (l.drop k) s') a w:=by
   intro s1 L h1 hS hlt hge hmi
   rw[List.drop_eq_getElem_cons hil] at h1
   have hoe:l[i]=o:=(List.getElem?_eq_some_iff.1 ho').2
   rw[hoe] at h1
   unfold wpL at h1
   rw[hgo] at h1
   refine go h1 hS (fun s' L' a' w' h2 hS' => .inr ⟨i+1,by omega,fun j hj _ => ?_,fun j hj => ?_,s',L',hS',h2⟩)
   ·unfold ins;split
    ·rfl
    ·exact hlt j (by omega)
   ·rw[Gj (by omega)];exact hge j (by omega)
  rcases hI with ⟨hno,L,hS⟩|⟨k,hk,hlt,hge,s1,L,hS,hw⟩
  ·rcases Nat.lt_or_ge i m with h1|h1
   ·refine go (yH S i o ho' h1 hi he (fun j o' hj=>hok.cl j o' (by simpa using hj))) hS (fun s' L' a' w' h2 hS' => .inl ⟨fun j hj => ?_,L',h2 ▸ hS'⟩)
    rw[Gj (by omega)];exact hno j hj
   ·have hall:=hbef S i o ho' h1 he hok
    have him:i=m:=by
     rcases Nat.lt_or_ge m i with h2|h2
     ·have:=hall m h2;rw[hno m (Nat.le_refl _)] at this;cases this
     ·omega
    subst him
    have:=hend S (fun j hj _=>hall j hj)
    exact seq this hS hall hno (Nat.le_refl _)
  ·have hall:=hbef S i o ho' (by
    rcases Nat.lt_or_ge i k with h2|h2
    ·have:=hlt i h2 hil;rw[hi] at this;cases this
    ·omega) he hok
   have hik:i=k:=by
    rcases Nat.lt_or_ge i k with h2|h2
    ·have:=hlt i h2 hil;rw[hi] at this;cases this
    ·rcases Nat.lt_or_ge k i with h3|h3
     ·have:=hall k h3;rw[hge k (Nat.le_refl _)] at this;cases this
     ·omega
   subst hik
   exact seq hw hS hall hge (by omega)
 ·rintro S a w hall hok (⟨hno,L,hS⟩|⟨k,hk,hlt,hge,s1,L,hS,hw⟩)
  ·have hml:l.length≤m:=by
    rcases Nat.lt_or_ge m l.length with h1|h1
    ·have:=hall m (by simpa using h1);rw[hno m (Nat.le_refl _)] at this;cases this
    ·exact h1
   have:=hend S (fun j hj hjl=>hall j (by simpa using hjl))
   rw[List.drop_of_length_le hml] at this
   exact⟨F S,L,by rw[hQK];exact this,hS⟩
  ·have hkl:l.length≤k:=by
    rcases Nat.lt_or_ge k l.length with h1|h1
    ·have:=hall k (by simpa using h1);rw[hge k (Nat.le_refl _)] at this;cases this
    ·exact h1
   rw[List.drop_of_length_le hkl] at hw
   exact⟨s1,L,by rw[hQK];exact hw,hS⟩
def PX:List (Nat × V)→Nat→(Nat→Bool)→(Nat→V)→Nat→V
 | [],_,_,e=>e
 | (d,v)::r,k,S,e=>fun t=>if t=d then (if S k=true then v else e t) else PX r (k+1) S e t
theorem pO(k:Nat)(S:Nat→Bool)(e:Nat→V):PX [] k S e=e:=rfl
theorem iw(d:Nat)(v:V)(r:List (Nat × V))(k:Nat)(S:Nat→Bool)(e:Nat→V)(t:Nat):PX ((d,v)::r) k S e t=if t=d then (if S k=true then v else e t) else PX r (k+1) S e t:=rfl
theorem acu:∀(T:List (Nat × V)) (k:Nat) (e:Nat→V),PX T k (fun _=>false) e=e:=by
 intro T
 induction T with
 | nil=>intro k e;rfl
 | cons x r ih =>
  intro k e
  obtain⟨d,v⟩:=x
  funext t
  rw[iw,ih (k+1) e]
  simp
theorem acv(i:Nat)(S:Nat→Bool)(e:Nat→V):∀(T:List (Nat × V)) (k:Nat) (d:Nat) (v:V),k≤i→T[i-k]?=some (d,v)→(T.map (·.1)).Nodup→upd (PX T k S e) d v=PX T k (ins S i) e:=by
 intro T
 induction T with
 | nil=>intro k d v _ h;simp at h
 | cons x r ih =>
  intro k d v hk h hn
  obtain⟨d0,v0⟩:=x
  simp only[List.map_cons,List.nodup_cons] at hn
  funext t
  rw[iw]
  rcases Nat.lt_or_ge k i with hlt|hge
  ·have e1:i-k=(i-(k+1))+1:=by omega
   rw[e1,List.getElem?_cons_succ] at h
   have:=congrFun (ih (k+1) d v (by omega) h hn.2) t
   rw[←this]
   unfold upd
   have hd:d≠d0:=by
    intro hd;subst hd
    exact hn.1 (List.mem_map.2 ⟨(d,v),List.mem_of_getElem? h,rfl⟩)
   rw[iw,Gj (by omega:k≠i)]
   by_cases h1:t=d
   ·rw[if_pos h1,if_neg (by omega),if_pos h1]
   ·rw[if_neg h1]
    split<;>rfl
  ·have hki:k=i:=by omega
   subst hki
   rw[Nat.sub_self] at h
   simp only[List.getElem?_cons_zero,Option.some.injEq,Prod.mk.injEq] at h
   obtain⟨rfl,rfl⟩:=h
   unfold upd
   rw[iw,P8]
   by_cases h1:t=d0
   ·rw[if_pos h1,if_pos h1,if_pos rfl]
   ·rw[if_neg h1,if_neg h1,if_neg h1]
    have:∀(T:List (Nat × V)) (j:Nat),k<j→PX T j (ins S k) e=PX T j S e:=by
     intro T
     induction T with
     | nil=>intro j _;rfl
     | cons x r ih2 =>
      intro j hj
      obtain⟨d,v⟩:=x
      funext t
      rw[iw,iw,ih2 (j+1) (by omega),Gj (by omega)]
    rw[this r (k+1) (by omega)]
theorem Fh{T:List (Nat × V)}{S:Nat→Bool}{e:Nat→V}{bx bx':Nat→Option (TypeId × List V)}{n n':Nat}{h:Nat→V}(i:Nat){d:Nat}{v:V}(hT:T[i]?=some (d,v))(hn:(T.map (·.1)).Nodup)(hb:bx=bx')(hnn:n=n'):(⟨upd (PX T 0 S e) d v,bx,n,h⟩:St)=⟨PX T 0 (ins S i) e,bx',n',h⟩:=by
 rw[acv i S e T 0 d v (Nat.zero_le _) (by simpa using hT) hn,hb,hnn]
theorem abp(hm:P.follows .mixedOrders=true)(m:Nat)(T:List (Nat × V))(BX:(Nat→Bool)→Nat→Option (TypeId × List V))(NI:(Nat→Bool)→Nat){l:List Oper}{id:Nat}{Q:Exit→St→Prop}{e:Nat→V}{bx:Nat→Option (TypeId × List V)}{n:Nat}{h:Nat→V}
  (hb0:BX (fun _=>false)=bx) (hn0:NI (fun _=>false)=n)
  (hidx:(l.zipIdx.all fun x=>(edgesOf x.1).all fun e=>decide (e<x.2))=true) (hchk:((List.range l.length).all fun i=>decide (i<m)||(List.range i).all fun j=>((wF [] l).getD i 0).testBit j)=true) (hg:(l.all fun o=>o.guard.isNone)=true)
  (yH:∀(S:Nat→Bool) i o,l[i]?=some o→i<m→S i=false→(∀e∈edgesOf o,S e=true)→(∀j o',l[j]?=some o'→S j=true→∀e∈edgesOf o',S e=true)→az P ⟨PX T 0 S e,BX S,NI S,h⟩ o (fun _ s'=>s'=⟨PX T 0 (ins S i) e,BX (ins S i),NI (ins S i),h⟩))
  (hend:∀S,(∀j,j<m→j<l.length→S j=true)→wY P (l.map (·.dst)) Q (l.drop m) ⟨PX T 0 S e,BX S,NI S,h⟩):wpS dT P (.region id l.toArray true) Q ⟨e,bx,n,h⟩ :=
 abo hm m (fun S=>⟨PX T 0 S e,BX S,NI S,h⟩) (by simp only[acu,hb0,hn0]) hidx hchk hg yH hend
end
end Go.Pg
end
namespace Go.Proofs.YtjiolbcdfgclaaaGreatDoor
open Go Go.Pg
def opX(bx:Nat→Option (TypeId × List V))(n b:Nat)(nm:List Nat)(it co:V)(l:List (List Nat))(bad:Bool):Nat→Option (TypeId × List V) :=
 EY (n+1) (upd (upd (upd bx n (some (32,op0 0))) (n+1) (some (32,opI nm it co))) b (some (112,rdC l bad)))
theorem ajQ(w:List Nat)(id:Nat):(byX w).any (Tag.is id) (fun _=>false) false=false:=by unfold byX;split<;>rfl
theorem aqf(n b:Nat){w:List Nat}(l:List (List Nat))(hj:wix aH w=6)(how:oct w)(hbn:b<n)(hl:l.length≤100000)(ho:∀x∈l,oct x)(hw:∀x∈l,x.length≤1000000)(e:Nat→V)(bx:Nat→Option (TypeId × List V))(h:Nat→V)(hE:FrE n e)(hB:FrB n bx)(hH:FrE n h)(hb:bx b=some (112,rdC (w::l) false)) :
  Gxz 55 [.ref b 0] ⟨e,bx,n,h⟩ ⟨e,upd bx b (some (112,rdC (its [] l.tail.tail (l.isEmpty||l.tail.isEmpty||oH (hdW l.tail))).2.1 (its [] l.tail.tail (l.isEmpty||l.tail.isEmpty||oH (hdW l.tail))).2.2)),n+10000000,h⟩
   (.agg (opI (hdW l) (itA (n+3) (its [] l.tail.tail (l.isEmpty||l.tail.isEmpty||oH (hdW l.tail))).1) (byX (hdW l.tail)))):=by
 have d1:¬n=b:=by omega
 have d2:¬b=n:=by omega
 have d3:¬n=n+1:=by omega
 have d4:¬n+1=n:=by omega
 have d5:¬n+1=b:=by omega
 have d6:¬b=n+1:=by omega
 have c1:¬n+1<b:=by omega
 have c2:¬n+1<n:=by omega
 have c3:¬n+1<n+1:=by omega
 have hot:=vZ (fun x hx=>ho x (List.mem_of_mem_tail hx):∀x∈l.tail,oct x)
 have hwt1:=zt (fun x hx=>hw x (List.mem_of_mem_tail hx):∀x∈l.tail,x.length≤1000000)
 have ht:=tO how hj
 generalize hF:its [] l.tail.tail (l.isEmpty||l.tail.isEmpty||oH (hdW l.tail))=F
 have key:∃bx' n',Gxz 55 [.ref b 0] ⟨e,bx,n,h⟩ ⟨e,bx',n',h⟩ (.agg (opI (hdW l) (itA (n+3) F.1) (byX (hdW l.tail))))∧n'≤n+10000000∧∀c,upd bx b (some (112,rdC F.2.1 F.2.2)) c=bx' c∨upd bx b (some (112,rdC F.2.1 F.2.2)) c=none∨(n≤c∧upd bx b (some (112,rdC F.2.1 F.2.2)) c=bx c):=by
  refine⟨upd (opX bx n b (hdW l) (itA (n+3) F.1) (byX (hdW l.tail)) F.2.1 F.2.2) n (some (32,opI (hdW l) (itA (n+3) F.1) (byX (hdW l.tail)))),n+10000000, ?_,Nat.le_refl _, ?_⟩
  ·refine gZ (acs mix) Tryz.func55 Tryz.results55 ?_
   (repeat' first|refine wP (aI @Gz (aI @iQ (aI @dm (aI @bI (aI @hb (aI @ai (aI @ht (aI @d1 (aI @d2 (aI @d3 (aI @d4 (aI @d5 (aI @d6 (aI @jG (aI @acp @GG))))))))))))))) trivial ?_|refine cZ (Wx b (by simp only[upd];(repeat' (first|rw[if_neg (by omega)]|rw[if_pos rfl]|rw[if_pos trivial]));first|done|exact hb) hl) ?_|refine cZ (PW b (by simp only[upd];(repeat' (first|rw[if_neg (by omega)]|rw[if_pos rfl]|rw[if_pos trivial]));first|done|exact hb) (by omega)) ?_|refine cZ (Wv b (by simp only[upd];(repeat' (first|rw[if_neg (by omega)]|rw[if_pos rfl]|rw[if_pos trivial]));first|done|exact hb) (by simp only[List.length_tail];omega) hot hwt1) ?_|refine tS ?_ ?_<;>intro hc|fail)
   refine OM (fun _:List (List Nat × Int) × List (List Nat) × Bool=>[(0,.ref b 0),(2,.ref n 0),(3,.ref (n+1) 0)]) (fun x=>opX bx n b (hdW l) (itA (n+3) x.1) (byX (hdW l.tail)) x.2.1 x.2.2) (fun x=>n+2+3*x.1.length) (fun x=>its x.1 x.2.1 x.2.2=F∧x.1.length+x.2.1.length≤100000∧(∀y∈x.2.1,oct y∧y.length≤1000000)) (fun x=>x.2.1.length) ([],l.tail.tail,l.isEmpty||l.tail.isEmpty||oH (hdW l.tail)) ?_ ?_ ?_ ?_ ?_
   ·((try simp only[kF,lQ,lD,mf,pgo,simprocAttr,and_true,true_and]);try (repeat' (first|exact trivial|rfl|apply aI)))
   ·intro c
    simp only[opX,EY,upd,afz]
    (repeat' split)<;>first|exact .inr rfl|exact .inl rfl|(exfalso;omega)
   ·show n+1+1≤_
    simp only[List.length_nil];omega
   ·refine⟨hF,by simp only[List.length_nil,List.length_tail];omega,fun y hy => ?_⟩
    have h1:=List.mem_of_mem_tail (List.mem_of_mem_tail hy)
    exact⟨ho y h1,hw y h1⟩
   ·rintro⟨acc,l',bad⟩ ⟨hi1,hi2,hi3⟩
    simp only at hi1 hi2 hi3
    have hfin:∀(hx:its acc l' bad=(acc,l',bad)),F=(acc,l',bad):=fun hx=>by rw[←hi1,hx]
    cases bad with
    | true =>
     have hF':=hfin (ahe acc l')
     subst hF'
     have hx:=au l'
     (repeat' (first|(simp (disch:=first|exact dqz|fail) only[pgz,simprocAttr,Gz,opX,qM,c1,c2,c3,hx,dm,bI,d1,d2,d3,d4,d5,d6,BV,GG])|((with_reducible first|apply di|apply bK|apply dw)<;>intro hc<;>(try simp only[hc])<;>(try simp only[pgd] at hc))|(with_reducible refine cK ?_)))
     all_goals (refine uO (by first|exact aG _ _ _|exact jq _ _ _ _|(simp (disch:=first|assumption|omega|(simp only[Fits,maxLen,pgq] at *;omega)) only[pgr,pgo,tyf,simprocAttr,d1,d2,d3,d4,d5,d6,c1,c2,c3,opX,qM];done)|(simp (disch:=first|assumption|omega|(simp only[Fits,maxLen,pgq] at *;omega)) only[pgr,pgo,tyf,simprocAttr,d1,d2,d3,d4,d5,d6,c1,c2,c3,opX,qM];rfl)) (dJ _ _) (dK _ _) (by first|rfl|skip) (by first|omega|skip))
    | false =>
     cases l' with
     | nil =>
      have hF':=hfin (ahf acc)
      subst hF'
      have hx:=au []
      (repeat' (first|(simp (disch:=first|exact dqz|fail) only[pgz,simprocAttr,Gz,opX,qM,c1,c2,c3,hx,dm,bI,d1,d2,d3,d4,d5,d6,BV,GG])|((with_reducible first|apply di|apply bK|apply dw)<;>intro hc<;>(try simp only[hc])<;>(try simp only[pgd] at hc))|(with_reducible refine cK ?_)))
      all_goals (refine uO (by first|exact aG _ _ _|exact jq _ _ _ _|(simp (disch:=first|assumption|omega|(simp only[Fits,maxLen,pgq] at *;omega)) only[pgr,pgo,tyf,simprocAttr,d1,d2,d3,d4,d5,d6,c1,c2,c3,opX,qM];done)|(simp (disch:=first|assumption|omega|(simp only[Fits,maxLen,pgq] at *;omega)) only[pgr,pgo,tyf,simprocAttr,d1,d2,d3,d4,d5,d6,c1,c2,c3,opX,qM];rfl)) (dJ _ _) (dK _ _) (by first|rfl|skip) (by first|omega|skip))
     | cons k r =>
      have hx:=au (k::r)
      have hk:=hi3 k (by simp)
      have hrl:acc.length+r.length+1≤100000:=by simpa [Nat.add_assoc] using hi2
      have hr:oct (hdW r)∧(hdW r).length≤1000000:=by
       cases r with
       | nil=>exact⟨dV,by simp [hdW]⟩
       | cons w r=>have:=hi3 w (by simp);exact⟨this.1,by simp only[hdW,List.headD_cons];omega⟩
      have hlen:((k::r).length:Int)=(r.length:Int)+1:=by simp
      rw[ahg] at hi1
      have hnxt:its (acc++[((pk k).1,(aZ (hdW r)).1)]) r.tail (qW (k::r)||iE r)=F∧(acc++[((pk k).1,(aZ (hdW r)).1)]).length+r.tail.length≤100000∧∀y∈r.tail,oct y∧y.length≤1000000:=by
       refine⟨hi1,by simp only[List.length_append,List.length_cons,List.length_nil,List.length_tail];omega,fun y hy=>hi3 y (by simp [List.mem_of_mem_tail hy])⟩
      have hP:=QZ (id:=n+3) (LG hE hH) (by omega)
      have hk1:hdW (k::r)=k:=rfl
      have hbc:∀c,(bx c).map (fun y=>(y.1,y.2.map (aJ (n+3))))=bx c:=fun c=>congrFun (Q3 (id:=n+3) hB (by omega)) c
      have hit:=aB acc
      (repeat' (first|(simp (disch:=first|exact dqz|fail) only[pgz,simprocAttr,Gz,opX,qM,c1,c2,c3,hx,hlen,dm,bI,d1,d2,d3,d4,d5,d6,BV,GG])|((with_reducible first|apply di|apply bK|apply dw)<;>intro hc<;>(try simp only[hc])<;>(try simp only[pgd] at hc))|(with_reducible refine cK ?_)))
      obtain⟨B0,hB0⟩:∃f,f=opX bx n b (hdW l) (itA (n+3) acc) (byX (hdW l.tail)) (k::r) false:=⟨_,rfl⟩
      obtain⟨B1,hB1⟩:∃f,f=upd B0 b (some (112,rdC r (qW (k::r)))):=⟨_,rfl⟩
      obtain⟨B2,hB2⟩:∃f,f=upd B1 b (some (112,rdC r.tail (qW (k::r)||iE r))):=⟨_,rfl⟩
      obtain⟨N,hN⟩:∃N,N=n+2+3*acc.length:=⟨_,rfl⟩
      obtain⟨BX,hBX⟩:∃f:(Nat→Bool)→Nat→Option (TypeId × List V),f=fun S=>if S 5=true then B2 else if S 3=true then B1 else B0:=⟨_,rfl⟩
      obtain⟨NI,hNI⟩:∃f:(Nat→Bool)→Nat,f=fun S=>if S 7=true then N+1 else N:=⟨_,rfl⟩
      have b0:B0 b=some (112,rdC (k::r) false):=by rw[hB0];simp only[opX,EY,upd];(repeat' (first|rw[if_neg (by omega)]|rw[if_pos rfl]|rw[if_pos trivial]))
      have b1:B1 b=some (112,rdC r (qW (k::r))):=by rw[hB1];exact abr _ _ _
      have hIt:∀S,BX S (n+1)=some (32,opI (hdW l) (itA (n+3) acc) (byX (hdW l.tail))):=by
       intro S
       have e0:B0 (n+1)=some (32,opI (hdW l) (itA (n+3) acc) (byX (hdW l.tail))):=by rw[hB0];simp only[opX,EY,upd];(repeat' (first|rw[if_neg (by omega)]|rw[if_pos rfl]|rw[if_pos trivial]))
       have e1:B1 (n+1)=B0 (n+1):=by rw[hB1];exact aoZ _ _ _ _ d5
       have e2:B2 (n+1)=B1 (n+1):=by rw[hB2];exact aoZ _ _ _ _ d5
       rw[hBX]
       simp only
       split
       ·rw[e2,e1,e0]
       ·split
        ·rw[e1,e0]
        ·exact e0
      have hBi:∀S i,i≠3→i≠5→BX S=BX (ins S i):=fun S i h3 h5=>by rw[hBX];simp only[Gj (Ne.symm h3),Gj (Ne.symm h5)]
      have hNi:∀S i,i≠7→NI S=NI (ins S i):=fun S i h7=>by rw[hNI];simp only[Gj (Ne.symm h7)]
      have hnd:([68,69,70,71,72,73,74,75]:List Nat).Nodup:=by decide
      refine abp mix 8 [(68,.ref (n+1) 8),(69,itA (n+3) acc),(70,.ref b 0),(71,vs (pk k).1),(72,.ref b 0),(73,vi (aZ (hdW r)).1),(74,.agg [vs (pk k).1,vi (aZ (hdW r)).1]),(75,.sl (.own N 64) 2 [.agg [vs (pk k).1,vi (aZ (hdW r)).1]])] BX NI (by rw[hBX];show B0=_;rw[hB0];rfl) (by rw[hNI];show N=_;rw[hN]) (by decide) (by decide) (by decide) ?_ ?_
      ·intro S i o ho hi hS he hcl
       rcases (by omega:i=0∨i=1∨i=2∨i=3∨i=4∨i=5∨i=6∨i=7) with rfl|rfl|rfl|rfl|rfl|rfl|rfl|rfl
       all_goals (simp only[List.getElem?_cons_zero,List.getElem?_cons_succ,Option.some.injEq] at ho;subst ho)
       ·(repeat' (first|(simp (disch:=first|exact dqz|fail) only[pgz,simprocAttr,hS,iw,pO])|((with_reducible first|apply di|apply bK|apply dw)<;>intro hc<;>(try simp only[hc])<;>(try simp only[pgd] at hc))|(with_reducible refine cK ?_)))
        exact Fh 0 rfl hnd (hBi S 0 (by decide) (by decide)) (hNi S 0 (by decide))
       ·have s0:=he 0 (by decide)
        (repeat' (first|(simp (disch:=first|exact dqz|fail) only[pgz,simprocAttr,hS,s0,iw,pO,hIt,BV])|((with_reducible first|apply di|apply bK|apply dw)<;>intro hc<;>(try simp only[hc])<;>(try simp only[pgd] at hc))|(with_reducible refine cK ?_)))
        exact Fh 1 rfl hnd (hBi S 1 (by decide) (by decide)) (hNi S 1 (by decide))
       ·(repeat' (first|(simp (disch:=first|exact dqz|fail) only[pgz,simprocAttr,hS,iw,pO])|((with_reducible first|apply di|apply bK|apply dw)<;>intro hc<;>(try simp only[hc])<;>(try simp only[pgd] at hc))|(with_reducible refine cK ?_)))
        exact Fh 2 rfl hnd (hBi S 2 (by decide) (by decide)) (hNi S 2 (by decide))
       ·have s2:=he 2 (by decide)
        have n5:S 5=false:=by
         cases h5:S 5 with
         | false=>rfl
         | true=>have:=hcl 5 _ rfl h5 3 (by decide);rw[hS] at this;cases this
        have e0:BX S=B0:=by rw[hBX];simp only[n5,hS];rfl
        have e1:BX (ins S 3)=B1:=by rw[hBX];simp only[P8,Gj (show 5≠3 by decide),n5];rfl
        (repeat' (first|(simp (disch:=first|exact dqz|fail) only[pgz,simprocAttr,hS,s2,e0,iw,pO])|((with_reducible first|apply di|apply bK|apply dw)<;>intro hc<;>(try simp only[hc])<;>(try simp only[pgd] at hc))|(with_reducible refine cK ?_)))
        refine cZ (aka b (l:=k::r) (bad:=false) b0 (by simp only[List.length_cons];omega) hk.1 (by rw[hk1];omega)) ?_ (by simp only[List.map_cons,List.map_nil,pgo,simprocAttr,s2,iw])
        exact Fh 3 (T:=[(68,.ref (n+1) 8),(69,itA (n+3) acc),(70,.ref b 0),(71,vs (pk k).1),(72,.ref b 0),(73,vi (aZ (hdW r)).1),(74,.agg [vs (pk k).1,vi (aZ (hdW r)).1]),(75,.sl (.own N 64) 2 [.agg [vs (pk k).1,vi (aZ (hdW r)).1]])]) rfl hnd (by rw[e1,hB1];rfl) (hNi S 3 (by decide))
       ·(repeat' (first|(simp (disch:=first|exact dqz|fail) only[pgz,simprocAttr,hS,iw,pO])|((with_reducible first|apply di|apply bK|apply dw)<;>intro hc<;>(try simp only[hc])<;>(try simp only[pgd] at hc))|(with_reducible refine cK ?_)))
        exact Fh 4 rfl hnd (hBi S 4 (by decide) (by decide)) (hNi S 4 (by decide))
       ·have s4:=he 4 (by decide)
        have s3:=he 3 (by decide)
        have e0:BX S=B1:=by rw[hBX];simp only[s3,hS];rfl
        have e1:BX (ins S 5)=B2:=by rw[hBX];simp only[P8];rfl
        (repeat' (first|(simp (disch:=first|exact dqz|fail) only[pgz,simprocAttr,hS,s4,e0,iw,pO])|((with_reducible first|apply di|apply bK|apply dw)<;>intro hc<;>(try simp only[hc])<;>(try simp only[pgd] at hc))|(with_reducible refine cK ?_)))
        refine cZ (VR b (l:=r) (bad:=qW (k::r)) b1 (by omega) hr.1 hr.2) ?_ (by simp only[List.map_cons,List.map_nil,pgo,simprocAttr,s4,iw])
        exact Fh 5 (T:=[(68,.ref (n+1) 8),(69,itA (n+3) acc),(70,.ref b 0),(71,vs (pk k).1),(72,.ref b 0),(73,vi (aZ (hdW r)).1),(74,.agg [vs (pk k).1,vi (aZ (hdW r)).1]),(75,.sl (.own N 64) 2 [.agg [vs (pk k).1,vi (aZ (hdW r)).1]])]) rfl hnd (by rw[e1,hB2]) (hNi S 5 (by decide))
       ·have s3:=he 3 (by decide)
        have s5:=he 5 (by decide)
        (repeat' (first|(simp (disch:=first|exact dqz|fail) only[pgz,simprocAttr,hS,s3,s5,iw,pO])|((with_reducible first|apply di|apply bK|apply dw)<;>intro hc<;>(try simp only[hc])<;>(try simp only[pgd] at hc))|(with_reducible refine cK ?_)))
        exact Fh 6 rfl hnd (hBi S 6 (by decide) (by decide)) (hNi S 6 (by decide))
       ·have s6:=he 6 (by decide)
        have e0:NI S=N:=by rw[hNI];simp only[hS];rfl
        have e1:NI (ins S 7)=N+1:=by rw[hNI];simp only[P8];rfl
        (repeat' (first|(simp (disch:=first|exact dqz|fail) only[pgz,simprocAttr,hS,s6,e0,iw,pO])|((with_reducible first|apply di|apply bK|apply dw)<;>intro hc<;>(try simp only[hc])<;>(try simp only[pgd] at hc))|(with_reducible refine cK ?_)))
        exact Fh 7 rfl hnd (hBi S 7 (by decide) (by decide)) e1.symm
      ·intro S hall
       have s1:=hall 1 (by decide) (by decide)
       have s7:=hall 7 (by decide) (by decide)
       have e0:BX S=B2:=by rw[hBX];simp only[hall 5 (by decide) (by decide)];rfl
       have e1:NI S=N+1:=by rw[hNI];simp only[s7];rfl
       rw[e0,e1]
       have hB2n:=hIt S
       rw[e0] at hB2n
       simp only[List.drop_succ_cons,List.drop_zero,List.map_cons,List.map_nil]
       by_cases hac:acc=[]
       ·have eA:itA (n+3) acc=nls:=by rw[hac];rfl
        (repeat' (first|(simp (disch:=first|exact dqz|fail) only[pgz,simprocAttr,Gz,hB2n,eA,s1,s7,iw,pO,bI,BV,GG,jG])|((with_reducible first|apply di|apply bK|apply dw)<;>intro hc<;>(try simp only[hc])<;>(try simp only[pgd] at hc))|(with_reducible refine cK ?_)))
        have hN2:N=n+2:=by rw[hN,hac];rfl
        refine Dz (acc++[((pk k).1,(aZ (hdW r)).1)],r.tail,qW (k::r)||iE r) hnxt (by simp only[List.length_cons,List.length_tail];omega) ?_ ?_ (by simp only[List.length_append,List.length_cons,List.length_nil];omega)
        ·((try simp only[kF,lQ,lD,mf,pgo,simprocAttr,and_true,true_and,iw,pO]);try (repeat' (first|exact trivial|rfl|apply aI)))
        ·intro c
         subst hac hB2 hB1 hB0 hN2
         simp only[opX,EY,upd]
         (repeat' split)<;>first|exact .inr rfl|exact .inl rfl|(exfalso;omega)
       ·have eA:=RV (n+3) acc hac
        have hby:=ajQ (hdW l.tail) (n+3)
        (repeat' (first|(simp (disch:=first|exact dqz|fail) only[pgz,simprocAttr,Gz,hby,hB2n,eA,s1,s7,iw,pO,hP,hit,bI,BV,GG,jG,LH])|((with_reducible first|apply di|apply bK|apply dw)<;>intro hc<;>(try simp only[hc])<;>(try simp only[pgd] at hc))|(with_reducible refine cK ?_)))
        refine Dz (acc++[((pk k).1,(aZ (hdW r)).1)],r.tail,qW (k::r)||iE r) hnxt (by simp only[List.length_cons,List.length_tail];omega) ?_ ?_ (by simp only[List.length_append,List.length_cons,List.length_nil];first|omega|(split<;>omega))
        ·((try simp only[kF,lQ,lD,mf,pgo,simprocAttr,and_true,true_and,iw,pO]);try (repeat' (first|exact trivial|rfl|apply aI)))
        ·intro c
         have eN:itA (n+3) (acc++[((pk k).1,(aZ (hdW r)).1)]) = .sl (.own (n+3) 64) 2 (itv (acc++[((pk k).1,(aZ (hdW r)).1)])):=RV _ _ (by simp)
         subst hB2 hB1 hB0
         simp only[opX,EY,upd,QN,eN]
         (repeat' split)<;>first|exact .inr rfl|exact .inl rfl|(exfalso;omega)|exact .inl (hbc c).symm|skip
  ·intro c
   simp only[opX,EY,upd]
   (repeat' split)<;>first|exact .inl rfl|exact .inr (.inl rfl)|exact .inr (.inr ⟨by omega,rfl⟩)|(exfalso;omega)
 obtain⟨bx',n',h1,h2,h3⟩:=key
 exact h1.le h2 h3
theorem aqg(b:Nat){e:Nat→V}{bx:Nat→Option (TypeId × List V)}{n:Nat}{h:Nat→V}{w:List Nat}{l:List (List Nat)}(hj:wix aH w=6)(hb:bx b=some (112,rdC (w::l) false))(how:oct w)(hbn:b<n)(hl:l.length≤100000)(ho:∀x∈l,oct x)(hw:∀x∈l,x.length≤1000000) :
  Gxz 55 [.ref b 0] ⟨e,bx,n,h⟩ ⟨e,upd bx b (some (112,rdC (its [] l.tail.tail (l.isEmpty||l.tail.isEmpty||oH (hdW l.tail))).2.1 (its [] l.tail.tail (l.isEmpty||l.tail.isEmpty||oH (hdW l.tail))).2.2)),n+10000000,h⟩
   (.agg (opI (hdW l) (itA (n+3) (its [] l.tail.tail (l.isEmpty||l.tail.isEmpty||oH (hdW l.tail))).1) (byX (hdW l.tail)))) :=
 GoodZ.fresh (x0:=(112,rdC (w::l) false)) (X:=(112,rdC (its [] l.tail.tail (l.isEmpty||l.tail.isEmpty||oH (hdW l.tail))).2.1 (its [] l.tail.tail (l.isEmpty||l.tail.isEmpty||oH (hdW l.tail))).2.2)) (aa6 n _ _) (fun e bx h hE hB hH hb=>aqf n b l hj how hbn hl ho hw e bx h hE hB hH hb) e bx h hb
end Go.Proofs.YtjiolbcdfgclaaaGreatDoor
section
namespace Go.Pg
open Go
theorem GoodZ.wkr{P:Program}[Tb P]{g:FuncId}{args:List V}{s s':St}{r r':V}(h:GoodZ P g args s s' r)(hw:wkV r r'):GoodZ P g args s s' r':=by
 intro C L a w cargs hT S hr
 rcases h C L a w cargs hT S hr with ⟨h1,h2⟩|⟨u,w',L',h1,h2,h3⟩
 ·exact .inl ⟨h1,h2.mono fun e w' ⟨u,L',he,hs,hr⟩=>⟨u,L',he,hs,Q5 hw hr⟩⟩
 ·exact .inr ⟨u,w',L',h1,h2,Q5 hw h3⟩
def Tag.lo(n:Nat):Tag→Bool
 | .own id _=>decide (id<n)
 | .fz=>false
 | .nn=>false
def Lay.frzN(L:Lay)(n:Nat):Lay:={ A:=fun g=>L.A g∨∃id,n≤id∧L.own id=some g,own:=fun id=>if id<n then L.own id else none,box:=L.box }
section
variable {P:Program} [Tb P] {C:Cx} {L:Lay} {a:Act} {w:World} {n n':Nat}
theorem GL{id g:Nat}(h:(L.frzN n).own id=some g):id<n∧L.own id=some g:=by
 unfold Lay.frzN at h
 simp only at h
 split at h
 ·exact⟨by assumption,h⟩
 ·cases h
theorem ajT{nid:Nat}(W:Wf C nid L w):Wf C nid (L.frzN n) w where
 nidO:=fun id g h=>W.nidO id g (GL h).2
 nidB:=W.nidB
 own:=fun id g h=>by
  obtain⟨h0,h⟩:=GL h
  obtain⟨h1,h2,h3⟩:=W.own id g h
  refine⟨h1,h2, ?_⟩
  rintro (h4|⟨id',h5,h6⟩)
  ·exact h3 h4
  ·have:=W.injO id id' g h h6;omega
 boxW:=fun b g h=>by
  obtain⟨h1,h2,h3⟩:=W.boxW b g h
  refine⟨h1,h2, ?_⟩
  rintro (h4|⟨id',h5,h6⟩)
  ·exact h3 h4
  ·exact W.dis id' b g h6 h
 injO:=fun i j g h h'=>W.injO i j g (GL h).2 (GL h').2
 injB:=W.injB
 dis:=fun i j g h h'=>W.dis i j g (GL h).2 h'
 old:=fun g h=>by
  rcases h with h|⟨id,_,h⟩
  ·exact W.old g h
  ·exact (W.own id g h).1
 frz:=fun g h=>by
  rcases h with h|⟨id,_,h⟩
  ·exact W.frz g h
  ·exact .inr (W.own id g h).2.1
theorem ajU:Trans (Tag.gf n) (fun b=>decide (n≤b)) id id L (L.frzN n) w w :=
 ⟨rfl,fun g h=>⟨.inl h,.of rfl⟩,fun i e hi g h=>⟨⟨rfl,by
  have:i<n:=by simpa [Tag.gf] using hi
  simp [Lay.frzN,this,h]⟩,rfl⟩,fun _ _ _ h=>h⟩
theorem Wi{v:V}{u:Value}(hv:Fr n v)(h:Rep L w v u):Rep (L.frzN n) w v u:=by
 have:=h.trans rfl (ajU (n:=n)) hv
 rwa [map_id.1] at this
theorem ajW:∀{l:List V} {us:List Value},(∀v∈l,Fr n v)→Reps L w l us→Reps (L.frzN n) w l us:=by
 intro l
 induction l with
 | nil=>intro us _ h;exact h
 | cons x xs ih =>
  rintro us hl ⟨u,r,rfl,h2,h3⟩
  exact⟨u,r,rfl,Wi (hl x (by simp)) h2,ih (fun v hv=>hl v (by simp [hv])) h3⟩
theorem Wy{e:Nat→V}{bx:Nat→Option (TypeId × List V)}{h:Nat→V}(hE:FrE n e)(hB:FrB n bx)(hH:FrE n h)(S:Sim C ⟨e,bx,n',h⟩ L a w):Sim C ⟨e,bx,n',h⟩ (L.frzN n) a w :=
 ⟨S.defers,S.size,fun t=>Wi (hE t) (S.env t),fun t=>Wi (hH t) (S.hid t),fun b cs hb=>by
  obtain⟨g,arr,h1,h2,h3⟩:=S.box b cs hb
  exact⟨g,arr,h1,h2,ajW (hB b cs hb) h3⟩,ajT S.wf,S.kp⟩
theorem WA{v:V}{u:Value}(hv:v.any (Tag.lo n) (fun _=>true) false=false)(h:Rep L w v u):Rep (L.frzN n) w v.erase u:=by
 have K:Trans (Tag.lo n) (fun _=>true) (fun _ => .fz) id L (L.frzN n) w w :=
  ⟨rfl,fun g h=>⟨.inl h,.of rfl⟩,fun i e hi g h=>⟨.inr ⟨i,by simpa [Tag.lo] using hi,h⟩,rfl⟩,fun b hb=>by simp at hb⟩
 exact h.trans rfl K hv
theorem GoodZ.erz{g:FuncId}{args:List V}{b:Nat}{X:TypeId × List V}{r:V}{e:Nat→V}{bx:Nat→Option (TypeId × List V)}{h:Nat→V}(hE:FrE n e)(hB:FrB n bx)(hH:FrE n h)(hX:∀v∈X.2,Fr n v)(hr:r.any (Tag.lo n) (fun _=>true) false=false)
  (H:GoodZ P g args ⟨e,bx,n,h⟩ ⟨e,upd bx b (some X),n',h⟩ r):GoodZ P g args ⟨e,bx,n,h⟩ ⟨e,upd bx b (some X),n',h⟩ r.erase:=by
 have hB':FrB n (upd bx b (some X)):=by
  intro k x hk v hv
  by_cases hkb:k=b
  ·subst hkb
   simp only[upd,if_true,Option.some.injEq] at hk
   subst hk
   exact hX v hv
  ·exact hB k x (by simpa [upd,if_neg hkb] using hk) v hv
 intro C L a w cargs hT S hra
 rcases H C L a w cargs hT S hra with ⟨h1,h2⟩|⟨u,w',L',h1,h2,h3⟩
 ·exact .inl ⟨h1,h2.mono fun _ w' ⟨u,L',he,hs,hr'⟩=>⟨u,L'.frzN n,he,Wy hE hB' hH hs,WA hr hr'⟩⟩
 ·exact .inr ⟨u,w',L'.frzN n,h1,Wy hE hB' hH h2,WA hr h3⟩
theorem GoodZ.frE{g:FuncId}{args:List V}{b:Nat}{x0 X:TypeId × List V}{r r':V}(hx0:∀v∈x0.2,Fr n v)(hX:∀v∈X.2,Fr n v)(hr:r.any (Tag.lo n) (fun _=>true) false=false)(hw:wkV r.erase r')
  (H:∀e bx h,bx b=some x0→GoodZ P g args ⟨e,bx,n,h⟩ ⟨e,upd bx b (some X),n',h⟩ r) (e:Nat→V) (bx:Nat→Option (TypeId × List V)) (h:Nat→V) (hb:bx b=some x0) :
  GoodZ P g args ⟨e,bx,n,h⟩ ⟨e,upd bx b (some X),n',h⟩ r' :=
 GoodZ.fresh hx0 (fun e bx h hE hB hH hb=>(GoodZ.erz hE hB hH hX hr (H e bx h hb)).wkr hw) e bx h hb
end
end Go.Pg
end
section
namespace Go.Proofs.YtjiolbcdfgclaaaGreatDoor
open Go Go.Pg
variable {e:Nat→V} {bx:Nat→Option (TypeId × List V)} {n:Nat} {h:Nat→V}
def mO(sd:List Nat→Nat):Nat→List (List Nat)→O
 | 1,l=>{ oZ 1 with name:=hdW l,pk:=(pK l.tail:Nat),pz:=pZ (pK l.tail) l.tail,pd:=pD (pK l.tail) l.tail,ps:=pSq sd (pK l.tail) l.tail }
 | 2,l=>{ oZ 2 with name:=hdW l }
 | 3,l=>{ oZ 3 with name:=hdW l,other:=hdW l.tail }
 | 4,l=>(oZ 4)
 | 5,l=>{ oZ 5 with name:=hdW l,qk:=(qK l.tail:Nat),qkey:=Ql (qK l.tail) l.tail,qc:=qC (qK l.tail) l.tail,qn:=qN (qK l.tail) l.tail,qd:=qD (qK l.tail) l.tail }
 | 6,l=>{ oZ 6 with name:=hdW l,items:=(its [] l.tail.tail (l.isEmpty||l.tail.isEmpty||oH (hdW l.tail))).1,coins:=byV (hdW l.tail) }
 | 7,l=>{ oZ 7 with name:=hdW l,other:=hdW l.tail,coins:=byV (hdW l.tail.tail) }
 | 8,l=>{ oZ 8 with name:=hdW l,other:=hdW l.tail,coins:=byV (hdW l.tail.tail),exp:=(aZ (hdW l.tail.tail.tail)).1,src:=(aZ (hdW l.tail.tail.tail.tail)).1 }
 | 9,l=>{ oZ 9 with names:=l }
 | 10,l=>{ oZ 10 with hnd:=(aZ (hdW l)).1,idx:=(aZ (hdW l.tail)).1,qk:=(qK l.tail.tail:Nat),qkey:=Ql (qK l.tail.tail) l.tail.tail,qc:=qC (qK l.tail.tail) l.tail.tail,qn:=qN (qK l.tail.tail) l.tail.tail,qd:=qD (qK l.tail.tail) l.tail.tail }
 | 11,l=>{ oZ 11 with hnd:=(aZ (hdW l)).1 }
 | 12,l=>{ oZ 12 with hnd:=(aZ (hdW l)).1,idx:=(aZ (hdW l.tail)).1 }
 | 13,l=>{ oZ 13 with cur:=(aZ (hdW l)).1,cnt:=(aZ (hdW l.tail)).1 }
 | 14,l=>{ oZ 14 with cur:=(aZ (hdW l)).1 }
 | 15,l=>{ oZ 15 with hnd:=(aZ (hdW l)).1,idx:=(aZ (hdW l.tail)).1 }
 | 16,l=>{ oZ 16 with name:=hdW l,data:=byV (hdW l.tail) }
 | 17,l=>(oZ 17)
 | _,_=>oZ 0
def mR:Nat→List (List Nat)→List (List Nat)
 | 1,l=>(pR (pK l.tail) l.tail)
 | 2,l=>l.tail
 | 3,l=>l.tail.tail
 | 4,l=>l
 | 5,l=>(qR (qK l.tail) l.tail)
 | 6,l=>(its [] l.tail.tail (l.isEmpty||l.tail.isEmpty||oH (hdW l.tail))).2.1
 | 7,l=>l.tail.tail.tail
 | 8,l=>l.tail.tail.tail.tail.tail
 | 9,_=>[]
 | 10,l=>(qR (qK l.tail.tail) l.tail.tail)
 | 11,l=>l.tail
 | 12,l=>l.tail.tail
 | 13,l=>l.tail.tail
 | 14,l=>l.tail
 | 15,l=>l.tail.tail
 | 16,l=>l.tail.tail
 | 17,l=>l
 | _,l=>l
def mB:Nat→List (List Nat)→Bool
 | 1,l=>(pBq (pK l.tail) l.tail l.isEmpty)
 | 2,l=>l.isEmpty
 | 3,l=>(l.isEmpty||l.tail.isEmpty)
 | 4,_=>false
 | 5,l=>(qB (qK l.tail) l.tail l.isEmpty)
 | 6,l=>(its [] l.tail.tail (l.isEmpty||l.tail.isEmpty||oH (hdW l.tail))).2.2
 | 7,l=>((l.isEmpty||l.tail.isEmpty)||l.tail.tail.isEmpty||oH (hdW l.tail.tail))
 | 8,l=>((((l.isEmpty||l.tail.isEmpty)||l.tail.tail.isEmpty||oH (hdW l.tail.tail))||iE l.tail.tail.tail)||iE l.tail.tail.tail.tail)
 | 9,_=>false
 | 10,l=>(qB (qK l.tail.tail) l.tail.tail (iE l||iE l.tail))
 | 11,l=>iE l
 | 12,l=>(iE l||iE l.tail)
 | 13,l=>(iE l||iE l.tail)
 | 14,l=>iE l
 | 15,l=>(iE l||iE l.tail)
 | 16,l=>(l.isEmpty||l.tail.isEmpty||oH (hdW l.tail))
 | 17,_=>false
 | _,_=>true
theorem aqA{k:Nat}{l:List (List Nat)}{bad:Bool}(h:pBq k l bad=false):pSq sdX k l=pSq sdP k l:=by
 unfold pSq
 split
 ·simp only[pBq,Bool.or_eq_false_iff,PZ] at h
  rw[aco _ h.2.2]
 ·simp only[pBq,Bool.or_eq_false_iff,PZ] at h
  rw[aco _ h.2.2]
 ·rfl
theorem aqB{k:Nat}{l:List (List Nat)}(h:mB k l=false):mO sdX k l=mO sdP k l:=by
 unfold mO
 split
 ·rw[aqA (bad:=l.isEmpty) h]
 all_goals rfl
theorem RZ(n:Nat)(w:List Nat):(byR (n+3) w).any (Tag.lo n) (fun _=>true) false=false:=by
 unfold byR
 split
 ·rfl
 ·simp only[V.any,Tag.lo,decide_eq_false_iff_not];omega
theorem SK(n:Nat)(w:List Nat):orN (byR n w).erase (fzb (byV w)):=by
 unfold byR
 split
 ·rename_i h;rw[h];exact aj _
 ·exact cu _
theorem S9(n:Nat)(w:List Nat):(byX w).any (Tag.lo n) (fun _=>true) false=false:=by
 unfold byX;split<;>rfl
theorem Tf(w:List Nat):orN (byX w).erase (fzb (byV w)):=by
 unfold byX
 split
 ·rename_i h;rw[h];exact aj _
 ·exact cu _
theorem acw{n m:Nat}(h:n≤m)(l:List (List Nat × Int)):(itA m l).any (Tag.lo n) (fun _=>true) false=false:=by
 unfold itA
 split
 ·rfl
 ·simp only[V.any,Tag.lo,decide_eq_false_iff_not];omega
theorem acx(n:Nat)(l:List (List Nat × Int)):orN (itA n l).erase (fzt l):=by
 unfold itA
 split
 ·rename_i h;rw[h];exact aj _
 ·exact cu _
theorem akb{n m:Nat}(h:n≤m)(t k:Nat)(l:List V):(V.sl (.own m t) k l).any (Tag.lo n) (fun _=>true) false=false:=by
 simp only[V.any,Tag.lo,decide_eq_false_iff_not];omega
theorem iP{g:FuncId}{n n' b:Nat}{T:TypeId}{W W':List (List Nat)}{bd bd':Bool}{o:O}{nm it co da:V}{args:List V}
  (H:∀(e:Nat→V) (bx:Nat→Option (TypeId × List V)) (h:Nat→V),bx b=some (T,rdC W bd)→Gxz g args ⟨e,bx,n,h⟩ ⟨e,upd bx b (some (T,rdC W' bd')),n',h⟩ (.agg (opC o nm it co da)))
  (ha:orN nm.erase (fzs o.names):=by exact aj _) (hb:orN it.erase (fzt o.items):=by exact aj _) (hc:orN co.erase (fzb o.coins):=by exact aj _) (hd:orN da.erase (fzb o.data):=by exact aj _)
  (h1:nm.any (Tag.lo n) (fun _=>true) false=false:=by exact rfl) (h2:it.any (Tag.lo n) (fun _=>true) false=false:=by exact rfl) (h3:co.any (Tag.lo n) (fun _=>true) false=false:=by exact rfl) (h4:da.any (Tag.lo n) (fun _=>true) false=false:=by exact rfl)
  (e:Nat→V) (bx:Nat→Option (TypeId × List V)) (h:Nat→V) (hbx:bx b=some (T,rdC W bd)):Gxz g args ⟨e,bx,n,h⟩ ⟨e,upd bx b (some (T,rdC W' bd')),n',h⟩ (.agg (opF o)) :=
 GoodZ.frE (r := .agg (opC o nm it co da)) (r' := .agg (opF o)) (aa6 n _ _) (aa6 n _ _) (by simp only[V.any,V.anyL,h1,h2,h3,h4,Bool.or_self]) (fF o ha hb hc hd) H e bx h hbx
theorem acy{g:FuncId}{n n' b:Nat}{T:TypeId}{args:List V}{bd:Bool}{r:V}{e:Nat→V}{bx:Nat→Option (TypeId × List V)}{h:Nat→V}{s:St}(H:Gxz g args s ⟨e,upd bx b (some (T,[nls,vb bd])),n',h⟩ r):Gxz g args s ⟨e,upd bx b (some (T,rdC [] bd)),n',h⟩ r:=by
 have key:∀{C:Cx} {L:Lay} {a:Act} {w:World},Sim C ⟨e,upd bx b (some (T,[nls,vb bd])),n',h⟩ L a w→Sim C ⟨e,upd bx b (some (T,rdC [] bd)),n',h⟩ L a w:=by
  intro C L a w S
  refine⟨S.defers,S.size,S.env,S.hid,fun k cs hk => ?_,S.wf,S.kp⟩
  by_cases hkb:k=b
  ·subst hkb
   simp only[upd,if_true,Option.some.injEq] at hk
   subst hk
   obtain⟨g,arr,h1,h2,h3⟩:=S.box k (T,[nls,vb bd]) (by simp [upd])
   refine⟨g,arr,h1,h2, ?_⟩
   obtain⟨u,us,hu,h4,h5⟩:=h3
   exact⟨u,us,hu,Q5 (.inl (by first|exact oq _ _|exact .inr (oq _ _))) h4,h5⟩
  ·exact S.box k cs (by simpa [upd,if_neg hkb] using hk)
 intro C L a w cargs hT S hr
 rcases H C L a w cargs hT S hr with ⟨h1,h2⟩|⟨u,w',L',h1,h2,h3⟩
 ·exact .inl ⟨h1,h2.mono fun _ w' ⟨u,L',he,hs,hr⟩=>⟨u,L',he,key hs,hr⟩⟩
 ·exact .inr ⟨u,w',L',h1,key h2,h3⟩
theorem aqh(b:Nat){e:Nat→V}{bx:Nat→Option (TypeId × List V)}{n:Nat}{h:Nat→V}{w:List Nat}{l:List (List Nat)}(hj:wix aH w=6)(hb:bx b=some (108,rdC (w::l) false))(how:oct w)(hbn:b<n)(hl:l.length≤100000)(ho:∀x∈l,oct x)(hw:∀x∈l,x.length≤1000000) :
  Gxz 54 [.ref b 0] ⟨e,bx,n,h⟩ ⟨e,upd bx b (some (108,rdC (its [] l.tail.tail (l.isEmpty||l.tail.isEmpty||oH (hdW l.tail))).2.1 (its [] l.tail.tail (l.isEmpty||l.tail.isEmpty||oH (hdW l.tail))).2.2)),n+10000000,h⟩ (.agg (opI (hdW l) (itA (n+1000007) (its [] l.tail.tail (l.isEmpty||l.tail.isEmpty||oH (hdW l.tail))).1) (byR (n+3) (hdW l.tail)))):=by
 have hwe:[105,110,115,101,114,116]=w:=Wp hj (by decide)
 subst hwe
 exact RX e bx n h b l hb hbn hl ho hw
theorem aq1(b:Nat){n:Nat}{w:List Nat}{l:List (List Nat)}(how:oct w)(hbn:b<n)(hl:l.length≤100000)(ho:∀x∈l,oct x)(hw:∀x∈l,x.length≤1000000)(e:Nat→V)(bx:Nat→Option (TypeId × List V))(h:Nat→V)(hb:bx b=some (108,rdC (w::l) false)) :
  Gxz 54 [.ref b 0] ⟨e,bx,n,h⟩ ⟨e,upd bx b (some (108,rdC (mR (wix aH w) l) (mB (wix aH w) l))),n+10000000,h⟩ (.agg (opF (mO sdP (wix aH w) l))):=by
 have hlt:=GK (L:=aH) w (by decide)
 have hlen:aH.length=18:=rfl
 have hw':∀x∈l,x.length≤1000000:=fun x hx=>by have:=hw x hx;omega
 generalize hj:wix aH w=k at *
 have hc:k=0∨k=1∨k=2∨k=3∨k=4∨k=5∨k=6∨k=7∨k=8∨k=9∨k=10∨k=11∨k=12∨k=13∨k=14∨k=15∨k=16∨k=17:=by omega
 rcases hc with rfl|rfl|rfl|rfl|rfl|rfl|rfl|rfl|rfl|rfl|rfl|rfl|rfl|rfl|rfl|rfl|rfl|rfl
 ·exact iP (o:=mO sdP 0 l) (fun e bx h hb=>apl b hj hb how hbn hl ho hw') (aj _) (aj _) (aj _) (aj _) rfl rfl rfl rfl e bx h hb
 ·exact iP (o:=mO sdP 1 l) (fun e bx h hb=>apm b hj hb how hbn hl ho hw') (aj _) (aj _) (aj _) (aj _) rfl rfl rfl rfl e bx h hb
 ·exact iP (o:=mO sdP 2 l) (fun e bx h hb=>apo b hj hb how hbn hl ho hw') (aj _) (aj _) (aj _) (aj _) rfl rfl rfl rfl e bx h hb
 ·exact iP (o:=mO sdP 3 l) (fun e bx h hb=>apq b hj hb how hbn hl ho hw') (aj _) (aj _) (aj _) (aj _) rfl rfl rfl rfl e bx h hb
 ·exact iP (o:=mO sdP 4 l) (fun e bx h hb=>apr b hj hb how hbn hl ho hw') (aj _) (aj _) (aj _) (aj _) rfl rfl rfl rfl e bx h hb
 ·exact iP (o:=mO sdP 5 l) (fun e bx h hb=>aps b hj hb how hbn hl ho hw') (aj _) (aj _) (aj _) (aj _) rfl rfl rfl rfl e bx h hb
 ·exact iP (o:=mO sdP 6 l) (fun e bx h hb=>aqh b hj hb how hbn hl ho hw) (aj _) (acx _ _) (SK _ _) (aj _) rfl (acw (by omega) _) (RZ _ _) rfl e bx h hb
 ·exact iP (o:=mO sdP 7 l) (fun e bx h hb=>apt b hj hb how hbn hl ho hw') (aj _) (aj _) (SK _ _) (aj _) rfl rfl (RZ _ _) rfl e bx h hb
 ·exact iP (o:=mO sdP 8 l) (fun e bx h hb=>apu b hj hb how hbn hl ho hw') (aj _) (aj _) (SK _ _) (aj _) rfl rfl (RZ _ _) rfl e bx h hb
 ·exact iP (o:=mO sdP 9 l) (fun e bx h hb=>acy (n:=n) (apv b hj hb how hbn hl ho hw')) (cu _) (aj _) (aj _) (aj _) (akb (by omega) _ _ _) rfl rfl rfl e bx h hb
 ·exact iP (o:=mO sdP 10 l) (fun e bx h hb=>agF b hj hb how hbn hl ho hw') (aj _) (aj _) (aj _) (aj _) rfl rfl rfl rfl e bx h hb
 ·exact iP (o:=mO sdP 11 l) (fun e bx h hb=>agC b hj hb how hbn hl ho hw') (aj _) (aj _) (aj _) (aj _) rfl rfl rfl rfl e bx h hb
 ·exact iP (o:=mO sdP 12 l) (fun e bx h hb=>agD b hj hb how hbn hl ho hw') (aj _) (aj _) (aj _) (aj _) rfl rfl rfl rfl e bx h hb
 ·exact iP (o:=mO sdP 13 l) (fun e bx h hb=>agG b hj hb how hbn hl ho hw') (aj _) (aj _) (aj _) (aj _) rfl rfl rfl rfl e bx h hb
 ·exact iP (o:=mO sdP 14 l) (fun e bx h hb=>agH b hj hb how hbn hl ho hw') (aj _) (aj _) (aj _) (aj _) rfl rfl rfl rfl e bx h hb
 ·exact iP (o:=mO sdP 15 l) (fun e bx h hb=>agE b hj hb how hbn hl ho hw') (aj _) (aj _) (aj _) (aj _) rfl rfl rfl rfl e bx h hb
 ·exact iP (o:=mO sdP 16 l) (fun e bx h hb=>agI b hj hb how hbn hl ho hw') (aj _) (aj _) (aj _) (SK _ _) rfl rfl rfl (RZ _ _) e bx h hb
 ·exact iP (o:=mO sdP 17 l) (fun e bx h hb=>agB b hj hb how hbn hl ho hw') (aj _) (aj _) (aj _) (aj _) rfl rfl rfl rfl e bx h hb
theorem aq2(b:Nat){n:Nat}{w:List Nat}{l:List (List Nat)}(how:oct w)(hbn:b<n)(hl:l.length≤100000)(ho:∀x∈l,oct x)(hw:∀x∈l,x.length≤1000000)(e:Nat→V)(bx:Nat→Option (TypeId × List V))(h:Nat→V)(hb:bx b=some (112,rdC (w::l) false)) :
  Gxz 55 [.ref b 0] ⟨e,bx,n,h⟩ ⟨e,upd bx b (some (112,rdC (mR (wix aH w) l) (mB (wix aH w) l))),n+10000000,h⟩ (.agg (opF (mO sdX (wix aH w) l))):=by
 have hlt:=GK (L:=aH) w (by decide)
 have hlen:aH.length=18:=rfl
 have hw':∀x∈l,x.length≤1000000:=fun x hx=>by have:=hw x hx;omega
 generalize hj:wix aH w=k at *
 have hc:k=0∨k=1∨k=2∨k=3∨k=4∨k=5∨k=6∨k=7∨k=8∨k=9∨k=10∨k=11∨k=12∨k=13∨k=14∨k=15∨k=16∨k=17:=by omega
 rcases hc with rfl|rfl|rfl|rfl|rfl|rfl|rfl|rfl|rfl|rfl|rfl|rfl|rfl|rfl|rfl|rfl|rfl|rfl
 ·exact iP (o:=mO sdX 0 l) (fun e bx h hb=>ap5 b hj hb how hbn hl ho hw') (aj _) (aj _) (aj _) (aj _) rfl rfl rfl rfl e bx h hb
 ·exact iP (o:=mO sdX 1 l) (fun e bx h hb=>ap6 b hj hb how hbn hl ho hw') (aj _) (aj _) (aj _) (aj _) rfl rfl rfl rfl e bx h hb
 ·exact iP (o:=mO sdX 2 l) (fun e bx h hb=>ap7 b hj hb how hbn hl ho hw') (aj _) (aj _) (aj _) (aj _) rfl rfl rfl rfl e bx h hb
 ·exact iP (o:=mO sdX 3 l) (fun e bx h hb=>ap8 b hj hb how hbn hl ho hw') (aj _) (aj _) (aj _) (aj _) rfl rfl rfl rfl e bx h hb
 ·exact iP (o:=mO sdX 4 l) (fun e bx h hb=>ap9 b hj hb how hbn hl ho hw') (aj _) (aj _) (aj _) (aj _) rfl rfl rfl rfl e bx h hb
 ·exact iP (o:=mO sdX 5 l) (fun e bx h hb=>aqa b hj hb how hbn hl ho hw') (aj _) (aj _) (aj _) (aj _) rfl rfl rfl rfl e bx h hb
 ·exact iP (o:=mO sdX 6 l) (fun e bx h hb=>aqg b hj hb how hbn hl ho hw') (aj _) (acx _ _) (Tf _) (aj _) rfl (acw (by omega) _) (S9 _ _) rfl e bx h hb
 ·exact iP (o:=mO sdX 7 l) (fun e bx h hb=>aqb b hj hb how hbn hl ho hw') (aj _) (aj _) (Tf _) (aj _) rfl rfl (S9 _ _) rfl e bx h hb
 ·exact iP (o:=mO sdX 8 l) (fun e bx h hb=>aqc b hj hb how hbn hl ho hw') (aj _) (aj _) (Tf _) (aj _) rfl rfl (S9 _ _) rfl e bx h hb
 ·exact iP (o:=mO sdX 9 l) (fun e bx h hb=>acy (n:=n) (aqd b hj hb how hbn hl ho hw')) (cu _) (aj _) (aj _) (aj _) (akb (by omega) _ _ _) rfl rfl rfl e bx h hb
 ·exact iP (o:=mO sdX 10 l) (fun e bx h hb=>ajH b hj hb how hbn hl ho hw') (aj _) (aj _) (aj _) (aj _) rfl rfl rfl rfl e bx h hb
 ·exact iP (o:=mO sdX 11 l) (fun e bx h hb=>ajp b hj hb how hbn hl ho hw') (aj _) (aj _) (aj _) (aj _) rfl rfl rfl rfl e bx h hb
 ·exact iP (o:=mO sdX 12 l) (fun e bx h hb=>ajF b hj hb how hbn hl ho hw') (aj _) (aj _) (aj _) (aj _) rfl rfl rfl rfl e bx h hb
 ·exact iP (o:=mO sdX 13 l) (fun e bx h hb=>ajI b hj hb how hbn hl ho hw') (aj _) (aj _) (aj _) (aj _) rfl rfl rfl rfl e bx h hb
 ·exact iP (o:=mO sdX 14 l) (fun e bx h hb=>ajJ b hj hb how hbn hl ho hw') (aj _) (aj _) (aj _) (aj _) rfl rfl rfl rfl e bx h hb
 ·exact iP (o:=mO sdX 15 l) (fun e bx h hb=>ajG b hj hb how hbn hl ho hw') (aj _) (aj _) (aj _) (aj _) rfl rfl rfl rfl e bx h hb
 ·exact iP (o:=mO sdX 16 l) (fun e bx h hb=>ajK b hj hb how hbn hl ho hw') (aj _) (aj _) (aj _) (Tf _) rfl rfl rfl (S9 _ _) e bx h hb
 ·exact iP (o:=mO sdX 17 l) (fun e bx h hb=>ajo b hj hb how hbn hl ho hw') (aj _) (aj _) (aj _) (aj _) rfl rfl rfl rfl e bx h hb
end Go.Proofs.YtjiolbcdfgclaaaGreatDoor
end
namespace Go.Proofs.YtjiolbcdfgclaaaGreatDoor
open Go Go.Pg
theorem Vr{w:List Nat}(ho:oct w):oct (pk w).1:=by
 unfold pk
 (repeat' split)<;>first|exact ho|exact dV|exact afd _ _
theorem Gy{l:List (List Nat)}(ho:∀x∈l,oct x):∀x∈l.tail,oct x:=fun x hx=>ho x (List.mem_of_mem_tail hx)
theorem ajY:∀(n:Nat) (l:List (List Nat)) (acc:List (List Nat × Int)) (bad:Bool),l.length≤n→(∀x∈l,oct x)→(∀x∈acc,oct x.1)→∀x∈(its acc l bad).1,oct x.1:=by
 intro n
 induction n with
 | zero =>
  intro l acc bad hl ho ha
  have:l=[]:=List.eq_nil_of_length_eq_zero (by omega)
  subst this
  cases bad
  ·rw[ahf];exact ha
  ·rw[ahe];exact ha
 | succ n ih =>
  intro l acc bad hl ho ha
  cases bad
  ·cases l with
   | nil=>rw[ahf];exact ha
   | cons k r =>
    rw[ahg]
    refine ih _ _ _ (by simp only[List.length_tail,List.length_cons] at hl ⊢;omega) (fun x hx=>ho x (by simp [List.mem_of_mem_tail hx])) ?_
    intro x hx
    rcases List.mem_append.1 hx with h|h
    ·exact ha x h
    ·simp only[List.mem_singleton] at h
     subst h
     exact Vr (ho k (by simp))
  ·rw[ahe];exact ha
theorem VS{k:Nat}{l:List (List Nat)}(ho:∀x∈l,oct x):oct (Ql k l):=by
 unfold Ql
 split
 ·exact Vr (vZ (Gy ho))
 ·exact Vr (vZ (Gy ho))
 ·exact dV
theorem aqi(k:Int):(oZ k).Oct:=⟨dV,dV,fun _ h=>(by cases h),fun _ h=>(by cases h),dV,dV,dV⟩
theorem acB{sd:List Nat→Nat}{k:Nat}{l:List (List Nat)}(ho:∀x∈l,oct x):(mO sd k l).Oct:=by
 have h1:=vZ ho
 have h2:=vZ (Gy ho)
 have hn:∀x∈([]:List (List Nat)),oct x:=fun _ h=>by cases h
 have hi:∀x∈([]:List (List Nat × Int)),oct x.1:=fun _ h=>by cases h
 unfold mO
 split
 all_goals first|exact aqi _|exact⟨h1,dV,hn,hi,dV,dV,dV⟩|exact⟨h1,h2,hn,hi,dV,dV,dV⟩|exact⟨h1,h2,hn,hi,P7 _,dV,dV⟩|exact⟨h1,dV,hn,hi,dV,dV,P7 _⟩|exact⟨h1,dV,hn,hi,dV,VS (Gy ho),dV⟩|exact⟨dV,dV,hn,hi,dV,VS (Gy (Gy ho)),dV⟩|exact⟨h1,dV,hn,ajY _ _ [] _ (Nat.le_refl _) (Gy (Gy ho)) hi,P7 _,dV,dV⟩|exact⟨dV,dV,ho,hi,dV,dV,dV⟩|exact⟨dV,dV,hn,hi,dV,dV,dV⟩
theorem aj1:∀(n:Nat) (l:List (List Nat)) (acc:List (List Nat × Int)) (bad:Bool),l.length≤n→(its acc l bad).1.length≤acc.length+l.length:=by
 intro n
 induction n with
 | zero =>
  intro l acc bad hl
  have:l=[]:=List.eq_nil_of_length_eq_zero (by omega)
  subst this
  cases bad
  ·rw[ahf];simp
  ·rw[ahe];simp
 | succ n ih =>
  intro l acc bad hl
  cases bad
  ·cases l with
   | nil=>rw[ahf];simp
   | cons k r =>
    rw[ahg]
    have:=ih r.tail (acc++[((pk k).1,(aZ (hdW r)).1)]) (qW (k::r)||iE r) (by simp only[List.length_tail,List.length_cons] at hl ⊢;omega)
    simp only[List.length_append,List.length_cons,List.length_nil,List.length_tail] at this ⊢
    omega
  ·rw[ahe];simp
theorem acC{sd:List Nat→Nat}{k:Nat}{l:List (List Nat)}:(mO sd k l).names.length≤l.length∧(mO sd k l).items.length≤l.length:=by
 have h:=aj1 _ l.tail.tail [] (l.isEmpty||l.tail.isEmpty||oH (hdW l.tail)) (Nat.le_refl _)
 simp only[List.length_nil,List.length_tail] at h
 unfold mO
 split
 all_goals first|exact⟨Nat.zero_le _,Nat.zero_le _⟩|exact⟨Nat.zero_le _,by show (its _ _ _).1.length≤_;omega⟩|exact⟨Nat.le_refl _,Nat.zero_le _⟩
def pE(W:List (List Nat)):Int:=if (mB (wix aH (hdW W)) W.tail || !(mR (wix aH (hdW W)) W.tail).isEmpty)=true then 1 else vop (mO sdP (wix aH (hdW W)) W.tail)
def pOq(W:List (List Nat)):O:=if pE W=0 then mO sdP (wix aH (hdW W)) W.tail else oZ 0
theorem aqC(b:Nat){e:Nat→V}{bx:Nat→Option (TypeId × List V)}{n:Nat}{h:Nat→V}(hb:bx b=some (108,rdC [] false))(hbn:b<n):Gxz 54 [.ref b 0] ⟨e,bx,n,h⟩ ⟨e,upd bx b (some (108,rdC [] true)),n+10000000,h⟩ (.agg (oC (oZ 0))):=by
 have ho:∀x∈([]:List (List Nat)),oct x:=fun _ h=>by cases h
 exact gG Tryz.func54 Tryz.results54 rfl (by refine wP (fg hb hbn) aN ?_;refine cZ (fV0 aH b (l:=[]) (by decide)) ?_;exact zEz (fg hb hbn) trivial)
theorem aqD(b:Nat){e:Nat→V}{bx:Nat→Option (TypeId × List V)}{n:Nat}{h:Nat→V}(hb:bx b=some (112,rdC [] false))(hbn:b<n):Gxz 55 [.ref b 0] ⟨e,bx,n,h⟩ ⟨e,upd bx b (some (112,rdC [] true)),n+10000000,h⟩ (.agg (oC (oZ 0))):=by
 have ho:∀x∈([]:List (List Nat)),oct x:=fun _ h=>by cases h
 have hj:wix aH (hdW [])=0:=by decide
 exact gG Tryz.func55 Tryz.results55 rfl (by exact xEz (aI (tO (vZ ho) hj) (fgX hb hbn)) trivial)
theorem pW{W r:List (List Nat)}{t:Bool}{o:O}(hop:∀{e:Nat→V} {bx:Nat→Option (TypeId × List V)} {n:Nat} {h:Nat→V},bx 1=some (108,rdC W false)→1<n→Gxz 54 [.ref 1 0] ⟨e,bx,n,h⟩ ⟨e,upd bx 1 (some (108,rdC r t)),n+10000000,h⟩ (.agg (opF o)))
  (hV:Gxx 38 [.agg (opF o)] (vi (vop o))) (E:Int) (hE:E=if (t || !r.isEmpty)=true then 1 else vop o):Gxx 15 [fzs W] (.tup [.agg (opF (if E=0 then o else oZ 0)),vi E]):=by
 have hz:wkA [.agg (oC (oZ 0)),vi E] [.agg (opF (oZ 0)),vi E]:=⟨fF (oZ 0) (aj _) (aj _) (aj _) (aj _),aA _,trivial⟩
 cases t with
 | true =>
  have:E=1:=by rw[hE];rfl
  subst this
  rw[if_neg (by decide)]
  refine Good.wkt ?_ hz
  refine gI oW Tryz.func15 Tryz.results15 ?_
  (repeat' first|refine wP @ai trivial ?_|refine cU hV ?_|refine cZ (hop rfl (by omega)) ?_|refine tS ?_ ?_<;>intro hc|fail)
  all_goals exact rE []
 | false =>
  cases r with
  | cons x r =>
   have:E=1:=by rw[hE];rfl
   subst this
   have hx:=au (x::r)
   have hx1:((x::r).length:Int)=(r.length:Int)+1:=by simp
   rw[if_neg (by decide)]
   refine Good.wkt ?_ hz
   refine gI oW Tryz.func15 Tryz.results15 ?_
   (repeat' first|refine wP (aI @ai (aI @hx @hx1)) trivial ?_|refine cU hV ?_|refine cZ (hop rfl (by omega)) ?_|refine tS ?_ ?_<;>intro hc|fail)
   all_goals exact rE []
  | nil =>
   have:E=vop o:=by rw[hE];rfl
   subst this
   have hx:=au []
   by_cases hv:vop o=0
   ·rw[if_pos hv]
    rw[hv] at hV ⊢
    refine gI oW Tryz.func15 Tryz.results15 ?_
    (repeat' first|refine wP (aI @ai @hx) trivial ?_|refine cU hV ?_|refine cZ (hop rfl (by omega)) ?_|refine tS ?_ ?_<;>intro hc|fail)
    all_goals exact rE []
   ·rw[if_neg hv]
    refine Good.wkt ?_ hz
    generalize vop o=v at *
    refine gI oW Tryz.func15 Tryz.results15 ?_
    (repeat' first|refine wP (aI @ai @hx) trivial ?_|refine cU hV ?_|refine cZ (hop rfl (by omega)) ?_|refine tS ?_ ?_<;>intro hc|fail)
    all_goals exact rE []
theorem xW{W r:List (List Nat)}{t:Bool}{o:O}(hop:∀{e:Nat→V} {bx:Nat→Option (TypeId × List V)} {n:Nat} {h:Nat→V},bx 1=some (112,rdC W false)→1<n→Gxz 55 [.ref 1 0] ⟨e,bx,n,h⟩ ⟨e,upd bx 1 (some (112,rdC r t)),n+10000000,h⟩ (.agg (opF o)))
  (hV:Gxx 47 [.agg (opF o)] (vi (vop o))) (E:Int) (hE:E=if (t || !r.isEmpty)=true then 1 else vop o):Gxx 18 [fzs W] (.tup [.agg (opF (if E=0 then o else oZ 0)),vi E]):=by
 have hz:wkA [.agg (oC (oZ 0)),vi E] [.agg (opF (oZ 0)),vi E]:=⟨fF (oZ 0) (aj _) (aj _) (aj _) (aj _),aA _,trivial⟩
 cases t with
 | true =>
  have:E=1:=by rw[hE];rfl
  subst this
  rw[if_neg (by decide)]
  refine Good.wkt ?_ hz
  refine gI oW Tryz.func18 Tryz.results18 ?_
  (repeat' first|refine wP @ai trivial ?_|refine cU hV ?_|refine cZ (hop rfl (by omega)) ?_|refine tS ?_ ?_<;>intro hc|fail)
  all_goals exact rE []
 | false =>
  cases r with
  | cons x r =>
   have:E=1:=by rw[hE];rfl
   subst this
   have hx:=au (x::r)
   have hx1:((x::r).length:Int)=(r.length:Int)+1:=by simp
   rw[if_neg (by decide)]
   refine Good.wkt ?_ hz
   refine gI oW Tryz.func18 Tryz.results18 ?_
   (repeat' first|refine wP (aI @ai (aI @hx @hx1)) trivial ?_|refine cU hV ?_|refine cZ (hop rfl (by omega)) ?_|refine tS ?_ ?_<;>intro hc|fail)
   all_goals exact rE []
  | nil =>
   have:E=vop o:=by rw[hE];rfl
   subst this
   have hx:=au []
   by_cases hv:vop o=0
   ·rw[if_pos hv]
    rw[hv] at hV ⊢
    refine gI oW Tryz.func18 Tryz.results18 ?_
    (repeat' first|refine wP (aI @ai @hx) trivial ?_|refine cU hV ?_|refine cZ (hop rfl (by omega)) ?_|refine tS ?_ ?_<;>intro hc|fail)
    all_goals exact rE []
   ·rw[if_neg hv]
    refine Good.wkt ?_ hz
    generalize vop o=v at *
    refine gI oW Tryz.func18 Tryz.results18 ?_
    (repeat' first|refine wP (aI @ai @hx) trivial ?_|refine cU hV ?_|refine cZ (hop rfl (by omega)) ?_|refine tS ?_ ?_<;>intro hc|fail)
    all_goals exact rE []
theorem aqE(W:List (List Nat))(hl:W.length≤100000)(ho:∀x∈W,oct x)(hw:∀x∈W,x.length≤1000000):Gxx 15 [fzs W] (.tup [.agg (opF (pOq W)),vi (pE W)]):=by
 unfold pOq
 refine pW (r:=mR (wix aH (hdW W)) W.tail) (t:=mB (wix aH (hdW W)) W.tail) ?_ (dH _ (acB (Gy ho))) (pE W) rfl
 intro e bx n h hb hn
 cases W with
 | nil=>exact iP (n':=n+10000000) (fun e bx h hb=>aqC 1 hb hn) (aj _) (aj _) (aj _) (aj _) rfl rfl rfl rfl e bx h hb
 | cons w l=>exact aq1 1 (ho w (by simp)) hn (by simp only[List.length_cons] at hl;show l.length≤_;omega) (fun x hx=>ho x (List.mem_cons_of_mem _ hx)) (fun x hx=>hw x (List.mem_cons_of_mem _ hx)) e bx h hb
theorem aqF(W:List (List Nat))(hl:W.length≤100000)(ho:∀x∈W,oct x)(hw:∀x∈W,x.length≤1000000):Gxx 18 [fzs W] (.tup [.agg (opF (pOq W)),vi (pE W)]):=by
 have hml:=acC (sd:=sdX) (k:=wix aH (hdW W)) (l:=W.tail)
 have hq:W.tail.length≤100000:=by simp only[List.length_tail];omega
 have hV:=cO (mO sdX (wix aH (hdW W)) W.tail) (acB (Gy ho)) (by omega) (by omega)
 have h:=xW (W:=W) (r:=mR (wix aH (hdW W)) W.tail) (t:=mB (wix aH (hdW W)) W.tail) (o:=mO sdX (wix aH (hdW W)) W.tail) ?_ hV _ rfl
 ·cases hb:mB (wix aH (hdW W)) W.tail
  ·have he:=aqB hb
   rw[hb,he] at h
   have h2:pE W=if (false || !(mR (wix aH (hdW W)) W.tail).isEmpty)=true then 1 else vop (mO sdP (wix aH (hdW W)) W.tail):=by unfold pE;rw[hb]
   unfold pOq
   rw[h2]
   exact h
  ·rw[hb] at h
   have h2:pE W=1:=by unfold pE;rw[hb];rfl
   unfold pOq
   rw[h2]
   exact h
 ·intro e bx n h hb hn
  cases W with
  | nil=>exact iP (n':=n+10000000) (fun e bx h hb=>aqD 1 hb hn) (aj _) (aj _) (aj _) (aj _) rfl rfl rfl rfl e bx h hb
  | cons w l=>exact aq2 1 (ho w (by simp)) hn (by simp only[List.length_cons] at hl;show l.length≤_;omega) (fun x hx=>ho x (List.mem_cons_of_mem _ hx)) (fun x hx=>hw x (List.mem_cons_of_mem _ hx)) e bx h hb
end Go.Proofs.YtjiolbcdfgclaaaGreatDoor
