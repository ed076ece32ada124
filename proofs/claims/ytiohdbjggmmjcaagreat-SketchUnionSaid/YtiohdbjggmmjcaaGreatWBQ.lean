/-
  Merged texts.
-/
import Derived.Test.YtiohdbjggmmjcaaGreatWAY
import Derived.Test.YtiohdbjggmmjcaaGreatWBE
import Derived.Test.YtiohdbjggmmjcaaGreatWAW
import Derived.Test.YtiohdbjggmmjcaaGreatWBD
import Derived.Test.YtiohdbjggmmjcaaGreatWAN
import Derived.Test.YtiohdbjggmmjcaaGreatWAR
set_option linter.unusedVariables false
set_option linter.unusedSimpArgs false
set_option linter.unusedSectionVars false
set_option linter.defProp false
set_option maxRecDepth 100000
set_option maxHeartbeats 8000000
section
namespace Go.Proofs.YtiohdbjggmmjcaaGreat
open Go Go.Pg
def mF(v u:List (List (List Nat))):Nat→List (List (List Nat))
 | 0=>v
 | i+1=>Ci (mF v u i) i (u.getD i [])
def O4(x y:Rk)(co:List Nat)(at':Int):Stl:=jh (mF x.v y.v y.v.length) x.z (aO x.l y.l).1 co at' 100
def qE(x y:Rk)(co:List Nat)(at':Int):Rk × Int × Int :=
 if vRk x≠0 then (Rk.o,0,vRk x) else if vRk y≠0 then (Rk.o,0,vRk y) else if x.z≠y.z then (Rk.o,0,10) else if ¬(0≤at'∧at'≤1073741824) then (Rk.o,0,5)
 else if (aO x.t y.t).2=true then (⟨x.z,x.t,x.l,x.v,true⟩,at',0)
 else (⟨x.z,(aO x.t y.t).1,(O4 x y co at').2.2.1,jb (O4 x y co at').2.2.2.2.length (O4 x y co at').2.2.2.2,x.b||y.b⟩,(O4 x y co at').2.2.2.1,0)
theorem Zp(v:List (List (List Nat)))(p:Nat)(ks:List (List Nat)):(Ci v p ks).length=max v.length (p+1):=by
 unfold Ci;rw[List.length_set,xW]
theorem GY(v u:List (List (List Nat)))(N:Nat)(hv:v.length≤N):∀i,i≤N→(mF v u i).length≤N
 | 0,_=>hv
 | i+1,h=>by
  show (Ci _ _ _).length≤N
  rw[Zp]
  have:=GY v u N hv i (by omega)
  omega
theorem abT(v u:List (List (List Nat)))(hv:∀j,(v.getD j []).length≤31)(hu:∀j,(u.getD j []).length≤31):∀i j,((mF v u i).getD j []).length≤31+if j<i then 31 else 0
 | 0,j=>by
  show (v.getD j []).length≤_
  rw[if_neg (by omega)];exact hv j
 | i+1,j=>by
  have ih:=abT v u hv hu i
  show ((Ci (mF v u i) i (u.getD i [])).getD j []).length≤_
  unfold Ci
  rw[yg _ _ _ _ (by rw[xW];omega)]
  split
  ·rename_i h
   subst h
   rw[if_pos (by omega),List.length_append]
   have h1:=ih j
   rw[if_neg (by omega)] at h1
   have:=hu j
   omega
  ·rename_i h
   rw[xX]
   have h1:=ih j
   split at h1
   ·rw[if_pos (by omega)];exact h1
   ·split<;>omega
def B2(z t lo:Int)(v:List (List (List Nat)))(b:Bool)(z2 t2 l2:Int)(v2:List (List (List Nat)))(b2:Bool):Bxx :=
 upd (upd (upd (fun _=>none) 0 (some (tRk,[vi z,vi t,vi lo,fzl v,vb b]))) 1 (some (tRk,[vi z2,vi t2,vi l2,fzl v2,vb b2]))) 2 (some (tRk,[y0,y0,y0,yn,yf]))
theorem agx(z t lo:Int)(v:List (List (List Nat)))(b:Bool)(z2 t2 l2:Int)(v2:List (List (List Nat)))(b2:Bool):FrB 3 (B2 z t lo v b z2 t2 l2 v2 b2):=by
 refine FrB.upd (FrB.upd (FrB.upd (Zc 3) _ _ ?_) _ _ ?_) _ _ ?_
 all_goals
  intro x hx
  simp only[List.mem_cons,List.not_mem_nil,or_false] at hx
 ·rcases hx with rfl|rfl|rfl|rfl|rfl<;>rfl
 ·rcases hx with rfl|rfl|rfl|rfl|rfl<;>rfl
 ·rcases hx with rfl|rfl|rfl|rfl|rfl<;>rfl
theorem aiS{β:Type}(f:Nat→β)(c:Nat)(x y:β):upd (upd f c x) c y=upd f c y:=by
 funext t
 simp only[upd]
 split<;>rfl
section
attribute [local instance 2000] nestI
theorem ade(x y:Rk)(co:List Nat)(at':Int)(hco:oct co)(hv:∀l∈x.v,octL l)(hn:x.v.length≤1000000)(hn2:∀l∈x.v,l.length≤1000000)(hvy:∀l∈y.v,octL l)(hny:y.v.length≤1000000)(hny2:∀l∈y.v,l.length≤1000000) :
  Pg.Good Tryz.prog 53 [.agg (rkF x),.agg (rkF y),fzb co,vi at'] (.tup [.agg (rkF (qE x y co at').1),vi (qE x y co at').2.1,vi (qE x y co at').2.2]):=by
 have h1:=CE (ac3 x hv hn hn2)
 have h2:=CE (ac3 y hvy hny hny2)
 have h3:=CE (TR at')
 unfold qE
 by_cases c1:vRk x=0
 ·rw[if_neg (by omega)]
  rw[c1] at h1
  by_cases c2:vRk y=0
  ·rw[if_neg (by omega)]
   rw[c2] at h2
   by_cases c5:x.z=y.z
   ·rw[if_neg (fun h=>h c5)]
    by_cases c3:0≤at'∧at'≤1073741824
    ·rw[if_neg (fun h=>h c3)]
     rw[decide_eq_true c3] at h3
     obtain⟨i1,i2,i3,i4,i5⟩:=Na c1
     obtain⟨j1,j2,j3,j4,j5⟩:=Na c2
     obtain⟨z,t,lo,v,b⟩:=x
     obtain⟨z2,t2,l2,v2,b2⟩:=y
     simp only at *
     subst c5
     have hle:=abT v v2 i5 j5
     have hlen:=GY v v2 41 (by omega)
     have k6:=CE (BV lo l2 1099511627776 (by decide) (by unfold W64;omega) (by unfold W64;omega))
     cases b
     ·refine aK (eu [11,21,23] mix) Tryz.func53 rfl Tryz.results53 rfl (by kernel_rfl) (Nat.le_of_ble_eq_true (by kernel_rfl)) ?_
      (repeat' (first|(simp (disch:=first|exact dqz|fail) only[pgz,simprocAttr,iT,pgE,pgj,pgv,dB,iC])|(refine tC ?_;first|refine cU h1 ?_|refine cU h2 ?_|refine cU h3 ?_)|(refine tE ?_ ?_<;>intro hc)|refine xK ?_|fail))
      have hl31:∀i,(v.getD i []).length≤1000:=fun i=>by have:=i5 i;omega
      have hfe:FrE 3 (iP [(2,fzb co),(3,vi at'),(4,.ref 0 0),(5,.ref 1 0),(8,.ref 2 0),(37,.agg [vi z,vi t,vi lo,fzl v,.c (.bool false)])]):=by
       refine oJ ?_
       intro x hx
       simp only[List.mem_cons,List.not_mem_nil,or_false] at hx
       rcases hx with rfl|rfl|rfl|rfl|rfl|rfl<;>rfl
      refine sN ⟨iP [(2,fzb co),(3,vi at'),(4,.ref 0 0),(5,.ref 1 0),(8,.ref 2 0),(37,.agg [vi z,vi t,vi lo,fzl v,.c (.bool false)])],B2 z t lo v false z t2 l2 v2 b2,3,fun _ => .top⟩ ?_ rfl (Yz 3 _ z t lo false v (by omega) hl31 _ _ hfe (uU 3) (agx z t lo v false z t2 l2 v2 b2)) rfl ?_
      ·refine gK (gp ?_) (fun c => .inl rfl) (Nat.le_refl _)
       ((try simp only[bu,jm,cO,cu,pgo,simprocAttr,and_true,true_and]);try (repeat' (first|exact trivial|rfl|apply aI)))
      rintro s' r ⟨Lb,cs,n1,q1,q2,q3,rfl,rfl⟩
      have hB0:cpB 3 (B2 z t lo v false z t2 l2 v2 b2) Lb v.length cs 0=some (tRk,[vi z,vi t,vi lo,fzl v,.c (.bool false)]):=by simp [cpB,B2,upd,show ¬0=Lb by omega]
      have hB1:cpB 3 (B2 z t lo v false z t2 l2 v2 b2) Lb v.length cs 1=some (tRk,[vi z,vi t2,vi l2,fzl v2,.c (.bool b2)]):=by simp [cpB,B2,upd,show ¬1=Lb by omega]
      have hB2:cpB 3 (B2 z t lo v false z t2 l2 v2 b2) Lb v.length cs 2=some (tRk,[y0,y0,y0,yn,yf]):=by simp [cpB,B2,upd,show ¬2=Lb by omega]
      (repeat' (first|(simp (disch:=first|exact dqz|fail) only[pgz,simprocAttr,iT,pgE,pgj,pgv,dB,iC,hB0,hB1,hB2])|(refine tE ?_ ?_<;>intro hc)|(with_reducible refine cK ?_)))
      have hLb:Lb≠2:=by omega
      have hR1:RkAt 3 n1 (upd (cpB 3 (B2 z t lo v false z t2 l2 v2 b2) Lb v.length cs) 2 (some (tRk,[vi z,vi t,vi lo,.bs Lb tLs 0 1 v.length,.c (.bool false)]))) 2 Lb z t lo false v cs:=by
       refine⟨if_pos rfl, ?_,q3,by omega,q1,q2,fun c x' k1 k2 hx => ?_⟩
       ·have e1:upd (cpB 3 (B2 z t lo v false z t2 l2 v2 b2) Lb v.length cs) 2 (some (tRk,[vi z,vi t,vi lo,.bs Lb tLs 0 1 v.length,.c (.bool false)])) Lb=if v.length=0 then none else some (tLs,cs):=by
         rw[upd,if_neg hLb];exact if_pos rfl
        rw[e1]
        by_cases hv0:v.length=0
        ·left
         have hvn:=List.eq_nil_of_length_eq_zero hv0
         exact⟨hvn,List.eq_nil_of_length_eq_zero (by rw[q3.len];exact hv0),if_pos hv0⟩
        ·right;exact if_neg hv0
       ·rw[upd,if_neg k1] at hx
        simp only[cpB,if_neg k2] at hx
        split at hx
        ·rename_i hc3;exact⟨hc3,agx z t lo v false z t2 l2 v2 b2 c x' hx⟩
        ·cases hx
      have hfe2:FrE 3 (iP [(2,fzb co),(3,vi at'),(4,.ref 0 0),(5,.ref 1 0),(8,.ref 2 0)]):=by
       refine oJ ?_
       intro x hx
       simp only[List.mem_cons,List.not_mem_nil,or_false] at hx
       rcases hx with rfl|rfl|rfl|rfl|rfl<;>rfl
      by_cases c4:(aO t t2).2=true
      ·rw[if_pos c4]
       refine Yh ((gK (gp (X:=[(2,fzb co),(3,vi at'),(4,.ref 0 0),(5,.ref 1 0),(8,.ref 2 0)]) ?_) (fun c => .inl rfl) (Nat.le_refl _)).trans (YR hR1 hfe2 (uU 3))) ?_
       ·exact eE
       have hgt:(t+t2 > 1099511627776)=True:=eq_true (acH (by omega) (by omega) c4)
       have hO0:∀B,Gp 3 B 2 z t lo false v 0=B 0:=fun B=>rfl
       have hO1:∀B,Gp 3 B 2 z t lo false v 1=B 1:=fun B=>rfl
       have hO2:∀B,Gp 3 B 2 z t lo false v 2=some (tRk,[vi z,vi t,vi lo,fzl v,.c (.bool false)]):=fun B=>rfl
       (repeat' (first|(simp (disch:=first|exact dqz|fail) only[pgz,simprocAttr,iT,pgE,pgj,pgv,dB,iC,hO0,hO1,hO2,hB0,hB1,hgt])|(refine tE ?_ ?_<;>intro hc)|refine xK ?_|fail))
       (refine rT [] ?_;first|rfl|simp only[pgo,simprocAttr]|skip)
      ·rw[if_neg c4]
       have hgt:(t+t2 > 1099511627776)=False:=eq_false (Pz (by omega) (by omega) c4)
       have hil:=fD v2
       refine bH ?_
       (repeat' (first|(simp (disch:=first|exact dqz|fail) only[pgz,simprocAttr,iT,pgE,pgj,pgv,dB,iC,hB0,hB1,hgt,hil])|(refine tC ?_;refine cU k6 ?_)|(refine tE ?_ ?_<;>intro hc)|refine xK ?_|fail))
       have hav:(aO t t2).1=t+t2:=by rw[CQ (by omega) (by omega),if_neg (Pz (by omega) (by omega) c4)]
       have hset:jh (mF v v2 v2.length) z (aO lo l2).1 co at' 100=O4 ⟨z,t,lo,v,false⟩ ⟨z,t2,l2,v2,b2⟩ co at':=rfl
       rw[hav,←hset]
       have hR2:RkAt 3 n1 (upd (cpB 3 (B2 z t lo v false z t2 l2 v2 b2) Lb v.length cs) 2 (some (tRk,[vi z,vi (t+t2),vi (aO lo l2).1,.bs Lb tLs 0 1 v.length,.c (.bool b2)]))) 2 Lb z (t+t2) (aO lo l2).1 b2 v cs:=by
        have:=hR1.upd2 (z':=z) (t':=t+t2) (l':=(aO lo l2).1) (sat':=b2)
        rwa [aiS] at this
       have hsum:=pR lo l2
       refine sO (ι:=Nat × (Bxx) × Nat × List V) (fun i=>⟨iP [(2,fzb co),(3,vi at'),(8,.ref 2 0),(71,fzl v2),(72,vi v2.length),(73,vi i.1)],i.2.1,i.2.2.1,fun _ => .top⟩) (fun i=>RkAt 3 i.2.2.1 i.2.1 2 Lb z (t+t2) (aO lo l2).1 b2 (mF v v2 i.1) i.2.2.2∧i.1≤v2.length) (fun i=>v2.length-i.1) (0,upd (cpB 3 (B2 z t lo v false z t2 l2 v2 b2) Lb v.length cs) 2 (some (tRk,[vi z,vi (t+t2),vi (aO lo l2).1,.bs Lb tLs 0 1 v.length,.c (.bool b2)])),n1,cs) ?_ ⟨hR2,Nat.zero_le _⟩ ?_
       ·refine gK (gp ?_) (fun c => .inl (by show upd _ 2 _ c=_;simp only[upd];split<;>rfl)) (by show _≤n1;omega)
        ((try simp only[bu,jm,cO,cu,pgo,simprocAttr,and_true,true_and]);try (repeat' (first|exact trivial|rfl|apply aI)))
       ·rintro⟨i,bx1,n2,cs1⟩ ⟨H1,hi⟩
        simp only at H1 hi
        have hb:=H1.hb
        have hcl:=hlen i (by omega)
        have hcl2:=hle i
        rcases Nat.lt_or_ge i v2.length with hlt|hge
        ·have hg:=nG v2 i hlt
         have hj5:=j5 i
         have hlt2:((i:Int)<(v2.length:Int))=True:=eq_true (by omega)
         (repeat' (first|(simp (disch:=first|exact dqz|fail) only[pgz,simprocAttr,iT,pgE,pgj,pgv,dB,iC,hlt2,hg,hil])|(refine tE ?_ ?_<;>intro hc)|(with_reducible refine cK ?_)))
         have hfe3:FrE 3 (iP [(2,fzb co),(3,vi at'),(8,.ref 2 0),(71,fzl v2),(72,vi v2.length),(73,vi i),(78,vi i),(79,fzs (v2.getD i []))]):=by
          refine oJ ?_
          intro x hx
          simp only[List.mem_cons,List.not_mem_nil,or_false] at hx
          rcases hx with rfl|rfl|rfl|rfl|rfl|rfl|rfl|rfl<;>rfl
         refine sN ⟨iP [(2,fzb co),(3,vi at'),(8,.ref 2 0),(71,fzl v2),(72,vi v2.length),(73,vi i),(78,vi i),(79,fzs (v2.getD i []))],bx1,n2,fun _ => .top⟩ ?_ rfl (Yx H1 i (by omega) (v2.getD i []) (by omega) (by omega) (fun j=>by have:=hcl2 j;split at this<;>omega) _ _ hfe3 (uU 3)) rfl ?_
         ·refine gK (gp ?_) (fun c => .inl rfl) (Nat.le_refl _)
          ((try simp only[bu,jm,cO,cu,pgo,simprocAttr,and_true,true_and]);try (repeat' (first|exact trivial|rfl|apply aI)))
         ·rintro s' r ⟨rfl,n3,cs2,k1,k2,rfl⟩
          have hnx:Ci (mF v v2 i) i (v2.getD i [])=mF v v2 (i+1):=rfl
          rw[hnx] at k2 ⊢
          (repeat' (first|(simp (disch:=first|exact dqz|fail) only[pgz,simprocAttr,iT,pgE,pgj,pgv,dB,iC])|(refine tE ?_ ?_<;>intro hc)|refine xK ?_|fail))
          refine lY (i+1,rkB 3 bx1 2 Lb z (t+t2) (aO lo l2).1 b2 (mF v v2 (i+1)) cs2,n3,cs2) ⟨Cf (z':=z) (t':=t+t2) (l':=(aO lo l2).1) (sat':=b2) H1 k1 k2,by show i+1≤v2.length;omega⟩ (by show v2.length-(i+1)<v2.length-i;omega) (gK (gp ?_) (fun c => .inl rfl) (Nat.le_refl _))
          ((try simp only[bu,jm,cO,cu,pgo,simprocAttr,and_true,true_and]);try (repeat' (first|exact trivial|rfl|apply aI)))
        ·have hie:i=v2.length:=by omega
         subst hie
         have hlt2:((v2.length:Int)<(v2.length:Int))=False:=eq_false (by omega)
         (repeat' (first|(simp (disch:=first|exact dqz|fail) only[pgz,simprocAttr,iT,pgE,pgj,pgv,dB,iC,hlt2,hil])|(refine tE ?_ ?_<;>intro hc)|(with_reducible refine cK ?_)))
         have hfe3:FrE 3 (iP [(8,.ref 2 0),(82,fzb co),(83,vi at')]):=by
          refine oJ ?_
          intro x hx
          simp only[List.mem_cons,List.not_mem_nil,or_false] at hx
          rcases hx with rfl|rfl|rfl<;>rfl
         refine sN ⟨iP [(8,.ref 2 0),(82,fzb co),(83,vi at')],bx1,n2,fun _ => .top⟩ ?_ rfl (YL H1 co at' 100 (by omega) hco (fun j=>by have:=hcl2 j;split at this<;>omega) (by omega) (by omega) (JL lo l2) c3 _ _ hfe3 (uU 3)) rfl ?_
         ·refine gK (gp ?_) (fun c => .inl rfl) (Nat.le_refl _)
          ((try simp only[bu,jm,cO,cu,pgo,simprocAttr,and_true,true_and]);try (repeat' (first|exact trivial|rfl|apply aI)))
         ·rintro s' r ⟨rfl,n3,cs2,bx2,k1,H3,k3,rfl⟩
          generalize jh (mF v v2 v2.length) z (aO lo l2).1 co at' 100=R at *
          (repeat' (first|(simp (disch:=first|exact dqz|fail) only[pgz,simprocAttr,iT,pgE,pgj,pgv,dB,iC])|(refine tE ?_ ?_<;>intro hc)|(with_reducible refine cK ?_)))
          have hfe4:FrE 3 (iP [(8,.ref 2 0),(9,vi R.2.2.2.1)]):=by
           refine oJ ?_
           intro x hx
           simp only[List.mem_cons,List.not_mem_nil,or_false] at hx
           rcases hx with rfl|rfl<;>rfl
          refine Yh ((gK (gp (X:=[(8,.ref 2 0),(9,vi R.2.2.2.1)]) ?_) (fun c => .inl rfl) (Nat.le_refl _)).trans (YR H3 hfe4 (uU 3))) ?_
          ·exact eE
          have hO2:∀l' v',Gp 3 bx2 2 z (t+t2) l' b2 v' 2=some (tRk,[vi z,vi (t+t2),vi l',fzl v',.c (.bool b2)]):=fun _ _=>rfl
          (repeat' (first|(simp (disch:=first|exact dqz|fail) only[pgz,simprocAttr,iT,pgE,pgj,pgv,dB,iC,hO2])|(refine tE ?_ ?_<;>intro hc)|refine xK ?_|fail))
          (refine rT [] ?_;first|rfl|simp only[pgo,simprocAttr]|skip)
     ·refine aK (eu [11,21,23] mix) Tryz.func53 rfl Tryz.results53 rfl (by kernel_rfl) (Nat.le_of_ble_eq_true (by kernel_rfl)) ?_
      (repeat' (first|(simp (disch:=first|exact dqz|fail) only[pgz,simprocAttr,iT,pgE,pgj,pgv,dB,iC])|(refine tC ?_;first|refine cU h1 ?_|refine cU h2 ?_|refine cU h3 ?_)|(refine tE ?_ ?_<;>intro hc)|refine xK ?_|fail))
      have hl31:∀i,(v.getD i []).length≤1000:=fun i=>by have:=i5 i;omega
      have hfe:FrE 3 (iP [(2,fzb co),(3,vi at'),(4,.ref 0 0),(5,.ref 1 0),(8,.ref 2 0),(37,.agg [vi z,vi t,vi lo,fzl v,.c (.bool true)])]):=by
       refine oJ ?_
       intro x hx
       simp only[List.mem_cons,List.not_mem_nil,or_false] at hx
       rcases hx with rfl|rfl|rfl|rfl|rfl|rfl<;>rfl
      refine sN ⟨iP [(2,fzb co),(3,vi at'),(4,.ref 0 0),(5,.ref 1 0),(8,.ref 2 0),(37,.agg [vi z,vi t,vi lo,fzl v,.c (.bool true)])],B2 z t lo v true z t2 l2 v2 b2,3,fun _ => .top⟩ ?_ rfl (Yz 3 _ z t lo true v (by omega) hl31 _ _ hfe (uU 3) (agx z t lo v true z t2 l2 v2 b2)) rfl ?_
      ·refine gK (gp ?_) (fun c => .inl rfl) (Nat.le_refl _)
       ((try simp only[bu,jm,cO,cu,pgo,simprocAttr,and_true,true_and]);try (repeat' (first|exact trivial|rfl|apply aI)))
      rintro s' r ⟨Lb,cs,n1,q1,q2,q3,rfl,rfl⟩
      have hB0:cpB 3 (B2 z t lo v true z t2 l2 v2 b2) Lb v.length cs 0=some (tRk,[vi z,vi t,vi lo,fzl v,.c (.bool true)]):=by simp [cpB,B2,upd,show ¬0=Lb by omega]
      have hB1:cpB 3 (B2 z t lo v true z t2 l2 v2 b2) Lb v.length cs 1=some (tRk,[vi z,vi t2,vi l2,fzl v2,.c (.bool b2)]):=by simp [cpB,B2,upd,show ¬1=Lb by omega]
      have hB2:cpB 3 (B2 z t lo v true z t2 l2 v2 b2) Lb v.length cs 2=some (tRk,[y0,y0,y0,yn,yf]):=by simp [cpB,B2,upd,show ¬2=Lb by omega]
      (repeat' (first|(simp (disch:=first|exact dqz|fail) only[pgz,simprocAttr,iT,pgE,pgj,pgv,dB,iC,hB0,hB1,hB2])|(refine tE ?_ ?_<;>intro hc)|(with_reducible refine cK ?_)))
      have hLb:Lb≠2:=by omega
      have hR1:RkAt 3 n1 (upd (cpB 3 (B2 z t lo v true z t2 l2 v2 b2) Lb v.length cs) 2 (some (tRk,[vi z,vi t,vi lo,.bs Lb tLs 0 1 v.length,.c (.bool true)]))) 2 Lb z t lo true v cs:=by
       refine⟨if_pos rfl, ?_,q3,by omega,q1,q2,fun c x' k1 k2 hx => ?_⟩
       ·have e1:upd (cpB 3 (B2 z t lo v true z t2 l2 v2 b2) Lb v.length cs) 2 (some (tRk,[vi z,vi t,vi lo,.bs Lb tLs 0 1 v.length,.c (.bool true)])) Lb=if v.length=0 then none else some (tLs,cs):=by
         rw[upd,if_neg hLb];exact if_pos rfl
        rw[e1]
        by_cases hv0:v.length=0
        ·left
         have hvn:=List.eq_nil_of_length_eq_zero hv0
         exact⟨hvn,List.eq_nil_of_length_eq_zero (by rw[q3.len];exact hv0),if_pos hv0⟩
        ·right;exact if_neg hv0
       ·rw[upd,if_neg k1] at hx
        simp only[cpB,if_neg k2] at hx
        split at hx
        ·rename_i hc3;exact⟨hc3,agx z t lo v true z t2 l2 v2 b2 c x' hx⟩
        ·cases hx
      have hfe2:FrE 3 (iP [(2,fzb co),(3,vi at'),(4,.ref 0 0),(5,.ref 1 0),(8,.ref 2 0)]):=by
       refine oJ ?_
       intro x hx
       simp only[List.mem_cons,List.not_mem_nil,or_false] at hx
       rcases hx with rfl|rfl|rfl|rfl|rfl<;>rfl
      by_cases c4:(aO t t2).2=true
      ·rw[if_pos c4]
       refine Yh ((gK (gp (X:=[(2,fzb co),(3,vi at'),(4,.ref 0 0),(5,.ref 1 0),(8,.ref 2 0)]) ?_) (fun c => .inl rfl) (Nat.le_refl _)).trans (YR hR1 hfe2 (uU 3))) ?_
       ·exact eE
       have hgt:(t+t2 > 1099511627776)=True:=eq_true (acH (by omega) (by omega) c4)
       have hO0:∀B,Gp 3 B 2 z t lo true v 0=B 0:=fun B=>rfl
       have hO1:∀B,Gp 3 B 2 z t lo true v 1=B 1:=fun B=>rfl
       have hO2:∀B,Gp 3 B 2 z t lo true v 2=some (tRk,[vi z,vi t,vi lo,fzl v,.c (.bool true)]):=fun B=>rfl
       (repeat' (first|(simp (disch:=first|exact dqz|fail) only[pgz,simprocAttr,iT,pgE,pgj,pgv,dB,iC,hO0,hO1,hO2,hB0,hB1,hgt])|(refine tE ?_ ?_<;>intro hc)|refine xK ?_|fail))
       (refine rT [] ?_;first|rfl|simp only[pgo,simprocAttr]|skip)
      ·rw[if_neg c4]
       have hgt:(t+t2 > 1099511627776)=False:=eq_false (Pz (by omega) (by omega) c4)
       have hil:=fD v2
       refine bH ?_
       (repeat' (first|(simp (disch:=first|exact dqz|fail) only[pgz,simprocAttr,iT,pgE,pgj,pgv,dB,iC,hB0,hB1,hgt,hil])|(refine tC ?_;refine cU k6 ?_)|(refine tE ?_ ?_<;>intro hc)|refine xK ?_|fail))
       have hav:(aO t t2).1=t+t2:=by rw[CQ (by omega) (by omega),if_neg (Pz (by omega) (by omega) c4)]
       have hset:jh (mF v v2 v2.length) z (aO lo l2).1 co at' 100=O4 ⟨z,t,lo,v,true⟩ ⟨z,t2,l2,v2,b2⟩ co at':=rfl
       rw[hav,←hset]
       have hR2:RkAt 3 n1 (upd (cpB 3 (B2 z t lo v true z t2 l2 v2 b2) Lb v.length cs) 2 (some (tRk,[vi z,vi (t+t2),vi (aO lo l2).1,.bs Lb tLs 0 1 v.length,.c (.bool true)]))) 2 Lb z (t+t2) (aO lo l2).1 true v cs:=by
        have:=hR1.upd2 (z':=z) (t':=t+t2) (l':=(aO lo l2).1) (sat':=true)
        rwa [aiS] at this
       have hsum:=pR lo l2
       refine sO (ι:=Nat × (Bxx) × Nat × List V) (fun i=>⟨iP [(2,fzb co),(3,vi at'),(8,.ref 2 0),(71,fzl v2),(72,vi v2.length),(73,vi i.1)],i.2.1,i.2.2.1,fun _ => .top⟩) (fun i=>RkAt 3 i.2.2.1 i.2.1 2 Lb z (t+t2) (aO lo l2).1 true (mF v v2 i.1) i.2.2.2∧i.1≤v2.length) (fun i=>v2.length-i.1) (0,upd (cpB 3 (B2 z t lo v true z t2 l2 v2 b2) Lb v.length cs) 2 (some (tRk,[vi z,vi (t+t2),vi (aO lo l2).1,.bs Lb tLs 0 1 v.length,.c (.bool true)])),n1,cs) ?_ ⟨hR2,Nat.zero_le _⟩ ?_
       ·refine gK (gp ?_) (fun c => .inl (by show upd _ 2 _ c=_;simp only[upd];split<;>rfl)) (by show _≤n1;omega)
        ((try simp only[bu,jm,cO,cu,pgo,simprocAttr,and_true,true_and]);try (repeat' (first|exact trivial|rfl|apply aI)))
       ·rintro⟨i,bx1,n2,cs1⟩ ⟨H1,hi⟩
        simp only at H1 hi
        have hb:=H1.hb
        have hcl:=hlen i (by omega)
        have hcl2:=hle i
        rcases Nat.lt_or_ge i v2.length with hlt|hge
        ·have hg:=nG v2 i hlt
         have hj5:=j5 i
         have hlt2:((i:Int)<(v2.length:Int))=True:=eq_true (by omega)
         (repeat' (first|(simp (disch:=first|exact dqz|fail) only[pgz,simprocAttr,iT,pgE,pgj,pgv,dB,iC,hlt2,hg,hil])|(refine tE ?_ ?_<;>intro hc)|(with_reducible refine cK ?_)))
         have hfe3:FrE 3 (iP [(2,fzb co),(3,vi at'),(8,.ref 2 0),(71,fzl v2),(72,vi v2.length),(73,vi i),(78,vi i),(79,fzs (v2.getD i []))]):=by
          refine oJ ?_
          intro x hx
          simp only[List.mem_cons,List.not_mem_nil,or_false] at hx
          rcases hx with rfl|rfl|rfl|rfl|rfl|rfl|rfl|rfl<;>rfl
         refine sN ⟨iP [(2,fzb co),(3,vi at'),(8,.ref 2 0),(71,fzl v2),(72,vi v2.length),(73,vi i),(78,vi i),(79,fzs (v2.getD i []))],bx1,n2,fun _ => .top⟩ ?_ rfl (Yx H1 i (by omega) (v2.getD i []) (by omega) (by omega) (fun j=>by have:=hcl2 j;split at this<;>omega) _ _ hfe3 (uU 3)) rfl ?_
         ·refine gK (gp ?_) (fun c => .inl rfl) (Nat.le_refl _)
          ((try simp only[bu,jm,cO,cu,pgo,simprocAttr,and_true,true_and]);try (repeat' (first|exact trivial|rfl|apply aI)))
         ·rintro s' r ⟨rfl,n3,cs2,k1,k2,rfl⟩
          have hnx:Ci (mF v v2 i) i (v2.getD i [])=mF v v2 (i+1):=rfl
          rw[hnx] at k2 ⊢
          (repeat' (first|(simp (disch:=first|exact dqz|fail) only[pgz,simprocAttr,iT,pgE,pgj,pgv,dB,iC])|(refine tE ?_ ?_<;>intro hc)|refine xK ?_|fail))
          refine lY (i+1,rkB 3 bx1 2 Lb z (t+t2) (aO lo l2).1 true (mF v v2 (i+1)) cs2,n3,cs2) ⟨Cf (z':=z) (t':=t+t2) (l':=(aO lo l2).1) (sat':=true) H1 k1 k2,by show i+1≤v2.length;omega⟩ (by show v2.length-(i+1)<v2.length-i;omega) (gK (gp ?_) (fun c => .inl rfl) (Nat.le_refl _))
          ((try simp only[bu,jm,cO,cu,pgo,simprocAttr,and_true,true_and]);try (repeat' (first|exact trivial|rfl|apply aI)))
        ·have hie:i=v2.length:=by omega
         subst hie
         have hlt2:((v2.length:Int)<(v2.length:Int))=False:=eq_false (by omega)
         (repeat' (first|(simp (disch:=first|exact dqz|fail) only[pgz,simprocAttr,iT,pgE,pgj,pgv,dB,iC,hlt2,hil])|(refine tE ?_ ?_<;>intro hc)|(with_reducible refine cK ?_)))
         have hfe3:FrE 3 (iP [(8,.ref 2 0),(82,fzb co),(83,vi at')]):=by
          refine oJ ?_
          intro x hx
          simp only[List.mem_cons,List.not_mem_nil,or_false] at hx
          rcases hx with rfl|rfl|rfl<;>rfl
         refine sN ⟨iP [(8,.ref 2 0),(82,fzb co),(83,vi at')],bx1,n2,fun _ => .top⟩ ?_ rfl (YL H1 co at' 100 (by omega) hco (fun j=>by have:=hcl2 j;split at this<;>omega) (by omega) (by omega) (JL lo l2) c3 _ _ hfe3 (uU 3)) rfl ?_
         ·refine gK (gp ?_) (fun c => .inl rfl) (Nat.le_refl _)
          ((try simp only[bu,jm,cO,cu,pgo,simprocAttr,and_true,true_and]);try (repeat' (first|exact trivial|rfl|apply aI)))
         ·rintro s' r ⟨rfl,n3,cs2,bx2,k1,H3,k3,rfl⟩
          generalize jh (mF v v2 v2.length) z (aO lo l2).1 co at' 100=R at *
          (repeat' (first|(simp (disch:=first|exact dqz|fail) only[pgz,simprocAttr,iT,pgE,pgj,pgv,dB,iC])|(refine tE ?_ ?_<;>intro hc)|(with_reducible refine cK ?_)))
          have hfe4:FrE 3 (iP [(8,.ref 2 0),(9,vi R.2.2.2.1)]):=by
           refine oJ ?_
           intro x hx
           simp only[List.mem_cons,List.not_mem_nil,or_false] at hx
           rcases hx with rfl|rfl<;>rfl
          refine Yh ((gK (gp (X:=[(8,.ref 2 0),(9,vi R.2.2.2.1)]) ?_) (fun c => .inl rfl) (Nat.le_refl _)).trans (YR H3 hfe4 (uU 3))) ?_
          ·exact eE
          have hO2:∀l' v',Gp 3 bx2 2 z (t+t2) l' true v' 2=some (tRk,[vi z,vi (t+t2),vi l',fzl v',.c (.bool true)]):=fun _ _=>rfl
          (repeat' (first|(simp (disch:=first|exact dqz|fail) only[pgz,simprocAttr,iT,pgE,pgj,pgv,dB,iC,hO2])|(refine tE ?_ ?_<;>intro hc)|refine xK ?_|fail))
          (refine rT [] ?_;first|rfl|simp only[pgo,simprocAttr]|skip)
    ·rw[if_pos c3]
     rw[decide_eq_false c3] at h3
     refine Good.fzt (vs:=[.agg [vi 0,vi 0,vi 0,nls,vb false],vi 0,vi 5]) ?_ rfl ⟨xZ,aH _,aH _,trivial⟩
     obtain⟨z,t,lo,v,b⟩:=x
     obtain⟨z2,t2,l2,v2,b2⟩:=y
     have c5:z=z2:=c5
     subst c5
     refine aK (eu [11,21,23] mix) Tryz.func53 rfl Tryz.results53 rfl (by kernel_rfl) (Nat.le_of_ble_eq_true (by kernel_rfl)) ?_
     (repeat' (first|(simp (disch:=first|exact dqz|fail) only[pgz,simprocAttr,iT,pgE,pgj,pgv,dB,iC])|(refine tC ?_;first|refine cU h1 ?_|refine cU h2 ?_|refine cU h3 ?_)|(refine tE ?_ ?_<;>intro hc)|refine xK ?_|fail))
     (refine rT [] ?_;first|rfl|simp only[pgo,simprocAttr]|skip)
   ·rw[if_pos c5]
    refine Good.fzt (vs:=[.agg [vi 0,vi 0,vi 0,nls,vb false],vi 0,vi 10]) ?_ rfl ⟨xZ,aH _,aH _,trivial⟩
    obtain⟨z,t,lo,v,b⟩:=x
    obtain⟨z2,t2,l2,v2,b2⟩:=y
    have c5':(z=z2)=False:=eq_false c5
    refine aK (eu [11,21,23] mix) Tryz.func53 rfl Tryz.results53 rfl (by kernel_rfl) (Nat.le_of_ble_eq_true (by kernel_rfl)) ?_
    (repeat' (first|(simp (disch:=first|exact dqz|fail) only[pgz,simprocAttr,iT,pgE,pgj,pgv,dB,iC,c5'])|(refine tC ?_;first|refine cU h1 ?_|refine cU h2 ?_|refine cU h3 ?_)|(refine tE ?_ ?_<;>intro hc)|refine xK ?_|fail))
    (refine rT [] ?_;first|rfl|simp only[pgo,simprocAttr]|skip)
  ·rw[if_pos c2]
   refine Good.fzt (vs:=[.agg [vi 0,vi 0,vi 0,nls,vb false],vi 0,vi (vRk y)]) ?_ rfl ⟨xZ,aH _,aH _,trivial⟩
   obtain⟨z,t,lo,v,b⟩:=x
   obtain⟨z2,t2,l2,v2,b2⟩:=y
   have c2':(vRk ⟨z2,t2,l2,v2,b2⟩=0)=False:=eq_false c2
   refine aK (eu [11,21,23] mix) Tryz.func53 rfl Tryz.results53 rfl (by kernel_rfl) (Nat.le_of_ble_eq_true (by kernel_rfl)) ?_
   (repeat' (first|(simp (disch:=first|exact dqz|fail) only[pgz,simprocAttr,iT,pgE,pgj,pgv,dB,iC,c2'])|(refine tC ?_;first|refine cU h1 ?_|refine cU h2 ?_|refine cU h3 ?_)|(refine tE ?_ ?_<;>intro hc)|refine xK ?_|fail))
   (refine rT [] ?_;first|rfl|simp only[pgo,simprocAttr]|skip)
 ·rw[if_pos c1]
  refine Good.fzt (vs:=[.agg [vi 0,vi 0,vi 0,nls,vb false],vi 0,vi (vRk x)]) ?_ rfl ⟨xZ,aH _,aH _,trivial⟩
  obtain⟨z,t,lo,v,b⟩:=x
  obtain⟨z2,t2,l2,v2,b2⟩:=y
  have c1':(vRk ⟨z,t,lo,v,b⟩=0)=False:=eq_false c1
  refine aK (eu [11,21,23] mix) Tryz.func53 rfl Tryz.results53 rfl (by kernel_rfl) (Nat.le_of_ble_eq_true (by kernel_rfl)) ?_
  (repeat' (first|(simp (disch:=first|exact dqz|fail) only[pgz,simprocAttr,iT,pgE,pgj,pgv,dB,iC,c1'])|(refine tC ?_;first|refine cU h1 ?_|refine cU h2 ?_|refine cU h3 ?_)|(refine tE ?_ ?_<;>intro hc)|refine xK ?_|fail))
  (refine rT [] ?_;first|rfl|simp only[pgo,simprocAttr]|skip)
end
theorem ahQ(x y:Rk)(co:List Nat)(at':Int)(hco:oct co)(hv:∀l∈x.v,octL l)(hn:x.v.length≤1000000)(hn2:∀l∈x.v,l.length≤1000000)(hvy:∀l∈y.v,octL l)(hny:y.v.length≤1000000)(hny2:∀l∈y.v,l.length≤1000000) :
  Pg.Good Tryz.prog 53 [.agg (rkF x),.agg (rkF y),fzb co,vi at'] (.tup [.agg (rkF (qE x y co at').1),vi (qE x y co at').2.1,vi (qE x y co at').2.2]):=ade x y co at' hco hv hn hn2 hvy hny hny2
end Go.Proofs.YtiohdbjggmmjcaaGreat
end
namespace Go.Proofs.YtiohdbjggmmjcaaGreat
open Go Go.Pg
theorem GI(v u:List (List (List Nat)))(j:Nat):∀i,(mF v u i).getD j []=v.getD j []++(if j<i then u.getD j [] else [])
 | 0=>by
  show v.getD j []=_
  rw[if_neg (by omega),List.append_nil]
 | i+1=>by
  have ih:=GI v u j i
  show (Ci (mF v u i) i (u.getD i [])).getD j []=_
  unfold Ci
  rw[yg _ _ _ _ (by rw[xW];omega)]
  split
  ·rename_i h
   subst h
   rw[if_neg (by omega),List.append_nil] at ih
   rw[ih,if_pos (by omega)]
  ·rename_i h
   rw[xX,ih]
   split
   ·rw[if_pos (by omega)]
   ·rw[if_neg (by omega)]
def uk(n:Nat):Nat:=if n=0 then 0 else Nat.log2 n+1
theorem ajF:uk 0=0:=rfl
theorem ajS{n k:Nat}(h1:2^k≤n)(h2:n<2^(k+1)):uk n=k+1:=by
 have hn:n≠0:=by have:=Nat.two_pow_pos k;omega
 unfold uk
 rw[if_neg hn,(Nat.log2_eq_iff hn).2 ⟨h1,h2⟩]
theorem ai9{n k:Nat}(h:n<2^k):uk n≤k:=by
 unfold uk
 split
 ·exact Nat.zero_le _
 ·rename_i hn
  have:=(Nat.log2_lt hn).2 h
  omega
theorem akX(n:Nat)(h:n≠0):∃k,uk n=k+1∧2^k≤n∧n<2^(k+1):=by
 refine⟨Nat.log2 n,by unfold uk;rw[if_neg h], ?_⟩
 exact (Nat.log2_eq_iff h).1 rfl
theorem wY(n k:Nat)(h:2^k≤n):uk n=uk (n / 2^k)+k:=by
 have hp:=Nat.two_pow_pos k
 have hq:n / 2^k≠0:=by have:=Nat.div_pos h hp;omega
 obtain⟨m,h1,h2,h3⟩:=akX _ hq
 rw[h1,show m+1+k=(m+k)+1 by omega]
 apply ajS
 ·rw[Nat.pow_add];exact (Nat.le_div_iff_mul_le hp).1 h2
 ·rw[show m+k+1=(m+1)+k by omega,Nat.pow_add];exact (Nat.div_lt_iff_lt_mul hp).1 h3
theorem akx(n k:Nat)(h:n≠0):uk (n*2^k)=uk n+k:=by
 have hp:=Nat.two_pow_pos k
 have:2^k≤n*2^k:=Nat.le_mul_of_pos_left _ (by omega)
 rw[wY _ k this,Nat.mul_div_cancel _ hp]
def alI:List Nat:=[0,1,2,2,3,3,3,3,4,4,4,4,4,4,4,4,5,5,5,5,5,5,5,5,5,5,5,5,5,5,5,5,6,6,6,6,6,6,6,6,6,6,6,6,6,6,6,6,6,6,6,6,6,6,6,6,6,6,6,6,6,6,6,6,7,7,7,7,7,7,7,7,7,7,7,7,7,7,7,7,7,7,7,7,7,7,7,7,7,7,7,7,7,7,7,7,7,7,7,7,7,7,7,7,7,7,7,7,7,7,7,7,7,7,7,7,7,7,7,7,7,7,7,7,7,7,7,7,8,8,8,8,8,8,8,8,8,8,8,8,8,8,8,8,8,8,8,8,8,8,8,8,8,8,8,8,8,8,8,8,8,8,8,8,8,8,8,8,8,8,8,8,8,8,8,8,8,8,8,8,8,8,8,8,8,8,8,8,8,8,8,8,8,8,8,8,8,8,8,8,8,8,8,8,8,8,8,8,8,8,8,8,8,8,8,8,8,8,8,8,8,8,8,8,8,8,8,8,8,8,8,8,8,8,8,8,8,8,8,8,8,8,8,8,8,8,8,8,8,8,8,8,8,8,8,8]
theorem alJ:gy Tryz.prog 9=true:=by kernel_rfl
theorem akY:∀i:Fin 256,(sB alI).data.toList.getD i.1 0=UInt8.ofNat (uk i.1):=by decide +kernel
theorem TQ:∀i:Fin 256,uk i.1≤8:=by decide +kernel
theorem Jw(n:Nat)(hn:n<256):ixV Tryz.prog 9 (.c (.string { data:=((([0,1,2,2,3,3,3,3,4,4,4,4,4,4,4,4,5,5,5,5,5,5,5,5,5,5,5,5,5,5,5,5,6,6,6,6,6,6,6,6,6,6,6,6,6,6,6,6,6,6,6,6,6,6,6,6,6,6,6,6,6,6,6,6].append [7,7,7,7,7,7,7,7,7,7,7,7,7,7,7,7,7,7,7,7,7,7,7,7,7,7,7,7,7,7,7,7,7,7,7,7,7,7,7,7,7,7,7,7,7,7,7,7,7,7,7,7,7,7,7,7,7,7,7,7,7,7,7,7]).append ([8,8,8,8,8,8,8,8,8,8,8,8,8,8,8,8,8,8,8,8,8,8,8,8,8,8,8,8,8,8,8,8,8,8,8,8,8,8,8,8,8,8,8,8,8,8,8,8,8,8,8,8,8,8,8,8,8,8,8,8,8,8,8,8].append [8,8,8,8,8,8,8,8,8,8,8,8,8,8,8,8,8,8,8,8,8,8,8,8,8,8,8,8,8,8,8,8,8,8,8,8,8,8,8,8,8,8,8,8,8,8,8,8,8,8,8,8,8,8,8,8,8,8,8,8,8,8,8,8]))).toArray })) (.c (.int .u8 (n:Int)))=some (.c (.int .u8 (uk n:Nat))):=by
 have e:({ data:=((([0,1,2,2,3,3,3,3,4,4,4,4,4,4,4,4,5,5,5,5,5,5,5,5,5,5,5,5,5,5,5,5,6,6,6,6,6,6,6,6,6,6,6,6,6,6,6,6,6,6,6,6,6,6,6,6,6,6,6,6,6,6,6,6].append [7,7,7,7,7,7,7,7,7,7,7,7,7,7,7,7,7,7,7,7,7,7,7,7,7,7,7,7,7,7,7,7,7,7,7,7,7,7,7,7,7,7,7,7,7,7,7,7,7,7,7,7,7,7,7,7,7,7,7,7,7,7,7,7]).append ([8,8,8,8,8,8,8,8,8,8,8,8,8,8,8,8,8,8,8,8,8,8,8,8,8,8,8,8,8,8,8,8,8,8,8,8,8,8,8,8,8,8,8,8,8,8,8,8,8,8,8,8,8,8,8,8,8,8,8,8,8,8,8,8].append [8,8,8,8,8,8,8,8,8,8,8,8,8,8,8,8,8,8,8,8,8,8,8,8,8,8,8,8,8,8,8,8,8,8,8,8,8,8,8,8,8,8,8,8,8,8,8,8,8,8,8,8,8,8,8,8,8,8,8,8,8,8,8,8]))).toArray }:ByteArray)=sB alI:=by rfl
 rw[e,Oq _ _ _ _ _ (by omega) (by rw[mi];exact_mod_cast hn),alJ,if_pos rfl,Int.toNat_natCast,akY ⟨n,hn⟩]
 have:uk n≤8:=TQ ⟨n,hn⟩
 simp only
 rw[UInt8.toNat_ofNat',Nat.mod_eq_of_lt (by omega)]
theorem fdN(x k:Nat)(hk:k≤64):Int.fdiv (x:Int) (2^min k IntKind.u64.bits)=((x / 2^k:Nat):Int):=by
 have hb:IntKind.u64.bits=64:=rfl
 rw[hb,Nat.min_eq_left hk,Int.fdiv_eq_ediv_of_nonneg _ (Int.le_of_lt (Int.pow_pos (by decide)))]
 simp
theorem akZ(x:Nat)(hx:x<18446744073709551616):Gxx 182 [vu x] (vi (uk x:Nat)):=by
 have f32:=fdN x 32 (by decide)
 by_cases c1:x<4294967296
 ·have e1:uk x=uk x+0:=rfl
  by_cases c2:x<65536
  ·by_cases c3:x<256
   ·have ht:=Jw x c3
    have h8:uk (x)≤8:=TQ ⟨x,c3⟩
    refine gI oW Tryz.func182 Tryz.results182 ?_
    refine wS @ht trivial ?_
    (refine rT [] ?_;first|rfl|simp only[pgo,simprocAttr]|skip)
    all_goals first|(congr 2;omega)|skip
   ·have s1:=wY x 8 (by omega)
    have f1:=fdN x 8 (by decide)
    have ht:=Jw (x / 2^8) (by omega)
    have h8:uk (x / 2^8)≤8:=TQ ⟨x / 2^8,by omega⟩
    rw[s1]
    have hby:x / 2^8<256:=by omega
    generalize x / 2^8=y at *
    refine gI oW Tryz.func182 Tryz.results182 ?_
    refine wS (aI @f1 @ht) trivial ?_
    (refine rT [] ?_;first|rfl|simp only[pgo,simprocAttr]|skip)
    all_goals first|(congr 2;omega)|skip
  ·have s1:=wY x 16 (by omega)
   have f1:=fdN x 16 (by decide)
   have hy:x / 2^16<65536:=by omega
   rw[s1]
   generalize x / 2^16=y at *
   by_cases c3:y<256
   ·have ht:=Jw y c3
    have h8:uk (y)≤8:=TQ ⟨y,c3⟩
    refine gI oW Tryz.func182 Tryz.results182 ?_
    refine wS (aI @f1 @ht) trivial ?_
    (refine rT [] ?_;first|rfl|simp only[pgo,simprocAttr]|skip)
    all_goals first|(congr 2;omega)|skip
   ·have s2:=wY y 8 (by omega)
    have f2:=fdN y 8 (by decide)
    have ht:=Jw (y / 2^8) (by omega)
    have h8:uk (y / 2^8)≤8:=TQ ⟨y / 2^8,by omega⟩
    rw[s2]
    have hbz:y / 2^8<256:=by omega
    generalize y / 2^8=z at *
    refine gI oW Tryz.func182 Tryz.results182 ?_
    refine wS (aI @f1 (aI @f2 @ht)) trivial ?_
    (refine rT [] ?_;first|rfl|simp only[pgo,simprocAttr]|skip)
    all_goals first|(congr 2;omega)|skip
 ·have s0:=wY x 32 (by omega)
  have hw:x / 2^32<4294967296:=by omega
  rw[s0]
  generalize x / 2^32=w at *
  by_cases c2:w<65536
  ·by_cases c3:w<256
   ·have ht:=Jw w c3
    have h8:uk (w)≤8:=TQ ⟨w,c3⟩
    refine gI oW Tryz.func182 Tryz.results182 ?_
    refine wS (aI @f32 @ht) trivial ?_
    (refine rT [] ?_;first|rfl|simp only[pgo,simprocAttr]|skip)
    all_goals first|(congr 2;omega)|skip
   ·have s1:=wY w 8 (by omega)
    have f1:=fdN w 8 (by decide)
    have ht:=Jw (w / 2^8) (by omega)
    have h8:uk (w / 2^8)≤8:=TQ ⟨w / 2^8,by omega⟩
    rw[s1]
    have hby:w / 2^8<256:=by omega
    generalize w / 2^8=y at *
    refine gI oW Tryz.func182 Tryz.results182 ?_
    refine wS (aI @f32 (aI @f1 @ht)) trivial ?_
    (refine rT [] ?_;first|rfl|simp only[pgo,simprocAttr]|skip)
    all_goals first|(congr 2;omega)|skip
  ·have s1:=wY w 16 (by omega)
   have f1:=fdN w 16 (by decide)
   have hy:w / 2^16<65536:=by omega
   rw[s1]
   generalize w / 2^16=y at *
   by_cases c3:y<256
   ·have ht:=Jw y c3
    have h8:uk (y)≤8:=TQ ⟨y,c3⟩
    refine gI oW Tryz.func182 Tryz.results182 ?_
    refine wS (aI @f32 (aI @f1 @ht)) trivial ?_
    (refine rT [] ?_;first|rfl|simp only[pgo,simprocAttr]|skip)
    all_goals first|(congr 2;omega)|skip
   ·have s2:=wY y 8 (by omega)
    have f2:=fdN y 8 (by decide)
    have ht:=Jw (y / 2^8) (by omega)
    have h8:uk (y / 2^8)≤8:=TQ ⟨y / 2^8,by omega⟩
    rw[s2]
    have hbz:y / 2^8<256:=by omega
    generalize y / 2^8=z at *
    refine gI oW Tryz.func182 Tryz.results182 ?_
    refine wS (aI @f32 (aI @f1 (aI @f2 @ht))) trivial ?_
    (refine rT [] ?_;first|rfl|simp only[pgo,simprocAttr]|skip)
    all_goals first|(congr 2;omega)|skip
theorem alr(x:Nat)(hx:x<18446744073709551616):Gxx 163 [vu x] (vi (64-(uk x:Nat))):=by
 have h1:=akZ x hx
 have h2:uk x≤64:=ai9 (by omega)
 refine gI oW Tryz.func163 Tryz.results163 ?_
 exact wR trivial h1 ay
theorem alT(x:Nat)(hx:x<18446744073709551616):Gxx 138 [vu x] (vi (64-(uk x:Nat))):=by
 have h1:=alr x hx
 refine gI oW Tryz.func138 Tryz.results138 ?_
 exact wR trivial h1 ay
theorem aky(a:Nat)(h:a<18446744073709551616):bits .and .u64 (a:Int) 1=((a%2:Nat):Int):=by
 have:=bits_and_u64_nat a 1 h (by omega)
 rw[show ((1:Nat):Int)=1 from rfl] at this
 rw[this,show (1:Nat)=2^1-1 from rfl,Nat.and_two_pow_sub_one_eq_mod]
theorem akz(H j:Nat)(hj:j≤64)(hH:H<18446744073709551616):Je (H:Int) j=((H / 2^j%2:Nat):Int):=by
 unfold Je
 rw[fdN H j hj]
 exact aky _ (Nat.lt_of_le_of_lt (Nat.div_le_self _ _) hH)
theorem akA(H:Nat)(hH:H<18446744073709551616):∀j,j≤64→qU (H:Int) j=1+((j:Int)-(uk (H%2^j):Nat)):=by
 intro j
 induction j with
 | zero=>intro _;simp [qU,Nat.mod_one,ajF]
 | succ j ih =>
  intro hj
  have hm:H%2^(j+1)=H%2^j+2^j*(H / 2^j%2):=Nat.mod_pow_succ
  have hlt:H%2^j<2^j:=Nat.mod_lt _ (Nat.two_pow_pos j)
  have e:qU (H:Int) (j+1)=if Je (H:Int) j=0 then 1+qU (H:Int) j else 1:=rfl
  rw[e,akz H j (by omega) hH,hm]
  rcases (by omega:H / 2^j%2=0∨H / 2^j%2=1) with hb|hb
  ·have e0:H%2^j+2^j*0=H%2^j:=by omega
   rw[hb,if_pos (show ((0:Nat):Int)=0 from rfl),e0,ih (by omega)]
   omega
  ·rw[hb,if_neg (by decide),Nat.mul_one,ajS (k:=j) (by omega) (by rw[Nat.pow_succ];omega)]
   omega
theorem ajG(p s:Int)(k:List Nat)(ho:oct k)(hp:2≤p∧p≤8)(hk:1≤k.length∧k.length≤32):Gxx 74 [vi p,vu s,vs k] (.tup [vi (xQ p s k),vi (FD p s k),vi 0]):=by
 have k1:=Jv p hp
 have k3:=xH k
 rw[zT hk] at k3
 have k4:=aki (jy s 256) (lK _ _) k ho (by omega)
 have hh:=mO (jy s 256) k
 have hr:=wH p s k hp
 have hp2:=(qo hp).2.1
 have er:xQ p s k=(lL (jy s 256) k).fdiv (2^min (64-p).toNat IntKind.u64.bits):=rfl
 have ek:FD p s k=qU (lL (jy s 256) k) (64-p).toNat:=rfl
 have hrr:=wG (lL (jy s 256) k) (64-p).toNat
 rw[←ek] at hrr
 obtain⟨H,hH⟩:=Int.eq_ofNat_of_zero_le hh.1
 rw[hH] at hh er ek k4
 have hq:=akA H (by omega) (64-p).toNat (by omega)
 rw[←ek] at hq
 have hmul:IntKind.u64.wrap ((H:Int)*2^min p.toNat IntKind.u64.bits)=((H%2^(64-p).toNat*2^p.toNat:Nat):Int):=by
  obtain⟨q,hq⟩:=Int.eq_ofNat_of_zero_le (by omega:0≤p)
  subst hq
  have hb:IntKind.u64.bits=64:=rfl
  rw[IntKind.wrap_u64,hb,Int.toNat_natCast,Nat.min_eq_left (by omega)]
  have e1:((64:Int)-(q:Int)).toNat=64-q:=by omega
  rw[e1]
  have e2:H*2^q%18446744073709551616=H%2^(64-q)*2^q:=by
   have e3:(18446744073709551616:Nat)=2^(64-q)*2^q:=by rw[←Nat.pow_add,show 64-q+q=64 by omega]
   rw[e3,Nat.mul_mod_mul_right]
  have e4:((H:Int)*2^q)=((H*2^q:Nat):Int):=by simp
  first|rw[e1,e4,←e2]|rw[e4,←e2]
  rfl
 have hlt:H%2^(64-p).toNat*2^p.toNat<18446744073709551616:=by
  have h1:H%2^(64-p).toNat<2^(64-p).toNat:=Nat.mod_lt _ (Nat.two_pow_pos _)
  have h2:2^(64-p).toNat*2^p.toNat=18446744073709551616:=by
   rw[←Nat.pow_add,show (64-p).toNat+p.toNat=64 by omega]
  have h3:=(Nat.mul_lt_mul_right (Nat.two_pow_pos p.toNat)).2 h1
  omega
 have k5:=alT _ hlt
 have hbl:uk (H%2^(64-p).toNat*2^p.toNat)=if H%2^(64-p).toNat=0 then 0 else uk (H%2^(64-p).toNat)+p.toNat:=by
  split
  ·rename_i h0;rw[h0];simp [ajF]
  ·rename_i h0;exact akx _ _ h0
 have hb2:uk (H%2^(64-p).toNat)≤(64-p).toNat:=ai9 (Nat.mod_lt _ (Nat.two_pow_pos _))
 have hmin:min (1+(64-((uk (H%2^(64-p).toNat*2^p.toNat):Nat):Int))) (65-p)=FD p s k:=by
  rw[hbl,hq]
  split
  ·rename_i h0;rw[h0,ajF];omega
  ·omega
 have hb3:uk (H%2^(64-p).toNat*2^p.toNat)≤64:=ai9 (by omega)
 generalize hY:H%2^(64-p).toNat*2^p.toNat=Y at *
 generalize xQ p s k=rg at *
 generalize FD p s k=rk at *
 generalize uk Y=B at *
 clear hbl hq ek hb2 hY
 refine gI oW Tryz.func74 Tryz.results74 ?_
 (repeat' (first|(simp (disch:=first|exact dqz|fail) only[pgz,simprocAttr,mmF,hmul,hmin,←er])|((with_reducible show bU _ _ _ _ _ _);first|refine cU k1 ?_|refine cU k3 ?_|refine ah _ (ajO _) rfl rfl rfl rfl ?_|refine cU k4 ?_|refine cU k5 ?_)|((with_reducible first|apply aj|apply ai|apply ak)<;>intro hc<;>(try simp only[hc])<;>(try simp only[pgd] at hc))|(with_reducible refine cK ?_)))
 exact rE []
theorem ak0(x:Ll)(k:List Nat)(w:Int)(ho:oct k)(hx:x.r.length≤1000000):Gxx 27 [.agg (llF x),.agg [vs k,vi w]] (.tup [.agg (llF (lN x k w).1),vi (lN x k w).2]):=by
 have h1:=ac5 x hx
 have h2:=bz k w
 unfold lN
 by_cases c1:vLl x=0
 ·rw[if_neg (by omega)]
  rw[c1] at h1
  by_cases c2:bT k w=0
  ·rw[if_neg (by omega)]
   rw[c2] at h2
   obtain⟨i1,i2,i3⟩:=Xt c1
   obtain⟨j1,j2⟩:=fU c2
   have hr:=wH x.p x.s k i1
   have hp:=(qo i1).2
   have k1:=ajG x.p x.s k ho i1 j2
   obtain⟨p,s,l⟩:=x
   simp only at i1 i2 i3 hr hp k1 hx ⊢
   rw[←i2] at hr
   generalize xQ p s k=rg at *
   generalize FD p s k=rk at *
   have hrn:rg.toNat<l.length:=by omega
   have hg:=kF l rg.toNat hrn
   generalize hgg:l.getD rg.toNat 0=g at *
   have hil:=aZ l
   refine Good.fzt (vs:=[.agg [vi p,vu s,.sl (.own 0 3) 1 (iv (l.set rg.toNat (max g rk)))],vi 0]) ?_ rfl ⟨aH _,aH _,trivial⟩
   refine gI oW Tryz.func27 Tryz.results27 ?_
   exact wR (aI @mmT (aI @aZ (aI @hg @rP))) (aI h1 (aI h2 k1)) (ids [4])
  ·rw[if_pos (by omega)]
   refine Good.fzt (vs:=[.agg [vi 0,vu 0,nls],vi (bT k w)]) ?_ rfl ⟨FH,aH _,trivial⟩
   refine gI oW Tryz.func27 Tryz.results27 ?_
   exact wR trivial (aI h1 h2) ay
 ·rw[if_pos (by omega)]
  refine Good.fzt (vs:=[.agg [vi 0,vu 0,nls],vi (vLl x)]) ?_ rfl ⟨FH,aH _,trivial⟩
  refine gI oW Tryz.func27 Tryz.results27 ?_
  exact wR trivial h1 ay
end Go.Proofs.YtiohdbjggmmjcaaGreat
section
namespace Go.Pg
open Go
section
variable {P:Program} [Tb P] {s:St} {d:Option Nat} {ty:TypeId} {pos:String} {af:Array Edge} {g:Option (Nat × Bool)} {K:Kd→St→Prop}
theorem aiA(x y:Operand)(ts:Array TypeId):aA P s ⟨d,.call { callee := .builtin .complex,args:=#[x,y],argTypes:=ts },ty,pos,af,g⟩ K=kz (cxV (s.ev x) (s.ev y)) s d [s.ev x,s.ev y] K:=by
 have e:(Op.call { callee := .builtin .complex,args:=#[x,y],argTypes:=ts }).operands.toList.map s.ev=[s.ev x,s.ev y]:=rfl
 simp only[aA,kqo,dA,kx,qv,rv,xv,zv,e,bK,bC,aP,or_false]
theorem ajH(x:Operand)(ts:Array TypeId):aA P s ⟨d,.call { callee := .builtin .real,args:=#[x],argTypes:=ts },ty,pos,af,g⟩ K=kz (reV (s.ev x)) s d [s.ev x] K:=by
 have e:(Op.call { callee := .builtin .real,args:=#[x],argTypes:=ts }).operands.toList.map s.ev=[s.ev x]:=rfl
 simp only[aA,kqo,dA,kx,qv,rv,xv,zv,e,bK,bC,aP,or_false]
theorem ajI(x:Operand)(ts:Array TypeId):aA P s ⟨d,.call { callee := .builtin .imag,args:=#[x],argTypes:=ts },ty,pos,af,g⟩ K=kz (imV (s.ev x)) s d [s.ev x] K:=by
 have e:(Op.call { callee := .builtin .imag,args:=#[x],argTypes:=ts }).operands.toList.map s.ev=[s.ev x]:=rfl
 simp only[aA,kqo,dA,kx,qv,rv,xv,zv,e,bK,bC,aP,or_false]
theorem aka(src dst:TypeId)(k:FloatKind)(n:Nat):Bc P s d src dst (.c (.float k n)) K=kz (kW P src dst (.c (.float k n))) s d [.c (.float k n)] K:=by
 rw[vY]
 have h1:(jG P src dst (.c (.float k n))).map (fun r=>(r,s))=none:=rfl
 have h2:mZ P s src dst (.c (.float k n))=none:=rfl
 have h3:jg P s src dst (.c (.float k n))=none:=rfl
 rw[h1,h2,h3]
 simp only[aP,bC,or_false]
end
def cvF(d:Option IntKind)(s:FloatKind)(b:Nat):Option V:=match d with|some k=>(PH s b k).map fun n => .c (.int k n)|none=>none
theorem akb(P:Program)(src t:TypeId)(s:FloatKind)(b:Nat):kW P src t (.c (.float s b))=if (P.underlying src).isSome=true then cvF (qg P t) s b else none:=by
 unfold kW
 cases qg P t with
 | none=>simp [cvF]
 | some k'=>rfl
theorem alK(k:IntKind)(s:FloatKind)(b:Nat):cvF (some k) s b=(PH s b k).map fun n=>V.c (.int k n):=rfl
theorem alL(k:FloatKind)(n:Int):cvK none (some k) n=some (.c (.float k (k.nearest n))):=rfl
theorem alM(k:FloatKind)(a b:Nat):cxV (.c (.float k a)) (.c (.float k b))=some (.c (.complex k a b)):=if_pos rfl
theorem alO(k:FloatKind)(a b:Nat):reV (.c (.complex k a b))=some (.c (.float k a)):=rfl
theorem alP(k:FloatKind)(a b:Nat):imV (.c (.complex k a b))=some (.c (.float k b)):=rfl
theorem alU:∀n:Fin 512,PH .f64 (FloatKind.f64.nearest (n.1:Int)) .i64=some (n.1:Int):=by decide +kernel
theorem akB(n:Int)(h0:0≤n)(h:n<512):PH .f64 (FloatKind.f64.nearest n) .i64=some n:=by
 obtain⟨k,rfl⟩:=Int.eq_ofNat_of_zero_le h0
 exact alU ⟨k,by omega⟩
def pgc:=aI @aiA (aI @ajH (aI @ajI (aI @aka (aI @akb (aI @alK (aI @alL (aI @alM (aI @alO (aI @alP (aI @akB @Option.map_some.{0,0}))))))))))
end Go.Pg
end
namespace Go.Proofs.YtiohdbjggmmjcaaGreat
open Go Go.Pg
def cpx(a b:Int):V := .c (.complex .f64 (FloatKind.f64.nearest a) (FloatKind.f64.nearest b))
def adL(s z:Int)(k:List Nat)(n:Nat):List V:=(List.range n).map fun (r:Nat)=>cpx r (uP s r z k)
theorem ajT(s z:Int)(k:List Nat)(n:Nat):(adL s z k n).length=n:=by simp [adL]
theorem akC(s z:Int)(k:List Nat)(n:Nat):adL s z k n++[V.c (.complex .f64 (FloatKind.f64.nearest (n:Int)) (FloatKind.f64.nearest (uP s n z k)))]=adL s z k (n+1):=by simp [adL,List.range_succ,cpx]
theorem ak1(s z:Int)(k:List Nat)(n i:Nat)(h:i<n):(adL s z k n)[i]?=some (.c (.complex .f64 (FloatKind.f64.nearest (i:Int)) (FloatKind.f64.nearest (uP s i z k)))):=by simp [adL,h,cpx]
theorem alV:Ue Tryz.prog 163=some .f64:=by kernel_rfl
theorem ajU(f:FloatKind)(a b):V.cs (.c (.complex f a b))=some [.c (.complex f a b)]:=rfl
theorem aja(f:FloatKind)(a b):V.one (.c (.complex f a b))=true:=rfl
theorem alW:zelem Tryz.prog 106=some (.c (.complex .f64 0 0)):=by kernel_rfl
theorem Np(c:Cm)(h0:0<c.c.length)(hn:c.c.length≤1000000):Gxx 69 [.agg (cmF c)] (.agg [vi c.d,vi c.z,vu c.s,.sl (.own 0 3) 1 (iv c.c),vb c.b]):=by
 have hil:=aZ c.c
 refine gI oW Tryz.func69 Tryz.results69 ?_
 (repeat' (first|(simp (disch:=first|exact dqz|fail) only[pgz,simprocAttr,aZ])|(refine tS ?_ ?_<;>intro hc)|(with_reducible refine cK ?_)))
 (refine rT [3] ?_;first|rfl|simp only[pgo,simprocAttr]|skip)
theorem aju(c:Cm)(k:List Nat)(ho:oct k)(hd:1≤c.d∧c.d≤8)(hz:1≤c.z∧c.z≤64)(hk:1≤k.length∧k.length≤32):Gxx 70 [.agg (cmF c),vs k] (.sl .fz 1 (adL c.s c.z k c.d.toNat)):=by
 refine Good.fzr (r := .sl (.own 0 106) 1 (adL c.s c.z k c.d.toNat)) ?_ rfl (.inl (.inl rfl))
 obtain⟨d,z,s,l,b⟩:=c
 simp only at hd hz ⊢
 refine gI oW Tryz.func70 Tryz.results70 ?_
 (repeat' (first|(simp (disch:=first|exact dqz|fail) only[pgz,simprocAttr])|(refine tS ?_ ?_<;>intro hc)|(with_reducible refine cK ?_)))
 refine df (fun i:Nat=>mkA [(1,vs k),(2,.ref 0 0),(5,.sl (.own 0 106) 1 (adL s z k i)),(10,vi d),(11,vi i)] [(0,(29,cmF ⟨d,z,s,l,b⟩))] 1 (fun _ => .top)) (fun i=>i≤d.toNat) (fun i=>d.toNat-i) 0 [] [0] ?_ (Nat.zero_le _) ?_
 ·(refine dN ?_ ?_ (gu _ _ _) (by decide) (by decide) (by decide) (by decide);(repeat' (first|exact trivial|refine dI _ _ rfl rfl ?_ ?_));all_goals (try simp only[pgs,pgl,pgx,pgf,pgw,di,dL,dm,dM,qc,iO,fO,pgn,simprocAttr]);all_goals (try (repeat' (first|apply aI)));all_goals (try (first|exact trivial|exact dE (by omega)|exact eH rfl|exact bP rfl rfl|exact jq rfl)))
  all_goals first|exact gG rfl|skip
 ·intro i hi
  replace hi:i≤d.toNat:=hi
  have hal:=ajT s z k i
  rcases Nat.lt_or_ge i d.toNat with hlt|hge
  ·have hn:=akC s z k i
   have hcl:=akj s i z k ho (by omega) hz hk
   generalize uP s i z k=ci at *
   (repeat' (first|(simp (disch:=first|exact dqz|fail) only[pgz,simprocAttr,pgc,alV,alW,ajU,aja,hn])|((with_reducible show bU _ _ _ _ _ _);refine cU hcl ?_)|(refine tS ?_ ?_<;>intro hc)|(with_reducible refine cK ?_)))
   (refine dh (i+1) [0] [0] (hlt) (by first|omega|(simp only[List.length_cons];omega)) ?_;(refine dN ?_ ?_ (gu _ _ _) (by decide) (by decide) (by decide) (by decide);(repeat' (first|exact trivial|refine dI _ _ rfl rfl ?_ ?_));all_goals (try simp only[pgs,pgl,pgx,pgf,pgw,di,dL,dm,dM,qc,iO,fO,pgn,simprocAttr]);all_goals (try (repeat' (first|apply aI)));all_goals (try (first|exact trivial|exact dE (by omega)|exact eH rfl|exact bP rfl rfl|exact jq rfl))))
  ·have:i=d.toNat:=by omega
   subst this
   (repeat' (first|(simp (disch:=first|exact dqz|fail) only[pgz,simprocAttr])|(refine tS ?_ ?_<;>intro hc)|(with_reducible refine cK ?_)))
   (refine rT [0] ?_;first|rfl|simp only[pgo,simprocAttr]|skip)
theorem ak2(c:Cm)(a b:Int)(ha:0≤a∧a≤7)(hb:0≤b∧b≤63)(hz:1≤c.z∧c.z≤64):Gxx 71 [.agg (cmF c),.c (.complex .f64 (FloatKind.f64.nearest a) (FloatKind.f64.nearest b))] (vi (a*c.z+b)):=by
 obtain⟨d,z,s,l,bb⟩:=c
 simp only at hz ⊢
 have h1:0≤a*z:=Int.mul_nonneg ha.1 (by omega)
 have h2:a*z≤7*z:=Int.mul_le_mul_of_nonneg_right ha.2 (by omega)
 have ia:=akB a ha.1 (by omega)
 have ib:=akB b hb.1 (by omega)
 refine gI oW Tryz.func71 Tryz.results71 ?_
 (repeat' (first|(simp (disch:=first|exact dqz|fail) only[pgz,simprocAttr,pgc,ia,ib])|(refine tS ?_ ?_<;>intro hc)|(with_reducible refine cK ?_)))
 (refine rT [] ?_;first|rfl|simp only[pgo,simprocAttr]|skip)
theorem ak3(c:Cm)(k:List Nat)(w:Int)(ho:oct k):Gxx 26 [.agg (cmF c),.agg [vs k,vi w]] (.tup [.agg (cmF (nH c k w).1),vi (nH c k w).2]):=by
 have h1:=ac4 c
 have h2:=bz k w
 unfold nH
 by_cases c1:vCm c=0
 ·rw[if_neg (by omega)]
  rw[c1] at h1
  by_cases c2:bT k w=0
  ·rw[if_neg (by omega)]
   rw[c2] at h2
   obtain⟨i1,i2,i3,i4⟩:=Xr c1
   obtain⟨j1,j2⟩:=fU c2
   have hm:=xN i1 i2
   have hmp:0<c.d*c.z:=Int.mul_pos (by omega) (by omega)
   have hd:=BB c k w
   have hin:=D9 c k w i4
   have hcell:=fun (r:Nat) (hr:(r:Int)<c.d)=>xO c.s c.z r c.d k i2.1 ⟨by omega,hr⟩
   have e0:dW c k w 0=c:=rfl
   have es:∀n,dW c k w (n+1)=xP (dW c k w n) k w n:=fun _=>rfl
   have k1:=Np c (by omega) (by omega)
   have k2:=aju c k ho i1 i2 j2
   have ec:cmF (dW c k w c.d.toNat)=[vi c.d,vi c.z,vu c.s,fzi (dW c k w c.d.toNat).c,vb (dW c k w c.d.toNat).b]:=by
    show [vi (dW c k w c.d.toNat).d,vi (dW c k w c.d.toNat).z,vu (dW c k w c.d.toNat).s,_,_]=_
    rw[(hd _).1,(hd _).2.1,(hd _).2.2.1]
   refine Good.fzt (vs:=[.agg [vi c.d,vi c.z,vu c.s,.sl (.own 0 3) 1 (iv (dW c k w c.d.toNat).c),vb (dW c k w c.d.toNat).b],vi 0]) ?_ rfl (by simp only;rw[ec];exact⟨aH _,aH _,trivial⟩)
   generalize hR:dW c k w=R at *
   have hal:=ajT c.s c.z k c.d.toNat
   have hcol:=fun (r:Nat)=>rW c.s r c.z k i2.1
   obtain⟨d,z,s,l,b⟩:=c
   simp only at i1 i2 i3 i4 hd hcell e0 k1 k2 hal hcol ⊢
   have hil:=aZ l
   have hix:=fun (r:Nat) (hr:(r:Int)≤7)=>ak2 ⟨d,z,s,l,b⟩ r (uP s r z k) ⟨by omega,hr⟩ ⟨(hcol r).1,by have:=(hcol r).2;omega⟩ i2
   refine gI oW Tryz.func26 Tryz.results26 ?_
   (repeat' (first|(simp (disch:=first|exact dqz|fail) only[pgz,simprocAttr,aZ,hal])|((with_reducible show bU _ _ _ _ _ _);first|refine cU h1 ?_|refine cU h2 ?_|refine cU k1 ?_|refine cU k2 ?_)|(refine tS ?_ ?_<;>intro hc)|(with_reducible refine cK ?_)))
   refine df (fun r:Nat=>mkA [(2,.ref 0 0),(3,.ref 1 0),(4,.ref 2 0),(8,.ref 3 0),(31,.sl .fz 1 (adL s z k d.toNat)),(32,vi d.toNat),(33,vi r)] [(0,(29,cmF ⟨d,z,s,l,b⟩)),(1,(45,[vs k,vi w])),(2,(29,[vi 0,vi 0,vu 0,nls,vb false])),(3,(29,[vi d,vi z,vu s,.sl (.own 0 3) 1 (iv (R r).c),vb (R r).b]))] 4 (fun _ => .top)) (fun r=>r≤d.toNat) (fun r=>d.toNat-r) 0 [3] [0,1,2,4] ?_ (Nat.zero_le _) ?_
   ·(refine dN ?_ ?_ (gu _ _ _) (by decide) (by decide) (by decide) (by decide);(repeat' (first|exact trivial|refine dI _ _ rfl rfl ?_ ?_));all_goals (try simp only[pgs,pgl,pgx,pgf,pgw,di,dL,dm,dM,qc,iO,fO,pgn,simprocAttr]);all_goals (try (repeat' (first|apply aI)));all_goals (try (first|exact trivial|exact dE (by omega)|exact eH rfl|exact bP rfl rfl|exact jq rfl)))
    all_goals first|(exact bP rfl (by rw[e0]))|(exact eH (by rw[e0]))|skip
   ·intro r hr
    replace hr:r≤d.toNat:=hr
    rcases Nat.lt_or_ge r d.toNat with hlt|hge
    ·have hrd:(r:Int)<d:=by omega
     have hq:=hcell r hrd
     have hk1:=hix r (by omega)
     have hag:=ak1 s z k d.toNat r hlt
     obtain⟨d1,d2,d3,d4⟩:=hd r
     have hRr:=es r
     have hinr:=hin r
     generalize hR1:R r=q at *
     obtain⟨qd,qz,qs,ql,qb⟩:=q
     simp only at d1 d2 d3 d4 hk1 hinr hRr
     subst d1
     subst d2
     subst d3
     rw[xP] at hRr
     simp only at hRr
     have ecc:(r:Int)*qz+uP qs (r:Int) qz k=rX qs qz (r:Int) k:=rfl
     rw[ecc] at hk1
     generalize hcc:rX qs qz (r:Int) k=ci at *
     have hcn:ci.toNat<ql.length:=by omega
     have hg:=kF ql ci.toNat hcn
     have hgin:=D8 hinr hcn
     generalize hgg:ql.getD ci.toNat 0=g at *
     have hadd:=BV g w 4294967295 (by decide) (by unfold W64;omega) (by unfold W64;omega)
     generalize lw g w 4294967295=a at *
     obtain⟨a1,a2⟩:=a
     simp only at hadd hRr
     have hql:=aZ ql
     cases qb
     ·cases a2
      ·(repeat' (first|(simp (disch:=first|exact dqz|fail) only[pgz,simprocAttr,aZ,hal,hag,ajU,aja,hg,rP])|((with_reducible show bU _ _ _ _ _ _);first|refine cU hk1 ?_|refine cU hadd ?_)|(refine tS ?_ ?_<;>intro hc)|(with_reducible refine cK ?_)))
       (refine dh (r+1) [0] [0,1,2,3] (hlt) (by first|omega|(simp only[List.length_cons];omega)) ?_;(refine dN ?_ ?_ (gu _ _ _) (by decide) (by decide) (by decide) (by decide);(repeat' (first|exact trivial|refine dI _ _ rfl rfl ?_ ?_));all_goals (try simp only[pgs,pgl,pgx,pgf,pgw,di,dL,dm,dM,qc,iO,fO,pgn,simprocAttr]);all_goals (try (repeat' (first|apply aI)));all_goals (try (first|exact trivial|exact dE (by omega)|exact eH rfl|exact bP rfl rfl|exact jq rfl))))
       all_goals first|(exact bP rfl (by rw[hRr]))|(exact eH (by rw[hRr];rfl))|skip
      ·(repeat' (first|(simp (disch:=first|exact dqz|fail) only[pgz,simprocAttr,aZ,hal,hag,ajU,aja,hg,rP])|((with_reducible show bU _ _ _ _ _ _);first|refine cU hk1 ?_|refine cU hadd ?_)|(refine tS ?_ ?_<;>intro hc)|(with_reducible refine cK ?_)))
       (refine dh (r+1) [0] [0,1,2,3] (hlt) (by first|omega|(simp only[List.length_cons];omega)) ?_;(refine dN ?_ ?_ (gu _ _ _) (by decide) (by decide) (by decide) (by decide);(repeat' (first|exact trivial|refine dI _ _ rfl rfl ?_ ?_));all_goals (try simp only[pgs,pgl,pgx,pgf,pgw,di,dL,dm,dM,qc,iO,fO,pgn,simprocAttr]);all_goals (try (repeat' (first|apply aI)));all_goals (try (first|exact trivial|exact dE (by omega)|exact eH rfl|exact bP rfl rfl|exact jq rfl))))
       all_goals first|(exact bP rfl (by rw[hRr]))|(exact eH (by rw[hRr];rfl))|skip
     ·(repeat' (first|(simp (disch:=first|exact dqz|fail) only[pgz,simprocAttr,aZ,hal,hag,ajU,aja,hg,rP])|((with_reducible show bU _ _ _ _ _ _);first|refine cU hk1 ?_|refine cU hadd ?_)|(refine tS ?_ ?_<;>intro hc)|(with_reducible refine cK ?_)))
      (refine dh (r+1) [0] [0,1,2,3] (hlt) (by first|omega|(simp only[List.length_cons];omega)) ?_;(refine dN ?_ ?_ (gu _ _ _) (by decide) (by decide) (by decide) (by decide);(repeat' (first|exact trivial|refine dI _ _ rfl rfl ?_ ?_));all_goals (try simp only[pgs,pgl,pgx,pgf,pgw,di,dL,dm,dM,qc,iO,fO,pgn,simprocAttr]);all_goals (try (repeat' (first|apply aI)));all_goals (try (first|exact trivial|exact dE (by omega)|exact eH rfl|exact bP rfl rfl|exact jq rfl))))
      all_goals first|(exact bP rfl (by rw[hRr]))|(exact eH (by rw[hRr];rfl))|skip
    ·have:r=d.toNat:=by omega
     subst this
     (repeat' (first|(simp (disch:=first|exact dqz|fail) only[pgz,simprocAttr,aZ,hal])|(refine tS ?_ ?_<;>intro hc)|(with_reducible refine cK ?_)))
     (refine rT [0] ?_;first|rfl|simp only[pgo,simprocAttr]|skip)
  ·rw[if_pos (by omega)]
   refine Good.fzt (vs:=[.agg [vi 0,vi 0,vu 0,nls,vb false],vi (bT k w)]) ?_ rfl ⟨FC,aH _,trivial⟩
   refine gI oW Tryz.func26 Tryz.results26 ?_
   (repeat' (first|(simp (disch:=first|exact dqz|fail) only[pgz,simprocAttr])|((with_reducible show bU _ _ _ _ _ _);first|refine cU h1 ?_|refine cU h2 ?_)|(refine tS ?_ ?_<;>intro hc)|(with_reducible refine cK ?_)))
   (refine rT [] ?_;first|rfl|simp only[pgo,simprocAttr]|skip)
 ·rw[if_pos (by omega)]
  refine Good.fzt (vs:=[.agg [vi 0,vi 0,vu 0,nls,vb false],vi (vCm c)]) ?_ rfl ⟨FC,aH _,trivial⟩
  refine gI oW Tryz.func26 Tryz.results26 ?_
  (repeat' (first|(simp (disch:=first|exact dqz|fail) only[pgz,simprocAttr])|((with_reducible show bU _ _ _ _ _ _);refine cU h1 ?_)|(refine tS ?_ ?_<;>intro hc)|(with_reducible refine cK ?_)))
  (refine rT [] ?_;first|rfl|simp only[pgo,simprocAttr]|skip)
end Go.Proofs.YtiohdbjggmmjcaaGreat
