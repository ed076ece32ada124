/-
  Texts of this claim, merged; own names are short.
-/
import Derived.Test.YtiohdbjggmmjcaaGreatWAY
import Derived.Test.YtiohdbjggmmjcaaGreatWBE
import Derived.Test.YtiohdbjggmmjcaaGreatWAW
import Derived.Test.YtiohdbjggmmjcaaGreatWBD
import Derived.Test.YtiohdbjggmmjcaaGreatWAN
import Derived.Test.YtiohdbjggmmjcaaGreatWAR
set_option linter.unusedVariables false
set_option linter.unusedSimpArgs false
set_option linter.unusedSectionVars false
set_option linter.defProp false
set_option maxRecDepth 100000
set_option maxHeartbeats 8000000
section
namespace Go.Proofs.YtiohdbjggmmjcaaGreat
open Go Go.Pg
def mF(v u:List (List (List Nat))):Nat→List (List (List Nat))
 | 0=>v
 | i+1=>Ci (mF v u i) i (u.getD i [])
def O4(x y:Rk)(co:List Nat)(at':Int):Stl:=jh (mF x.v y.v y.v.length) x.z (aO x.l y.l).1 co at' 100
def qE(x y:Rk)(co:List Nat)(at':Int):Rk × Int × Int :=
 if vRk x≠0 then (Rk.o,0,vRk x) else if vRk y≠0 then (Rk.o,0,vRk y) else if x.z≠y.z then (Rk.o,0,10) else if ¬(0≤at'∧at'≤1073741824) then (Rk.o,0,5)
 else if (aO x.t y.t).2=true then (⟨x.z,x.t,x.l,x.v,true⟩,at',0)
 else (⟨x.z,(aO x.t y.t).1,(O4 x y co at').2.2.1,jb (O4 x y co at').2.2.2.2.length (O4 x y co at').2.2.2.2,x.b||y.b⟩,(O4 x y co at').2.2.2.1,0)
theorem Zp(v:List (List (List Nat)))(p:Nat)(ks:List (List Nat)):(Ci v p ks).length=max v.length (p+1):=by
 unfold Ci;rw[List.length_set,xW]
theorem GY(v u:List (List (List Nat)))(N:Nat)(hv:v.length≤N):∀i,i≤N→(mF v u i).length≤N
 | 0,_=>hv
 | i+1,h=>by
  show (Ci _ _ _).length≤N
  rw[Zp]
  have:=GY v u N hv i (by omega)
  omega
theorem abT(v u:List (List (List Nat)))(hv:∀j,(v.getD j []).length≤31)(hu:∀j,(u.getD j []).length≤31):∀i j,((mF v u i).getD j []).length≤31+if j<i then 31 else 0
 | 0,j=>by
  show (v.getD j []).length≤_
  rw[if_neg (by omega)];exact hv j
 | i+1,j=>by
  have ih:=abT v u hv hu i
  show ((Ci (mF v u i) i (u.getD i [])).getD j []).length≤_
  unfold Ci
  rw[yg _ _ _ _ (by rw[xW];omega)]
  split
  ·rename_i h
   subst h
   rw[if_pos (by omega),List.length_append]
   have h1:=ih j
   rw[if_neg (by omega)] at h1
   have:=hu j
   omega
  ·rename_i h
   rw[xX]
   have h1:=ih j
   split at h1
   ·rw[if_pos (by omega)];exact h1
   ·split<;>omega
def B2(z t lo:Int)(v:List (List (List Nat)))(b:Bool)(z2 t2 l2:Int)(v2:List (List (List Nat)))(b2:Bool):Nat→Option (TypeId × List V) :=
 upd (upd (upd (fun _=>none) 0 (some (tRk,[vi z,vi t,vi lo,fzl v,vb b]))) 1 (some (tRk,[vi z2,vi t2,vi l2,fzl v2,vb b2]))) 2 (some (tRk,[y0,y0,y0,yn,yf]))
theorem agx(z t lo:Int)(v:List (List (List Nat)))(b:Bool)(z2 t2 l2:Int)(v2:List (List (List Nat)))(b2:Bool):FrB 3 (B2 z t lo v b z2 t2 l2 v2 b2):=by
 refine FrB.upd (FrB.upd (FrB.upd (Zc 3) _ _ ?_) _ _ ?_) _ _ ?_
 all_goals
  intro x hx
  simp only[List.mem_cons,List.not_mem_nil,or_false] at hx
 ·rcases hx with rfl|rfl|rfl|rfl|rfl<;>rfl
 ·rcases hx with rfl|rfl|rfl|rfl|rfl<;>rfl
 ·rcases hx with rfl|rfl|rfl|rfl|rfl<;>rfl
theorem aiS{β:Type}(f:Nat→β)(c:Nat)(x y:β):upd (upd f c x) c y=upd f c y:=by
 funext t
 simp only[upd]
 split<;>rfl
section
attribute [local instance 2000] nestI
theorem ade(x y:Rk)(co:List Nat)(at':Int)(hco:oct co)(hv:∀l∈x.v,octL l)(hn:x.v.length≤1000000)(hn2:∀l∈x.v,l.length≤1000000)(hvy:∀l∈y.v,octL l)(hny:y.v.length≤1000000)(hny2:∀l∈y.v,l.length≤1000000) :
  Pg.Good Tryz.prog 53 [.agg (rkF x),.agg (rkF y),fzb co,vi at'] (.tup [.agg (rkF (qE x y co at').1),vi (qE x y co at').2.1,vi (qE x y co at').2.2]):=by
 have h1:=CE (ac3 x hv hn hn2)
 have h2:=CE (ac3 y hvy hny hny2)
 have h3:=CE (TR at')
 unfold qE
 by_cases c1:vRk x=0
 ·rw[if_neg (by omega)]
  rw[c1] at h1
  by_cases c2:vRk y=0
  ·rw[if_neg (by omega)]
   rw[c2] at h2
   by_cases c5:x.z=y.z
   ·rw[if_neg (fun h=>h c5)]
    by_cases c3:0≤at'∧at'≤1073741824
    ·rw[if_neg (fun h=>h c3)]
     rw[decide_eq_true c3] at h3
     obtain⟨i1,i2,i3,i4,i5⟩:=Na c1
     obtain⟨j1,j2,j3,j4,j5⟩:=Na c2
     obtain⟨z,t,lo,v,b⟩:=x
     obtain⟨z2,t2,l2,v2,b2⟩:=y
     simp only at *
     subst c5
     have hle:=abT v v2 i5 j5
     have hlen:=GY v v2 41 (by omega)
     have k6:=CE (BV lo l2 1099511627776 (by decide) (by unfold W64;omega) (by unfold W64;omega))
     cases b
     ·refine aK (eu [11,21,23] mix) Tryz.func53 rfl Tryz.results53 rfl (by kernel_rfl) (Nat.le_of_ble_eq_true (by kernel_rfl)) ?_
      (repeat' (first|(simp (disch:=first|exact dqz|fail) only[pgz,simprocAttr,iT,pgE,pgj,pgv,dB,iC])|(refine tC ?_;first|refine cU h1 ?_|refine cU h2 ?_|refine cU h3 ?_)|(refine tE ?_ ?_<;>intro hc)|(with_reducible refine bH ?_)|(with_reducible refine cK ?_)))
      have hl31:∀i,(v.getD i []).length≤1000:=fun i=>by have:=i5 i;omega
      have hfe:FrE 3 (iP [(2,fzb co),(3,vi at'),(4,.ref 0 0),(5,.ref 1 0),(8,.ref 2 0),(37,.agg [vi z,vi t,vi lo,fzl v,.c (.bool false)])]):=by
       refine oJ ?_
       intro x hx
       simp only[List.mem_cons,List.not_mem_nil,or_false] at hx
       rcases hx with rfl|rfl|rfl|rfl|rfl|rfl<;>rfl
      refine sN ⟨iP [(2,fzb co),(3,vi at'),(4,.ref 0 0),(5,.ref 1 0),(8,.ref 2 0),(37,.agg [vi z,vi t,vi lo,fzl v,.c (.bool false)])],B2 z t lo v false z t2 l2 v2 b2,3,fun _ => .top⟩ ?_ rfl (Yz 3 _ z t lo false v (by omega) hl31 _ _ hfe (uU 3) (agx z t lo v false z t2 l2 v2 b2)) rfl ?_
      ·refine gK (gp ?_) (fun c => .inl rfl) (Nat.le_refl _)
       ((try simp only[bu,gB,cO,cu,pgo,simprocAttr,and_true,true_and]);try (repeat' (first|exact trivial|rfl|apply aI)))
      rintro s' r ⟨Lb,cs,n1,q1,q2,q3,rfl,rfl⟩
      have hB0:cpB 3 (B2 z t lo v false z t2 l2 v2 b2) Lb v.length cs 0=some (tRk,[vi z,vi t,vi lo,fzl v,.c (.bool false)]):=by simp [cpB,B2,upd,show ¬0=Lb by omega]
      have hB1:cpB 3 (B2 z t lo v false z t2 l2 v2 b2) Lb v.length cs 1=some (tRk,[vi z,vi t2,vi l2,fzl v2,.c (.bool b2)]):=by simp [cpB,B2,upd,show ¬1=Lb by omega]
      have hB2:cpB 3 (B2 z t lo v false z t2 l2 v2 b2) Lb v.length cs 2=some (tRk,[y0,y0,y0,yn,yf]):=by simp [cpB,B2,upd,show ¬2=Lb by omega]
      (repeat' (first|(simp (disch:=first|exact dqz|fail) only[pgz,simprocAttr,iT,pgE,pgj,pgv,dB,iC,hB0,hB1,hB2])|(refine tE ?_ ?_<;>intro hc)|(with_reducible refine cK ?_)))
      have hLb:Lb≠2:=by omega
      have hR1:RkAt 3 n1 (upd (cpB 3 (B2 z t lo v false z t2 l2 v2 b2) Lb v.length cs) 2 (some (tRk,[vi z,vi t,vi lo,.bs Lb tLs 0 1 v.length,.c (.bool false)]))) 2 Lb z t lo false v cs:=by
       refine⟨if_pos rfl, ?_,q3,by omega,q1,q2,fun c x' k1 k2 hx => ?_⟩
       ·have e1:upd (cpB 3 (B2 z t lo v false z t2 l2 v2 b2) Lb v.length cs) 2 (some (tRk,[vi z,vi t,vi lo,.bs Lb tLs 0 1 v.length,.c (.bool false)])) Lb=if v.length=0 then none else some (tLs,cs):=by
         rw[upd,if_neg hLb];exact if_pos rfl
        rw[e1]
        by_cases hv0:v.length=0
        ·left
         have hvn:=List.eq_nil_of_length_eq_zero hv0
         exact⟨hvn,List.eq_nil_of_length_eq_zero (by rw[q3.len];exact hv0),if_pos hv0⟩
        ·right;exact if_neg hv0
       ·rw[upd,if_neg k1] at hx
        simp only[cpB,if_neg k2] at hx
        split at hx
        ·rename_i hc3;exact⟨hc3,agx z t lo v false z t2 l2 v2 b2 c x' hx⟩
        ·cases hx
      have hfe2:FrE 3 (iP [(2,fzb co),(3,vi at'),(4,.ref 0 0),(5,.ref 1 0),(8,.ref 2 0)]):=by
       refine oJ ?_
       intro x hx
       simp only[List.mem_cons,List.not_mem_nil,or_false] at hx
       rcases hx with rfl|rfl|rfl|rfl|rfl<;>rfl
      by_cases c4:(aO t t2).2=true
      ·rw[if_pos c4]
       refine Yh ((gK (gp (X:=[(2,fzb co),(3,vi at'),(4,.ref 0 0),(5,.ref 1 0),(8,.ref 2 0)]) ?_) (fun c => .inl rfl) (Nat.le_refl _)).trans (YR hR1 hfe2 (uU 3))) ?_
       ·((try simp only[bu,gB,cO,cu,pgo,simprocAttr,and_true,true_and]);try (repeat' (first|exact trivial|rfl|apply aI)))
       have hgt:(t+t2 > 1099511627776)=True:=eq_true (acH (by omega) (by omega) c4)
       have hO0:∀B,Gp 3 B 2 z t lo false v 0=B 0:=fun B=>rfl
       have hO1:∀B,Gp 3 B 2 z t lo false v 1=B 1:=fun B=>rfl
       have hO2:∀B,Gp 3 B 2 z t lo false v 2=some (tRk,[vi z,vi t,vi lo,fzl v,.c (.bool false)]):=fun B=>rfl
       (repeat' (first|(simp (disch:=first|exact dqz|fail) only[pgz,simprocAttr,iT,pgE,pgj,pgv,dB,iC,hO0,hO1,hO2,hB0,hB1,hgt])|(refine tE ?_ ?_<;>intro hc)|(with_reducible refine bH ?_)|(with_reducible refine cK ?_)))
       (refine rT [] ?_;first|rfl|simp only[pgo,simprocAttr]|skip)
      ·rw[if_neg c4]
       have hgt:(t+t2 > 1099511627776)=False:=eq_false (Pz (by omega) (by omega) c4)
       have hil:=fD v2
       refine bH ?_
       (repeat' (first|(simp (disch:=first|exact dqz|fail) only[pgz,simprocAttr,iT,pgE,pgj,pgv,dB,iC,hB0,hB1,hgt,hil])|(refine tC ?_;refine cU k6 ?_)|(refine tE ?_ ?_<;>intro hc)|(with_reducible refine bH ?_)|(with_reducible refine cK ?_)))
       have hav:(aO t t2).1=t+t2:=by rw[CQ (by omega) (by omega),if_neg (Pz (by omega) (by omega) c4)]
       have hset:jh (mF v v2 v2.length) z (aO lo l2).1 co at' 100=O4 ⟨z,t,lo,v,false⟩ ⟨z,t2,l2,v2,b2⟩ co at':=rfl
       rw[hav,←hset]
       have hR2:RkAt 3 n1 (upd (cpB 3 (B2 z t lo v false z t2 l2 v2 b2) Lb v.length cs) 2 (some (tRk,[vi z,vi (t+t2),vi (aO lo l2).1,.bs Lb tLs 0 1 v.length,.c (.bool b2)]))) 2 Lb z (t+t2) (aO lo l2).1 b2 v cs:=by
        have:=hR1.upd2 (z':=z) (t':=t+t2) (l':=(aO lo l2).1) (sat':=b2)
        rwa [aiS] at this
       have hsum:=pR lo l2
       refine sO (ι:=Nat × (Nat→Option (TypeId × List V)) × Nat × List V) (fun i=>⟨iP [(2,fzb co),(3,vi at'),(8,.ref 2 0),(71,fzl v2),(72,vi v2.length),(73,vi i.1)],i.2.1,i.2.2.1,fun _ => .top⟩) (fun i=>RkAt 3 i.2.2.1 i.2.1 2 Lb z (t+t2) (aO lo l2).1 b2 (mF v v2 i.1) i.2.2.2∧i.1≤v2.length) (fun i=>v2.length-i.1) (0,upd (cpB 3 (B2 z t lo v false z t2 l2 v2 b2) Lb v.length cs) 2 (some (tRk,[vi z,vi (t+t2),vi (aO lo l2).1,.bs Lb tLs 0 1 v.length,.c (.bool b2)])),n1,cs) ?_ ⟨hR2,Nat.zero_le _⟩ ?_
       ·refine gK (gp ?_) (fun c => .inl (by show upd _ 2 _ c=_;simp only[upd];split<;>rfl)) (by show _≤n1;omega)
        ((try simp only[bu,gB,cO,cu,pgo,simprocAttr,and_true,true_and]);try (repeat' (first|exact trivial|rfl|apply aI)))
       ·rintro⟨i,bx1,n2,cs1⟩ ⟨H1,hi⟩
        simp only at H1 hi
        have hb:=H1.hb
        have hcl:=hlen i (by omega)
        have hcl2:=hle i
        rcases Nat.lt_or_ge i v2.length with hlt|hge
        ·have hg:=nG v2 i hlt
         have hj5:=j5 i
         have hlt2:((i:Int)<(v2.length:Int))=True:=eq_true (by omega)
         (repeat' (first|(simp (disch:=first|exact dqz|fail) only[pgz,simprocAttr,iT,pgE,pgj,pgv,dB,iC,hlt2,hg,hil])|(refine tE ?_ ?_<;>intro hc)|(with_reducible refine cK ?_)))
         have hfe3:FrE 3 (iP [(2,fzb co),(3,vi at'),(8,.ref 2 0),(71,fzl v2),(72,vi v2.length),(73,vi i),(78,vi i),(79,fzs (v2.getD i []))]):=by
          refine oJ ?_
          intro x hx
          simp only[List.mem_cons,List.not_mem_nil,or_false] at hx
          rcases hx with rfl|rfl|rfl|rfl|rfl|rfl|rfl|rfl<;>rfl
         refine sN ⟨iP [(2,fzb co),(3,vi at'),(8,.ref 2 0),(71,fzl v2),(72,vi v2.length),(73,vi i),(78,vi i),(79,fzs (v2.getD i []))],bx1,n2,fun _ => .top⟩ ?_ rfl (Yx H1 i (by omega) (v2.getD i []) (by omega) (by omega) (fun j=>by have:=hcl2 j;split at this<;>omega) _ _ hfe3 (uU 3)) rfl ?_
         ·refine gK (gp ?_) (fun c => .inl rfl) (Nat.le_refl _)
          ((try simp only[bu,gB,cO,cu,pgo,simprocAttr,and_true,true_and]);try (repeat' (first|exact trivial|rfl|apply aI)))
         ·rintro s' r ⟨rfl,n3,cs2,k1,k2,rfl⟩
          have hnx:Ci (mF v v2 i) i (v2.getD i [])=mF v v2 (i+1):=rfl
          rw[hnx] at k2 ⊢
          (repeat' (first|(simp (disch:=first|exact dqz|fail) only[pgz,simprocAttr,iT,pgE,pgj,pgv,dB,iC])|(refine tE ?_ ?_<;>intro hc)|(with_reducible refine bH ?_)|(with_reducible refine cK ?_)))
          refine lY (i+1,rkB 3 bx1 2 Lb z (t+t2) (aO lo l2).1 b2 (mF v v2 (i+1)) cs2,n3,cs2) ⟨Cf (z':=z) (t':=t+t2) (l':=(aO lo l2).1) (sat':=b2) H1 k1 k2,by show i+1≤v2.length;omega⟩ (by show v2.length-(i+1)<v2.length-i;omega) (gK (gp ?_) (fun c => .inl rfl) (Nat.le_refl _))
          ((try simp only[bu,gB,cO,cu,pgo,simprocAttr,and_true,true_and]);try (repeat' (first|exact trivial|rfl|apply aI)))
        ·have hie:i=v2.length:=by omega
         subst hie
         have hlt2:((v2.length:Int)<(v2.length:Int))=False:=eq_false (by omega)
         (repeat' (first|(simp (disch:=first|exact dqz|fail) only[pgz,simprocAttr,iT,pgE,pgj,pgv,dB,iC,hlt2,hil])|(refine tE ?_ ?_<;>intro hc)|(with_reducible refine cK ?_)))
         have hfe3:FrE 3 (iP [(8,.ref 2 0),(82,fzb co),(83,vi at')]):=by
          refine oJ ?_
          intro x hx
          simp only[List.mem_cons,List.not_mem_nil,or_false] at hx
          rcases hx with rfl|rfl|rfl<;>rfl
         refine sN ⟨iP [(8,.ref 2 0),(82,fzb co),(83,vi at')],bx1,n2,fun _ => .top⟩ ?_ rfl (YL H1 co at' 100 (by omega) hco (fun j=>by have:=hcl2 j;split at this<;>omega) (by omega) (by omega) (JL lo l2) c3 _ _ hfe3 (uU 3)) rfl ?_
         ·refine gK (gp ?_) (fun c => .inl rfl) (Nat.le_refl _)
          ((try simp only[bu,gB,cO,cu,pgo,simprocAttr,and_true,true_and]);try (repeat' (first|exact trivial|rfl|apply aI)))
         ·rintro s' r ⟨rfl,n3,cs2,bx2,k1,H3,k3,rfl⟩
          generalize jh (mF v v2 v2.length) z (aO lo l2).1 co at' 100=R at *
          (repeat' (first|(simp (disch:=first|exact dqz|fail) only[pgz,simprocAttr,iT,pgE,pgj,pgv,dB,iC])|(refine tE ?_ ?_<;>intro hc)|(with_reducible refine cK ?_)))
          have hfe4:FrE 3 (iP [(8,.ref 2 0),(9,vi R.2.2.2.1)]):=by
           refine oJ ?_
           intro x hx
           simp only[List.mem_cons,List.not_mem_nil,or_false] at hx
           rcases hx with rfl|rfl<;>rfl
          refine Yh ((gK (gp (X:=[(8,.ref 2 0),(9,vi R.2.2.2.1)]) ?_) (fun c => .inl rfl) (Nat.le_refl _)).trans (YR H3 hfe4 (uU 3))) ?_
          ·((try simp only[bu,gB,cO,cu,pgo,simprocAttr,and_true,true_and]);try (repeat' (first|exact trivial|rfl|apply aI)))
          have hO2:∀l' v',Gp 3 bx2 2 z (t+t2) l' b2 v' 2=some (tRk,[vi z,vi (t+t2),vi l',fzl v',.c (.bool b2)]):=fun _ _=>rfl
          (repeat' (first|(simp (disch:=first|exact dqz|fail) only[pgz,simprocAttr,iT,pgE,pgj,pgv,dB,iC,hO2])|(refine tE ?_ ?_<;>intro hc)|(with_reducible refine bH ?_)|(with_reducible refine cK ?_)))
          (refine rT [] ?_;first|rfl|simp only[pgo,simprocAttr]|skip)
     ·refine aK (eu [11,21,23] mix) Tryz.func53 rfl Tryz.results53 rfl (by kernel_rfl) (Nat.le_of_ble_eq_true (by kernel_rfl)) ?_
      (repeat' (first|(simp (disch:=first|exact dqz|fail) only[pgz,simprocAttr,iT,pgE,pgj,pgv,dB,iC])|(refine tC ?_;first|refine cU h1 ?_|refine cU h2 ?_|refine cU h3 ?_)|(refine tE ?_ ?_<;>intro hc)|(with_reducible refine bH ?_)|(with_reducible refine cK ?_)))
      have hl31:∀i,(v.getD i []).length≤1000:=fun i=>by have:=i5 i;omega
      have hfe:FrE 3 (iP [(2,fzb co),(3,vi at'),(4,.ref 0 0),(5,.ref 1 0),(8,.ref 2 0),(37,.agg [vi z,vi t,vi lo,fzl v,.c (.bool true)])]):=by
       refine oJ ?_
       intro x hx
       simp only[List.mem_cons,List.not_mem_nil,or_false] at hx
       rcases hx with rfl|rfl|rfl|rfl|rfl|rfl<;>rfl
      refine sN ⟨iP [(2,fzb co),(3,vi at'),(4,.ref 0 0),(5,.ref 1 0),(8,.ref 2 0),(37,.agg [vi z,vi t,vi lo,fzl v,.c (.bool true)])],B2 z t lo v true z t2 l2 v2 b2,3,fun _ => .top⟩ ?_ rfl (Yz 3 _ z t lo true v (by omega) hl31 _ _ hfe (uU 3) (agx z t lo v true z t2 l2 v2 b2)) rfl ?_
      ·refine gK (gp ?_) (fun c => .inl rfl) (Nat.le_refl _)
       ((try simp only[bu,gB,cO,cu,pgo,simprocAttr,and_true,true_and]);try (repeat' (first|exact trivial|rfl|apply aI)))
      rintro s' r ⟨Lb,cs,n1,q1,q2,q3,rfl,rfl⟩
      have hB0:cpB 3 (B2 z t lo v true z t2 l2 v2 b2) Lb v.length cs 0=some (tRk,[vi z,vi t,vi lo,fzl v,.c (.bool true)]):=by simp [cpB,B2,upd,show ¬0=Lb by omega]
      have hB1:cpB 3 (B2 z t lo v true z t2 l2 v2 b2) Lb v.length cs 1=some (tRk,[vi z,vi t2,vi l2,fzl v2,.c (.bool b2)]):=by simp [cpB,B2,upd,show ¬1=Lb by omega]
      have hB2:cpB 3 (B2 z t lo v true z t2 l2 v2 b2) Lb v.length cs 2=some (tRk,[y0,y0,y0,yn,yf]):=by simp [cpB,B2,upd,show ¬2=Lb by omega]
      (repeat' (first|(simp (disch:=first|exact dqz|fail) only[pgz,simprocAttr,iT,pgE,pgj,pgv,dB,iC,hB0,hB1,hB2])|(refine tE ?_ ?_<;>intro hc)|(with_reducible refine cK ?_)))
      have hLb:Lb≠2:=by omega
      have hR1:RkAt 3 n1 (upd (cpB 3 (B2 z t lo v true z t2 l2 v2 b2) Lb v.length cs) 2 (some (tRk,[vi z,vi t,vi lo,.bs Lb tLs 0 1 v.length,.c (.bool true)]))) 2 Lb z t lo true v cs:=by
       refine⟨if_pos rfl, ?_,q3,by omega,q1,q2,fun c x' k1 k2 hx => ?_⟩
       ·have e1:upd (cpB 3 (B2 z t lo v true z t2 l2 v2 b2) Lb v.length cs) 2 (some (tRk,[vi z,vi t,vi lo,.bs Lb tLs 0 1 v.length,.c (.bool true)])) Lb=if v.length=0 then none else some (tLs,cs):=by
         rw[upd,if_neg hLb];exact if_pos rfl
        rw[e1]
        by_cases hv0:v.length=0
        ·left
         have hvn:=List.eq_nil_of_length_eq_zero hv0
         exact⟨hvn,List.eq_nil_of_length_eq_zero (by rw[q3.len];exact hv0),if_pos hv0⟩
        ·right;exact if_neg hv0
       ·rw[upd,if_neg k1] at hx
        simp only[cpB,if_neg k2] at hx
        split at hx
        ·rename_i hc3;exact⟨hc3,agx z t lo v true z t2 l2 v2 b2 c x' hx⟩
        ·cases hx
      have hfe2:FrE 3 (iP [(2,fzb co),(3,vi at'),(4,.ref 0 0),(5,.ref 1 0),(8,.ref 2 0)]):=by
       refine oJ ?_
       intro x hx
       simp only[List.mem_cons,List.not_mem_nil,or_false] at hx
       rcases hx with rfl|rfl|rfl|rfl|rfl<;>rfl
      by_cases c4:(aO t t2).2=true
      ·rw[if_pos c4]
       refine Yh ((gK (gp (X:=[(2,fzb co),(3,vi at'),(4,.ref 0 0),(5,.ref 1 0),(8,.ref 2 0)]) ?_) (fun c => .inl rfl) (Nat.le_refl _)).trans (YR hR1 hfe2 (uU 3))) ?_
       ·((try simp only[bu,gB,cO,cu,pgo,simprocAttr,and_true,true_and]);try (repeat' (first|exact trivial|rfl|apply aI)))
       have hgt:(t+t2 > 1099511627776)=True:=eq_true (acH (by omega) (by omega) c4)
       have hO0:∀B,Gp 3 B 2 z t lo true v 0=B 0:=fun B=>rfl
       have hO1:∀B,Gp 3 B 2 z t lo true v 1=B 1:=fun B=>rfl
       have hO2:∀B,Gp 3 B 2 z t lo true v 2=some (tRk,[vi z,vi t,vi lo,fzl v,.c (.bool true)]):=fun B=>rfl
       (repeat' (first|(simp (disch:=first|exact dqz|fail) only[pgz,simprocAttr,iT,pgE,pgj,pgv,dB,iC,hO0,hO1,hO2,hB0,hB1,hgt])|(refine tE ?_ ?_<;>intro hc)|(with_reducible refine bH ?_)|(with_reducible refine cK ?_)))
       (refine rT [] ?_;first|rfl|simp only[pgo,simprocAttr]|skip)
      ·rw[if_neg c4]
       have hgt:(t+t2 > 1099511627776)=False:=eq_false (Pz (by omega) (by omega) c4)
       have hil:=fD v2
       refine bH ?_
       (repeat' (first|(simp (disch:=first|exact dqz|fail) only[pgz,simprocAttr,iT,pgE,pgj,pgv,dB,iC,hB0,hB1,hgt,hil])|(refine tC ?_;refine cU k6 ?_)|(refine tE ?_ ?_<;>intro hc)|(with_reducible refine bH ?_)|(with_reducible refine cK ?_)))
       have hav:(aO t t2).1=t+t2:=by rw[CQ (by omega) (by omega),if_neg (Pz (by omega) (by omega) c4)]
       have hset:jh (mF v v2 v2.length) z (aO lo l2).1 co at' 100=O4 ⟨z,t,lo,v,true⟩ ⟨z,t2,l2,v2,b2⟩ co at':=rfl
       rw[hav,←hset]
       have hR2:RkAt 3 n1 (upd (cpB 3 (B2 z t lo v true z t2 l2 v2 b2) Lb v.length cs) 2 (some (tRk,[vi z,vi (t+t2),vi (aO lo l2).1,.bs Lb tLs 0 1 v.length,.c (.bool true)]))) 2 Lb z (t+t2) (aO lo l2).1 true v cs:=by
        have:=hR1.upd2 (z':=z) (t':=t+t2) (l':=(aO lo l2).1) (sat':=true)
        rwa [aiS] at this
       have hsum:=pR lo l2
       refine sO (ι:=Nat × (Nat→Option (TypeId × List V)) × Nat × List V) (fun i=>⟨iP [(2,fzb co),(3,vi at'),(8,.ref 2 0),(71,fzl v2),(72,vi v2.length),(73,vi i.1)],i.2.1,i.2.2.1,fun _ => .top⟩) (fun i=>RkAt 3 i.2.2.1 i.2.1 2 Lb z (t+t2) (aO lo l2).1 true (mF v v2 i.1) i.2.2.2∧i.1≤v2.length) (fun i=>v2.length-i.1) (0,upd (cpB 3 (B2 z t lo v true z t2 l2 v2 b2) Lb v.length cs) 2 (some (tRk,[vi z,vi (t+t2),vi (aO lo l2).1,.bs Lb tLs 0 1 v.length,.c (.bool true)])),n1,cs) ?_ ⟨hR2,Nat.zero_le _⟩ ?_
       ·refine gK (gp ?_) (fun c => .inl (by show upd _ 2 _ c=_;simp only[upd];split<;>rfl)) (by show _≤n1;omega)
        ((try simp only[bu,gB,cO,cu,pgo,simprocAttr,and_true,true_and]);try (repeat' (first|exact trivial|rfl|apply aI)))
       ·rintro⟨i,bx1,n2,cs1⟩ ⟨H1,hi⟩
        simp only at H1 hi
        have hb:=H1.hb
        have hcl:=hlen i (by omega)
        have hcl2:=hle i
        rcases Nat.lt_or_ge i v2.length with hlt|hge
        ·have hg:=nG v2 i hlt
         have hj5:=j5 i
         have hlt2:((i:Int)<(v2.length:Int))=True:=eq_true (by omega)
         (repeat' (first|(simp (disch:=first|exact dqz|fail) only[pgz,simprocAttr,iT,pgE,pgj,pgv,dB,iC,hlt2,hg,hil])|(refine tE ?_ ?_<;>intro hc)|(with_reducible refine cK ?_)))
         have hfe3:FrE 3 (iP [(2,fzb co),(3,vi at'),(8,.ref 2 0),(71,fzl v2),(72,vi v2.length),(73,vi i),(78,vi i),(79,fzs (v2.getD i []))]):=by
          refine oJ ?_
          intro x hx
          simp only[List.mem_cons,List.not_mem_nil,or_false] at hx
          rcases hx with rfl|rfl|rfl|rfl|rfl|rfl|rfl|rfl<;>rfl
         refine sN ⟨iP [(2,fzb co),(3,vi at'),(8,.ref 2 0),(71,fzl v2),(72,vi v2.length),(73,vi i),(78,vi i),(79,fzs (v2.getD i []))],bx1,n2,fun _ => .top⟩ ?_ rfl (Yx H1 i (by omega) (v2.getD i []) (by omega) (by omega) (fun j=>by have:=hcl2 j;split at this<;>omega) _ _ hfe3 (uU 3)) rfl ?_
         ·refine gK (gp ?_) (fun c => .inl rfl) (Nat.le_refl _)
          ((try simp only[bu,gB,cO,cu,pgo,simprocAttr,and_true,true_and]);try (repeat' (first|exact trivial|rfl|apply aI)))
         ·rintro s' r ⟨rfl,n3,cs2,k1,k2,rfl⟩
          have hnx:Ci (mF v v2 i) i (v2.getD i [])=mF v v2 (i+1):=rfl
          rw[hnx] at k2 ⊢
          (repeat' (first|(simp (disch:=first|exact dqz|fail) only[pgz,simprocAttr,iT,pgE,pgj,pgv,dB,iC])|(refine tE ?_ ?_<;>intro hc)|(with_reducible refine bH ?_)|(with_reducible refine cK ?_)))
          refine lY (i+1,rkB 3 bx1 2 Lb z (t+t2) (aO lo l2).1 true (mF v v2 (i+1)) cs2,n3,cs2) ⟨Cf (z':=z) (t':=t+t2) (l':=(aO lo l2).1) (sat':=true) H1 k1 k2,by show i+1≤v2.length;omega⟩ (by show v2.length-(i+1)<v2.length-i;omega) (gK (gp ?_) (fun c => .inl rfl) (Nat.le_refl _))
          ((try simp only[bu,gB,cO,cu,pgo,simprocAttr,and_true,true_and]);try (repeat' (first|exact trivial|rfl|apply aI)))
        ·have hie:i=v2.length:=by omega
         subst hie
         have hlt2:((v2.length:Int)<(v2.length:Int))=False:=eq_false (by omega)
         (repeat' (first|(simp (disch:=first|exact dqz|fail) only[pgz,simprocAttr,iT,pgE,pgj,pgv,dB,iC,hlt2,hil])|(refine tE ?_ ?_<;>intro hc)|(with_reducible refine cK ?_)))
         have hfe3:FrE 3 (iP [(8,.ref 2 0),(82,fzb co),(83,vi at')]):=by
          refine oJ ?_
          intro x hx
          simp only[List.mem_cons,List.not_mem_nil,or_false] at hx
          rcases hx with rfl|rfl|rfl<;>rfl
         refine sN ⟨iP [(8,.ref 2 0),(82,fzb co),(83,vi at')],bx1,n2,fun _ => .top⟩ ?_ rfl (YL H1 co at' 100 (by omega) hco (fun j=>by have:=hcl2 j;split at this<;>omega) (by omega) (by omega) (JL lo l2) c3 _ _ hfe3 (uU 3)) rfl ?_
         ·refine gK (gp ?_) (fun c => .inl rfl) (Nat.le_refl _)
          ((try simp only[bu,gB,cO,cu,pgo,simprocAttr,and_true,true_and]);try (repeat' (first|exact trivial|rfl|apply aI)))
         ·rintro s' r ⟨rfl,n3,cs2,bx2,k1,H3,k3,rfl⟩
          generalize jh (mF v v2 v2.length) z (aO lo l2).1 co at' 100=R at *
          (repeat' (first|(simp (disch:=first|exact dqz|fail) only[pgz,simprocAttr,iT,pgE,pgj,pgv,dB,iC])|(refine tE ?_ ?_<;>intro hc)|(with_reducible refine cK ?_)))
          have hfe4:FrE 3 (iP [(8,.ref 2 0),(9,vi R.2.2.2.1)]):=by
           refine oJ ?_
           intro x hx
           simp only[List.mem_cons,List.not_mem_nil,or_false] at hx
           rcases hx with rfl|rfl<;>rfl
          refine Yh ((gK (gp (X:=[(8,.ref 2 0),(9,vi R.2.2.2.1)]) ?_) (fun c => .inl rfl) (Nat.le_refl _)).trans (YR H3 hfe4 (uU 3))) ?_
          ·((try simp only[bu,gB,cO,cu,pgo,simprocAttr,and_true,true_and]);try (repeat' (first|exact trivial|rfl|apply aI)))
          have hO2:∀l' v',Gp 3 bx2 2 z (t+t2) l' true v' 2=some (tRk,[vi z,vi (t+t2),vi l',fzl v',.c (.bool true)]):=fun _ _=>rfl
          (repeat' (first|(simp (disch:=first|exact dqz|fail) only[pgz,simprocAttr,iT,pgE,pgj,pgv,dB,iC,hO2])|(refine tE ?_ ?_<;>intro hc)|(with_reducible refine bH ?_)|(with_reducible refine cK ?_)))
          (refine rT [] ?_;first|rfl|simp only[pgo,simprocAttr]|skip)
    ·rw[if_pos c3]
     rw[decide_eq_false c3] at h3
     refine Good.fzt (vs:=[.agg [vi 0,vi 0,vi 0,nls,vb false],vi 0,vi 5]) ?_ rfl ⟨xZ,aH _,aH _,trivial⟩
     obtain⟨z,t,lo,v,b⟩:=x
     obtain⟨z2,t2,l2,v2,b2⟩:=y
     have c5:z=z2:=c5
     subst c5
     refine aK (eu [11,21,23] mix) Tryz.func53 rfl Tryz.results53 rfl (by kernel_rfl) (Nat.le_of_ble_eq_true (by kernel_rfl)) ?_
     (repeat' (first|(simp (disch:=first|exact dqz|fail) only[pgz,simprocAttr,iT,pgE,pgj,pgv,dB,iC])|(refine tC ?_;first|refine cU h1 ?_|refine cU h2 ?_|refine cU h3 ?_)|(refine tE ?_ ?_<;>intro hc)|(with_reducible refine bH ?_)|(with_reducible refine cK ?_)))
     (refine rT [] ?_;first|rfl|simp only[pgo,simprocAttr]|skip)
   ·rw[if_pos c5]
    refine Good.fzt (vs:=[.agg [vi 0,vi 0,vi 0,nls,vb false],vi 0,vi 10]) ?_ rfl ⟨xZ,aH _,aH _,trivial⟩
    obtain⟨z,t,lo,v,b⟩:=x
    obtain⟨z2,t2,l2,v2,b2⟩:=y
    have c5':(z=z2)=False:=eq_false c5
    refine aK (eu [11,21,23] mix) Tryz.func53 rfl Tryz.results53 rfl (by kernel_rfl) (Nat.le_of_ble_eq_true (by kernel_rfl)) ?_
    (repeat' (first|(simp (disch:=first|exact dqz|fail) only[pgz,simprocAttr,iT,pgE,pgj,pgv,dB,iC,c5'])|(refine tC ?_;first|refine cU h1 ?_|refine cU h2 ?_|refine cU h3 ?_)|(refine tE ?_ ?_<;>intro hc)|(with_reducible refine bH ?_)|(with_reducible refine cK ?_)))
    (refine rT [] ?_;first|rfl|simp only[pgo,simprocAttr]|skip)
  ·rw[if_pos c2]
   refine Good.fzt (vs:=[.agg [vi 0,vi 0,vi 0,nls,vb false],vi 0,vi (vRk y)]) ?_ rfl ⟨xZ,aH _,aH _,trivial⟩
   obtain⟨z,t,lo,v,b⟩:=x
   obtain⟨z2,t2,l2,v2,b2⟩:=y
   have c2':(vRk ⟨z2,t2,l2,v2,b2⟩=0)=False:=eq_false c2
   refine aK (eu [11,21,23] mix) Tryz.func53 rfl Tryz.results53 rfl (by kernel_rfl) (Nat.le_of_ble_eq_true (by kernel_rfl)) ?_
   (repeat' (first|(simp (disch:=first|exact dqz|fail) only[pgz,simprocAttr,iT,pgE,pgj,pgv,dB,iC,c2'])|(refine tC ?_;first|refine cU h1 ?_|refine cU h2 ?_|refine cU h3 ?_)|(refine tE ?_ ?_<;>intro hc)|(with_reducible refine bH ?_)|(with_reducible refine cK ?_)))
   (refine rT [] ?_;first|rfl|simp only[pgo,simprocAttr]|skip)
 ·rw[if_pos c1]
  refine Good.fzt (vs:=[.agg [vi 0,vi 0,vi 0,nls,vb false],vi 0,vi (vRk x)]) ?_ rfl ⟨xZ,aH _,aH _,trivial⟩
  obtain⟨z,t,lo,v,b⟩:=x
  obtain⟨z2,t2,l2,v2,b2⟩:=y
  have c1':(vRk ⟨z,t,lo,v,b⟩=0)=False:=eq_false c1
  refine aK (eu [11,21,23] mix) Tryz.func53 rfl Tryz.results53 rfl (by kernel_rfl) (Nat.le_of_ble_eq_true (by kernel_rfl)) ?_
  (repeat' (first|(simp (disch:=first|exact dqz|fail) only[pgz,simprocAttr,iT,pgE,pgj,pgv,dB,iC,c1'])|(refine tC ?_;first|refine cU h1 ?_|refine cU h2 ?_|refine cU h3 ?_)|(refine tE ?_ ?_<;>intro hc)|(with_reducible refine bH ?_)|(with_reducible refine cK ?_)))
  (refine rT [] ?_;first|rfl|simp only[pgo,simprocAttr]|skip)
end
theorem ahQ(x y:Rk)(co:List Nat)(at':Int)(hco:oct co)(hv:∀l∈x.v,octL l)(hn:x.v.length≤1000000)(hn2:∀l∈x.v,l.length≤1000000)(hvy:∀l∈y.v,octL l)(hny:y.v.length≤1000000)(hny2:∀l∈y.v,l.length≤1000000) :
  Pg.Good Tryz.prog 53 [.agg (rkF x),.agg (rkF y),fzb co,vi at'] (.tup [.agg (rkF (qE x y co at').1),vi (qE x y co at').2.1,vi (qE x y co at').2.2]):=ade x y co at' hco hv hn hn2 hvy hny hny2
end Go.Proofs.YtiohdbjggmmjcaaGreat
end
namespace Go.Proofs.YtiohdbjggmmjcaaGreat
open Go Go.Pg
def GH(v u:List (List (List Nat)))(n:Nat):List (List (List Nat)):=(List.range n).map fun i=>v.getD i []++u.getD i []
theorem O5(v u:List (List (List Nat)))(n:Nat):(GH v u n).length=n:=by simp [GH]
theorem ahR(v u:List (List (List Nat)))(n:Nat):GH v u n++[v.getD n []++u.getD n []]=GH v u (n+1):=by simp [GH,List.range_succ]
theorem GI(v u:List (List (List Nat)))(j:Nat):∀i,(mF v u i).getD j []=v.getD j []++(if j<i then u.getD j [] else [])
 | 0=>by
  show v.getD j []=_
  rw[if_neg (by omega),List.append_nil]
 | i+1=>by
  have ih:=GI v u j i
  show (Ci (mF v u i) i (u.getD i [])).getD j []=_
  unfold Ci
  rw[yg _ _ _ _ (by rw[xW];omega)]
  split
  ·rename_i h
   subst h
   rw[if_neg (by omega),List.append_nil] at ih
   rw[ih,if_pos (by omega)]
  ·rename_i h
   rw[xX,ih]
   split
   ·rw[if_pos (by omega)]
   ·rw[if_neg (by omega)]
theorem O6(v u:List (List (List Nat))):∀i,(mF v u i).length=max v.length i
 | 0=>by show v.length=_;omega
 | i+1=>by
  show (Ci _ _ _).length=_
  rw[Zp,O6 v u i];omega
theorem ahS(v u:List (List (List Nat))):mF v u u.length=GH v u (max v.length u.length):=by
 apply List.ext_getElem?
 intro j
 have hl:=O6 v u u.length
 by_cases hj:j<max v.length u.length
 ·have h1:=GI v u j u.length
  have h2:(GH v u (max v.length u.length))[j]?=some (v.getD j []++u.getD j []):=by
   unfold GH
   rw[List.getElem?_map,List.getElem?_range hj];rfl
  rw[h2,List.getElem?_eq_getElem (by omega)]
  have h3:(mF v u u.length).getD j []=(mF v u u.length)[j]'(by omega):=by
   rw[List.getD_eq_getElem?_getD,List.getElem?_eq_getElem (by omega)];rfl
  rw[←h3,h1]
  by_cases hu:j<u.length
  ·rw[if_pos hu]
  ·rw[if_neg hu]
   have:u.getD j []=[]:=by rw[List.getD_eq_getElem?_getD,List.getElem?_eq_none (by omega)];rfl
   rw[this]
 ·rw[List.getElem?_eq_none (by omega),List.getElem?_eq_none (by rw[O5];omega)]
theorem SE(x y:Rk)(co:List Nat)(at':Int)(hco:oct co)(hv:∀l∈x.v,octL l)(hn:x.v.length≤1000000)(hn2:∀l∈x.v,l.length≤1000000)(hv':∀l∈y.v,octL l)(hn':y.v.length≤1000000)(hn2':∀l∈y.v,l.length≤1000000) :
  Pg.Good Tryz.prog 59 [.agg (rkF x),.agg (rkF y),fzb co,vi at'] (.tup [.agg (rkF (qE x y co at').1),vi (qE x y co at').2.1,vi (qE x y co at').2.2]):=by
 have h1:=pW x hv hn hn2
 have h2:=pW y hv' hn' hn2'
 have h3:=Jk at'
 unfold qE
 by_cases c1:vRk x=0
 ·rw[if_neg (by omega)]
  rw[c1] at h1
  by_cases c2:vRk y=0
  ·rw[if_neg (by omega)]
   rw[c2] at h2
   by_cases cz:x.z=y.z
   ·rw[if_neg (fun h=>h cz)]
    have hzz:(x.z=y.z)=True:=eq_true cz
    by_cases c3:0≤at'∧at'≤1073741824
    ·rw[if_neg (fun h=>h c3)]
     rw[decide_eq_true c3] at h3
     obtain⟨i1,i2,i3,i4,i5⟩:=Na c1
     obtain⟨k1,k2,k3,k4,k5⟩:=Na c2
     have t1:=qw x.t y.t (by unfold W64;omega) (by unfold W64;omega)
     by_cases c4:(aO x.t y.t).2=true
     ·rw[if_pos c4]
      generalize aO x.t y.t=a at *
      obtain⟨a1,a2⟩:=a
      simp only at c4 t1
      subst c4
      obtain⟨z,t,lo,v,b⟩:=x
      obtain⟨z',t',lo',v',b'⟩:=y
      simp only at *
      refine gI oW Tryz.func59 Tryz.results59 ?_
      (repeat' (first|(simp (disch:=first|exact dqz|fail) only[pgz,simprocAttr,hzz])|((with_reducible show bU _ _ _ _ _ _);first|refine cU h1 ?_|refine cU h2 ?_|refine cU h3 ?_|refine cU t1 ?_)|(refine tS ?_ ?_<;>intro hc)|(with_reducible refine cK ?_)))
      (refine rT [] ?_;first|rfl|simp only[pgo,simprocAttr]|skip)
     ·rw[if_neg c4]
      have e0:=ahS x.v y.v
      have hz31:∀i,((GH x.v y.v (max x.v.length y.v.length)).getD i []).length≤100:=fun i=>by
       rw[←e0,GI]
       have:=i5 i
       have:=k5 i
       rw[List.length_append]
       split
       ·omega
       ·simp only[List.length_nil];omega
      have hst:=RH (GH x.v y.v (max x.v.length y.v.length)) x.z (aO x.l y.l).1 co at' 100 i1.1 hco hz31 (by omega) (by rw[O5];omega) (JL x.l y.l) c3
      have t2:=qw x.l y.l (by unfold W64;omega) (by unfold W64;omega)
      unfold O4
      rw[e0]
      generalize jh (GH x.v y.v (max x.v.length y.v.length)) x.z (aO x.l y.l).1 co at' 100=R at *
      generalize jb R.2.2.2.2.length R.2.2.2.2=T at *
      clear e0 hz31
      generalize aO x.t y.t=a at *
      obtain⟨a1,a2⟩:=a
      generalize aO x.l y.l=q at *
      obtain⟨q1,q2⟩:=q
      simp only at c4 t1 t2 hst
      have c4:a2=false:=by simpa using c4
      subst c4
      obtain⟨z,t,lo,v,b⟩:=x
      obtain⟨z',t',lo',v',b'⟩:=y
      simp only at *
      subst cz
      have hvl:=fD v
      have hvl':=fD v'
      obtain⟨N,hN⟩:∃N,N=max v.length v'.length:=⟨_,rfl⟩
      rw[←hN] at hst
      have hNv:v.length≤N:=by omega
      have hNv':v'.length≤N:=by omega
      have hNm:N≤v.length∨N≤v'.length:=by omega
      have hNl:N≤41:=by omega
      clear hN
      obtain⟨bv,hbv⟩:∃bv,bv=b:=⟨_,rfl⟩
      cases b
      all_goals
       refine gI oW Tryz.func59 Tryz.results59 ?_
       (repeat' (first|(simp (disch:=first|exact dqz|fail) only[pgz,simprocAttr,fD])|((with_reducible show bU _ _ _ _ _ _);first|refine cU h1 ?_|refine cU h2 ?_|refine cU h3 ?_|refine cU t1 ?_)|(refine tS ?_ ?_<;>intro hc)|(with_reducible refine cK ?_)))
       refine df (fun i:Nat=>mkA [(2,fzb co),(3,vi at'),(4,.ref 0 0),(5,.ref 1 0),(8,.ref 2 0),(13,vi a1),(15,.sl (.own 0 98) 1 (lv (GH v v' i))),(16,vi i)] [(0,(39,rkF ⟨z,t,lo,v,bv⟩)),(1,(39,rkF ⟨z,t',lo',v',b'⟩)),(2,(39,[vi 0,vi 0,vi 0,nls,vb false]))] 3 (fun _ => .top)) (fun i=>i≤N) (fun i=>N-i) 0 [] [0,1,2] ?_ (Nat.zero_le _) ?_
       ·(refine dN ?_ ?_ (gu _ _ _) (by decide) (by decide) (by decide) (by decide);(repeat' (first|exact trivial|refine dI _ _ rfl rfl ?_ ?_));all_goals (try simp only[pgs,pgl,pgx,pgf,pgw,di,dL,dm,dM,fA,iO,fO,pgn,simprocAttr]);all_goals (try (repeat' (first|apply aI)));all_goals (try (first|exact trivial|exact dE (by omega)|exact eH rfl|exact bP rfl rfl|exact jq rfl)))
        all_goals first|(exact gG rfl)|(exact eH (by rw[hbv]))|skip
       ·intro i hi
        replace hi:i≤N:=hi
        have hzl:(lv (GH v v' i)).length=i:=by rw[fD,O5]
        have hnx:=ww (GH v v' i) (v.getD i []++v'.getD i [])
        rw[ahR] at hnx
        have hi1:=i5 i
        have hi2:=k5 i
        rcases Nat.lt_or_ge i v.length with hlt|hge
        ·have hg:=nG v i hlt
         have hT1:((i:Int)<(v.length:Int))=True:=eq_true (by omega)
         rcases Nat.lt_or_ge i v'.length with hlt'|hge'
         ·have hg':=nG v' i hlt'
          have hT2:((i:Int)<(v'.length:Int))=True:=eq_true (by omega)
          have hap:=XD (v.getD i []) (v'.getD i [])
          have hsl:=eG (v.getD i [])
          have hsl':=eG (v'.getD i [])
          generalize v.getD i []++v'.getD i []=w at *
          generalize v.getD i []=w1 at *
          generalize v'.getD i []=w2 at *
          (repeat' (first|(simp (disch:=first|exact dqz|fail) only[pgz,simprocAttr,pgv,kN,aP,false_or,Bool.false_eq_true,Option.bind_none,hvl,hvl',hT1,hT2,hg,hg',hap,hsl,hsl',hzl,hnx])|(refine tS ?_ ?_<;>intro hc)|(with_reducible refine cK ?_)))
          (refine dh (i+1) [0] [0,1,2] ((show i+1≤N by omega)) (by first|omega|(simp only[List.length_cons];omega)) ?_;(refine dN ?_ ?_ (gu _ _ _) (by decide) (by decide) (by decide) (by decide);(repeat' (first|exact trivial|refine dI _ _ rfl rfl ?_ ?_));all_goals (try simp only[pgs,pgl,pgx,pgf,pgw,di,dL,dm,dM,fA,iO,fO,pgn,simprocAttr]);all_goals (try (repeat' (first|apply aI)));all_goals (try (first|exact trivial|exact dE (by omega)|exact eH rfl|exact bP rfl rfl|exact jq rfl))))
         ·have hT2:((i:Int)<(v'.length:Int))=False:=eq_false (by omega)
          have he:v'.getD i []=[]:=by rw[List.getD_eq_getElem?_getD,List.getElem?_eq_none (by omega)];rfl
          rw[he,List.append_nil] at hnx
          have hsl:=eG (v.getD i [])
          generalize v.getD i []=w1 at *
          (repeat' (first|(simp (disch:=first|exact dqz|fail) only[pgz,simprocAttr,pgv,kN,aP,false_or,Bool.false_eq_true,Option.bind_none,hvl,hvl',hT1,hT2,hg,hsl,hzl,hnx])|(refine tS ?_ ?_<;>intro hc)|(with_reducible refine cK ?_)))
          (refine dh (i+1) [0] [0,1,2] ((show i+1≤N by omega)) (by first|omega|(simp only[List.length_cons];omega)) ?_;(refine dN ?_ ?_ (gu _ _ _) (by decide) (by decide) (by decide) (by decide);(repeat' (first|exact trivial|refine dI _ _ rfl rfl ?_ ?_));all_goals (try simp only[pgs,pgl,pgx,pgf,pgw,di,dL,dm,dM,fA,iO,fO,pgn,simprocAttr]);all_goals (try (repeat' (first|apply aI)));all_goals (try (first|exact trivial|exact dE (by omega)|exact eH rfl|exact bP rfl rfl|exact jq rfl))))
        ·have hT1:((i:Int)<(v.length:Int))=False:=eq_false (by omega)
         have he:v.getD i []=[]:=by rw[List.getD_eq_getElem?_getD,List.getElem?_eq_none (by omega)];rfl
         rw[he,List.nil_append] at hnx
         rcases Nat.lt_or_ge i v'.length with hlt'|hge'
         ·have hg':=nG v' i hlt'
          have hT2:((i:Int)<(v'.length:Int))=True:=eq_true (by omega)
          have hsl':=eG (v'.getD i [])
          generalize v'.getD i []=w2 at *
          (repeat' (first|(simp (disch:=first|exact dqz|fail) only[pgz,simprocAttr,pgv,kN,aP,false_or,Bool.false_eq_true,Option.bind_none,hvl,hvl',hT1,hT2,hg',hsl',hzl,hnx])|(refine tS ?_ ?_<;>intro hc)|(with_reducible refine cK ?_)))
          (refine dh (i+1) [0] [0,1,2] ((show i+1≤N by omega)) (by first|omega|(simp only[List.length_cons];omega)) ?_;(refine dN ?_ ?_ (gu _ _ _) (by decide) (by decide) (by decide) (by decide);(repeat' (first|exact trivial|refine dI _ _ rfl rfl ?_ ?_));all_goals (try simp only[pgs,pgl,pgx,pgf,pgw,di,dL,dm,dM,fA,iO,fO,pgn,simprocAttr]);all_goals (try (repeat' (first|apply aI)));all_goals (try (first|exact trivial|exact dE (by omega)|exact eH rfl|exact bP rfl rfl|exact jq rfl))))
         ·have hT2:((i:Int)<(v'.length:Int))=False:=eq_false (by omega)
          have:i=N:=by omega
          subst this
          subst hbv
          (repeat' (first|(simp (disch:=first|exact dqz|fail) only[pgz,simprocAttr,pgv,hvl,hvl',hT1,hT2,id_eq.{1}])|((with_reducible show bU _ _ _ _ _ _);first|refine cU t2 ?_|refine cG [0] hst ?_)|(refine tS ?_ ?_<;>intro hc)|(with_reducible refine cK ?_)))
          (refine rT [] ?_;first|rfl|simp only[pgo,simprocAttr]|skip)
    ·rw[if_pos c3]
     rw[decide_eq_false c3] at h3
     refine Good.fzt (vs:=[.agg [vi 0,vi 0,vi 0,nls,vb false],vi 0,vi 5]) ?_ rfl ⟨xZ,aH _,aH _,trivial⟩
     obtain⟨z,t,lo,v,b⟩:=x
     obtain⟨z',t',lo',v',b'⟩:=y
     simp only at *
     refine gI oW Tryz.func59 Tryz.results59 ?_
     (repeat' (first|(simp (disch:=first|exact dqz|fail) only[pgz,simprocAttr,hzz])|((with_reducible show bU _ _ _ _ _ _);first|refine cU h1 ?_|refine cU h2 ?_|refine cU h3 ?_)|(refine tS ?_ ?_<;>intro hc)|(with_reducible refine cK ?_)))
     (refine rT [] ?_;first|rfl|simp only[pgo,simprocAttr]|skip)
   ·rw[if_pos cz]
    have hzz:(x.z=y.z)=False:=eq_false cz
    refine Good.fzt (vs:=[.agg [vi 0,vi 0,vi 0,nls,vb false],vi 0,vi 10]) ?_ rfl ⟨xZ,aH _,aH _,trivial⟩
    obtain⟨z,t,lo,v,b⟩:=x
    obtain⟨z',t',lo',v',b'⟩:=y
    simp only at *
    refine gI oW Tryz.func59 Tryz.results59 ?_
    (repeat' (first|(simp (disch:=first|exact dqz|fail) only[pgz,simprocAttr,hzz])|((with_reducible show bU _ _ _ _ _ _);first|refine cU h1 ?_|refine cU h2 ?_|refine cU h3 ?_)|(refine tS ?_ ?_<;>intro hc)|(with_reducible refine cK ?_)))
    (refine rT [] ?_;first|rfl|simp only[pgo,simprocAttr]|skip)
  ·rw[if_pos (by omega)]
   refine Good.fzt (vs:=[.agg [vi 0,vi 0,vi 0,nls,vb false],vi 0,vi (vRk y)]) ?_ rfl ⟨xZ,aH _,aH _,trivial⟩
   refine gI oW Tryz.func59 Tryz.results59 ?_
   (repeat' (first|(simp (disch:=first|exact dqz|fail) only[pgz,simprocAttr])|((with_reducible show bU _ _ _ _ _ _);first|refine cU h1 ?_|refine cU h2 ?_)|(refine tS ?_ ?_<;>intro hc)|(with_reducible refine cK ?_)))
   (refine rT [] ?_;first|rfl|simp only[pgo,simprocAttr]|skip)
 ·rw[if_pos (by omega)]
  refine Good.fzt (vs:=[.agg [vi 0,vi 0,vi 0,nls,vb false],vi 0,vi (vRk x)]) ?_ rfl ⟨xZ,aH _,aH _,trivial⟩
  refine gI oW Tryz.func59 Tryz.results59 ?_
  (repeat' (first|(simp (disch:=first|exact dqz|fail) only[pgz,simprocAttr])|((with_reducible show bU _ _ _ _ _ _);refine cU h1 ?_)|(refine tS ?_ ?_<;>intro hc)|(with_reducible refine cK ?_)))
  (refine rT [] ?_;first|rfl|simp only[pgo,simprocAttr]|skip)
end Go.Proofs.YtiohdbjggmmjcaaGreat
section
namespace Go.Pg
open Go
section
variable {P:Program} [Tb P] {s:St} {d:Option Nat} {ty:TypeId} {pos:String} {af:Array Edge} {g:Option (Nat × Bool)} {K:Kd→St→Prop}
end
end Go.Pg
end
namespace Go.Proofs.YtiohdbjggmmjcaaGreat
open Go Go.Pg
theorem Np(c:Cm)(h0:0<c.c.length)(hn:c.c.length≤1000000):Pg.Good Tryz.prog 69 [.agg (cmF c)] (.agg [vi c.d,vi c.z,vu c.s,.sl (.own 0 3) 1 (iv c.c),vb c.b]):=by
 have hil:=aZ c.c
 refine gI oW Tryz.func69 Tryz.results69 ?_
 (repeat' (first|(simp (disch:=first|exact dqz|fail) only[pgz,simprocAttr,aZ])|(refine tS ?_ ?_<;>intro hc)|(with_reducible refine cK ?_)))
 (refine rT [3] ?_;first|rfl|simp only[pgo,simprocAttr]|skip)
end Go.Proofs.YtiohdbjggmmjcaaGreat
