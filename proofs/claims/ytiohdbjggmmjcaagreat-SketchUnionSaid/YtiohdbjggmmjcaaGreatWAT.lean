/-
  Merged texts.
-/
import Derived.Test.YtiohdbjggmmjcaaGreatWAS
import Derived.Test.YtiohdbjggmmjcaaGreatWAP
import Derived.Test.YtiohdbjggmmjcaaGreatWAR
set_option linter.unusedVariables false
set_option linter.unusedSimpArgs false
set_option linter.unusedSectionVars false
set_option linter.defProp false
set_option maxRecDepth 100000
set_option maxHeartbeats 8000000
namespace Go.Proofs.YtiohdbjggmmjcaaGreat
open Go Go.Pg
def dJ(w:Int)(l:List En):Int:=l.foldl (fun m e=>min m e.2.1) w
theorem zX(l:List En):∀w,dJ w l≤w:=by
 induction l with
 | nil=>intro w;exact Int.le_refl _
 | cons e l ih=>intro w;have:=ih (min w e.2.1);simp only[dJ,List.foldl_cons] at *;omega
theorem zY(l:List En)(h:cin l):∀w,1≤w→1≤dJ w l:=by
 induction l with
 | nil=>intro w hw;exact hw
 | cons e l ih =>
  intro w hw
  have h1:=h e (by simp)
  have:=ih (fun e he=>h e (by simp [he])) (min w e.2.1) (by omega)
  simpa only[dJ,List.foldl_cons] using this
theorem xU(w:Int)(l:List En)(i:Nat)(h:i<l.length):dJ w (l.take (i+1))=min (dJ w (l.take i)) (l.getD i ([],0,0)).2.1:=by
 rw[List.take_succ_eq_append_getElem h]
 unfold dJ
 rw[List.foldl_append]
 simp [List.getD,h]
def dQ(t:Fq)(k:List Nat)(w:Int):List En × Int × Bool :=
 if 0≤bi t.e k then (t.e.set (bi t.e k).toNat ((t.e.getD (bi t.e k).toNat eD).1,(aO (t.e.getD (bi t.e k).toNat eD).2.1 w).1,(t.e.getD (bi t.e k).toNat eD).2.2),t.l,(aO (t.e.getD (bi t.e k).toNat eD).2.1 w).2)
 else if (t.e.length:Int)<t.z then (tH (k,w,0) t.e,t.l,false)
 else (if w > dJ w t.e then tH (k,w-dJ w t.e,0) (iU (dJ w t.e) t.e) else iU (dJ w t.e) t.e,(aO t.l (dJ w t.e)).1,(aO t.l (dJ w t.e)).2)
def lU(t:Fq)(k:List Nat)(w:Int):Fq × Int :=
 if vFq t≠0 then (Fq.o,vFq t) else if bT k w≠0 then (Fq.o,bT k w) else (⟨t.z,(aO t.t w).1,(dQ t k w).2.1,(dQ t k w).1,t.b||(aO t.t w).2||(dQ t k w).2.2⟩,0)
theorem sF{l:List En}{i:Nat}(h:oC l i=0):iQ (l.getD i eD).1=true∧(1≤(l.getD i eD).2.1∧(l.getD i eD).2.1≤1099511627776)∧(l.getD i eD).2.2=0:=by
 unfold oC at h
 split at h
 ·cases h
 ·rename_i h1
  split at h
  ·cases h
  ·rename_i h2
   have h2:=Classical.byContradiction h2
   exact⟨by simpa using h1,h2.1,h2.2⟩
theorem jW{t:Fq}(h:vFq t=0):(1≤t.z∧t.z≤32)∧(0≤t.t∧t.t≤1099511627776)∧(0≤t.l∧t.l≤1099511627776)∧(t.e.length:Int)≤t.z∧∀i,i<t.e.length→oC t.e i=0:=by
 unfold vFq at h
 split at h
 ·cases h
 ·rename_i h1
  split at h
  ·cases h
  ·rename_i h2
   have h1:=Classical.byContradiction h1
   exact⟨h1.1,h1.2.1,h1.2.2,by omega,fun i hi=>MW _ _ _ h i (Nat.zero_le _) (by omega)⟩
theorem MX{l:List En}(h:∀i,i<l.length→oC l i=0):cin l:=by
 intro e he
 obtain⟨i,hi,rfl⟩:=List.getElem_of_mem he
 have:=(sF (h i hi)).2.1
 simpa [List.getD,hi] using this
theorem FN:wkV (.agg [vi 0,vi 0,vi 0,nls,vb false]) (.agg (fqF Fq.o)) := .inr ⟨_,_,rfl,rfl,⟨.inl rfl,.inl rfl,.inl rfl,o5 _ _,.inl rfl,trivial⟩⟩
theorem wJ(x:Fq)(k:List Nat)(w:Int)(ho:oct k)(hx:octE x.e)(hn:x.e.length≤1000000):Gxx 38 [.agg (fqF x),.agg [vs k,vi w]] (.tup [.agg (fqF (lU x k w).1),vi (lU x k w).2]):=by
 have h1:=mf x hx hn
 have h2:=dn k w
 unfold lU
 by_cases c1:vFq x=0
 ·rw[if_neg (by omega)]
  rw[c1] at h1
  by_cases c2:bT k w=0
  ·rw[if_neg (by omega)]
   rw[c2] at h2
   obtain⟨i1,i2,i2',i3,i4⟩:=jW c1
   have hcin:=MX i4
   obtain⟨j1,j2⟩:=fU c2
   have hw:W64 w:=by unfold W64;omega
   have k1:=qw x.t w (by unfold W64;omega) hw
   have k2:=FI x.e k hx ho (by omega)
   have hfr:=lQ x.e k
   refine Good.fzt (vs:=[.agg [vi x.z,vi (aO x.t w).1,vi (dQ x k w).2.1,.sl (.own 0 119) 3 (ev (dQ x k w).1),vb (x.b||(aO x.t w).2||(dQ x k w).2.2)],vi 0]) ?_ rfl ⟨aH _,aH _,trivial⟩
   have hel:=aG x.e
   by_cases q1:0≤bi x.e k
   ·have ei:dQ x k w=(x.e.set (bi x.e k).toNat ((x.e.getD (bi x.e k).toNat eD).1,(aO (x.e.getD (bi x.e k).toNat eD).2.1 w).1,(x.e.getD (bi x.e k).toNat eD).2.2),x.l,(aO (x.e.getD (bi x.e k).toNat eD).2.1 w).2):=if_pos q1
    rw[ei]
    have hlt:(bi x.e k).toNat<x.e.length:=by omega
    have hg:=eY x.e (bi x.e k).toNat hlt
    have her:=sF (i4 _ hlt)
    have k3:=qw (x.e.getD (bi x.e k).toNat eD).2.1 w (by unfold W64;omega) hw
    generalize x.e.getD (bi x.e k).toNat eD=y at *
    obtain⟨yk,yc,ye⟩:=y
    simp only at hg her k3 ⊢
    have hes:=o6 x.e (bi x.e k).toNat yk (aO yc w).1 ye
    generalize hes2:x.e.set (bi x.e k).toNat (yk,(aO yc w).1,ye)=e2 at *
    generalize bi x.e k=fi at *
    generalize aO x.t w=a at *
    generalize aO yc w=a' at *
    obtain⟨a1,a2⟩:=a
    obtain⟨b1,b2⟩:=a'
    simp only at k1 k3 hes ⊢
    obtain⟨z,t,lo,l,b⟩:=x
    simp only at *
    refine gI oD Tryz.func38 Tryz.results38 ?_
    exact wRA (aI @aG (aI @hg @hes)) (aI h1 (aI h2 (aI k1 (aI k2 k3)))) (ids [11])
   ·by_cases q2:(x.e.length:Int)<x.z
    ·have ei:dQ x k w=(tH (k,w,0) x.e,x.l,false):=by unfold dQ;rw[if_neg q1,if_pos q2]
     rw[ei]
     have hso:=Eb x.e (k,w,0) hn
     have hfl:=pM 0 119 3 (tH (k,w,0) x.e)
     generalize tH (k,w,0) x.e=e2 at *
     generalize bi x.e k=fi at *
     generalize aO x.t w=a at *
     obtain⟨a1,a2⟩:=a
     simp only at k1 hso ⊢
     obtain⟨z,t,lo,l,b⟩:=x
     simp only at *
     refine gI oD Tryz.func38 Tryz.results38 ?_
     (repeat' first|refine wPA @aG (aI h1 (aI h2 (aI k1 k2))) ?_|refine cF hso hfl ?_|refine tS ?_ ?_<;>intro hc|fail)
     all_goals exact rE [15]
    ·have ei:dQ x k w=(if w > dJ w x.e then tH (k,w-dJ w x.e,0) (iU (dJ w x.e) x.e) else iU (dJ w x.e) x.e,(aO x.l (dJ w x.e)).1,(aO x.l (dJ w x.e)).2):=by unfold dQ;rw[if_neg q1,if_neg q2]
     rw[ei]
     have hmle:=zX x.e w
     have hmge:=zY x.e hcin w (by omega)
     have hlo:=RG x.e (dJ w x.e) hcin (by omega) hn
     have hlf:=pM 0 119 3 (iU (dJ w x.e) x.e)
     have hll:=BF (dJ w x.e) x.e
     have hso:=Eb (iU (dJ w x.e) x.e) (k,w-dJ w x.e,0) (by omega)
     have hfl:=pM 0 119 3 (tH (k,w-dJ w x.e,0) (iU (dJ w x.e) x.e))
     have k3:=qw x.l (dJ w x.e) (by unfold W64;omega) (by unfold W64;omega)
     have hmt:=fun i (hi:i<x.e.length)=>xU w x.e i hi
     have hm0:dJ w (x.e.take 0)=w:=by simp [dJ]
     have hmN:dJ w (x.e.take x.e.length)=dJ w x.e:=by rw[List.take_length]
     have hmle2:=fun i=>zX (x.e.take i) w
     have hmge2:=fun i=>zY (x.e.take i) (fun e he=>hcin e (List.mem_of_mem_take he)) w (by omega)
     generalize tH (k,w-dJ w x.e,0) (iU (dJ w x.e) x.e)=e3 at *
     generalize iU (dJ w x.e) x.e=e2 at *
     generalize bi x.e k=fi at *
     generalize aO x.t w=a at *
     generalize aO x.l (dJ w x.e)=a' at *
     obtain⟨a1,a2⟩:=a
     obtain⟨b1,b2⟩:=a'
     simp only at k1 k3 hso ⊢
     obtain⟨z,t,lo,l,b⟩:=x
     simp only at *
     cases b
     ·refine gI oD Tryz.func38 Tryz.results38 ?_
      refine wSA @aG (aI h1 (aI h2 (aI k1 k2))) ?_
      refine df (fun i:Nat=>mkA [(3,.ref 0 0),(4,.ref 1 0),(8,.ref 2 0),(12,vi (dJ w (l.take i))),(13,vi i)] [(0,(45,[vs k,vi w])),(1,(36,[vi 0,vi 0,vi 0,nls,vb false])),(2,(36,[vi z,vi a1,vi lo,.sl (.own 0 119) 3 (ev l),vb a2]))] 3 (fun _ => .top)) (fun i=>i≤l.length) (fun i=>l.length-i) 0 [11] [1,2,13] ?_ (Nat.zero_le _) ?_
      ·(refine dN ?_ ?_ (gu _ _ _) (by decide) (by decide) (by decide) (by decide);(repeat' (first|exact trivial|refine dI _ _ rfl rfl ?_ ?_));all_goals (try simp only[pgs,pgl,pgx,pgf,pgw,di,dL,dm,dM,qc,iO,fO,pgn,simprocAttr]);all_goals (try (repeat' (first|apply aI)));all_goals (try (first|exact trivial|exact dE (by omega)|exact eH rfl|exact bP rfl rfl|exact jq rfl)))
       all_goals first|exact dE (by rw[hm0])|skip
      ·intro i hi
       replace hi:i≤l.length:=hi
       rcases Nat.lt_or_ge i l.length with hlt|hge
       ·have hg:=eY l i hlt
        have hmi:=hmt i hlt
        generalize l.getD i ([],0,0)=y at *
        obtain⟨yk,yc,ye⟩:=y
        simp only at hg hmi
        refine wSA (aI @aG @hg) trivial ?_
        exact bE (i+1) [0] [0,1,2] hlt
       ·have:i=l.length:=by omega
        subst this
        rw[hmN]
        by_cases q3:w > dJ w l
        ·rw[if_pos q3]
         (repeat' first|refine wPA @aG k3 ?_|refine cF hlo hlf ?_|refine cF hso hfl ?_|refine tS ?_ ?_<;>intro hc|fail)
         all_goals exact rE [4]
        ·rw[if_neg q3]
         (repeat' first|refine wPA @aG k3 ?_|refine cF hlo hlf ?_|refine tS ?_ ?_<;>intro hc|fail)
         all_goals exact rE [3]
     ·refine gI oD Tryz.func38 Tryz.results38 ?_
      refine wSA @aG (aI h1 (aI h2 (aI k1 k2))) ?_
      refine df (fun i:Nat=>mkA [(3,.ref 0 0),(4,.ref 1 0),(8,.ref 2 0),(12,vi (dJ w (l.take i))),(13,vi i)] [(0,(45,[vs k,vi w])),(1,(36,[vi 0,vi 0,vi 0,nls,vb false])),(2,(36,[vi z,vi a1,vi lo,.sl (.own 0 119) 3 (ev l),vb true]))] 3 (fun _ => .top)) (fun i=>i≤l.length) (fun i=>l.length-i) 0 [11] [1,2,13] ?_ (Nat.zero_le _) ?_
      ·(refine dN ?_ ?_ (gu _ _ _) (by decide) (by decide) (by decide) (by decide);(repeat' (first|exact trivial|refine dI _ _ rfl rfl ?_ ?_));all_goals (try simp only[pgs,pgl,pgx,pgf,pgw,di,dL,dm,dM,qc,iO,fO,pgn,simprocAttr]);all_goals (try (repeat' (first|apply aI)));all_goals (try (first|exact trivial|exact dE (by omega)|exact eH rfl|exact bP rfl rfl|exact jq rfl)))
       all_goals first|exact dE (by rw[hm0])|skip
      ·intro i hi
       replace hi:i≤l.length:=hi
       rcases Nat.lt_or_ge i l.length with hlt|hge
       ·have hg:=eY l i hlt
        have hmi:=hmt i hlt
        generalize l.getD i ([],0,0)=y at *
        obtain⟨yk,yc,ye⟩:=y
        simp only at hg hmi
        refine wSA (aI @aG @hg) trivial ?_
        exact bE (i+1) [0] [0,1,2] hlt
       ·have:i=l.length:=by omega
        subst this
        rw[hmN]
        by_cases q3:w > dJ w l
        ·rw[if_pos q3]
         (repeat' first|refine wPA @aG k3 ?_|refine cF hlo hlf ?_|refine cF hso hfl ?_|refine tS ?_ ?_<;>intro hc|fail)
         all_goals exact rE [4]
        ·rw[if_neg q3]
         (repeat' first|refine wPA @aG k3 ?_|refine cF hlo hlf ?_|refine tS ?_ ?_<;>intro hc|fail)
         all_goals exact rE [3]
  ·rw[if_pos (by omega)]
   refine Good.fzt (vs:=[.agg [vi 0,vi 0,vi 0,nls,vb false],vi (bT k w)]) ?_ rfl ⟨FN,aH _,trivial⟩
   refine gI oD Tryz.func38 Tryz.results38 ?_
   exact wRA trivial (aI h1 h2) ay
 ·rw[if_pos (by omega)]
  refine Good.fzt (vs:=[.agg [vi 0,vi 0,vi 0,nls,vb false],vi (vFq x)]) ?_ rfl ⟨FN,aH _,trivial⟩
  refine gI oD Tryz.func38 Tryz.results38 ?_
  exact wRA trivial h1 ay
theorem svS(l:List (List Nat))(x:List Nat):sv l++[V.c (.string (sB x))]=sv (l++[x]):=by simp [sv]
theorem XA(l:List (List Nat))(i:Nat)(k:List Nat):(sv l).set i (vs k)=sv (l.set i k):=by simp [sv,List.map_set]
theorem OU(l:List (List Nat))(n:Nat):(sv l).drop n=sv (l.drop n):=by simp [sv,List.map_drop]
theorem BG(l:List (List Nat))(hn:l.length≤1000000):Gxx 155 [fzs l] (.sl (.own 0 9) 1 (sv (srt kl l))):=by
 have hel:=eG l
 refine gI oW Tryz.func155 Tryz.results155 ?_
 refine wS trivial trivial ?_
 refine df (fun x:Nat × List (List Nat)=>mkA [(0,fzs l),(3,.sl (.own 0 9) 1 (sv x.2.reverse)),(4,vi x.1)] [] 1 (fun _ => .top)) (fun x=>x.1≤l.length∧x.2.length=x.1∧uQ kl x.2 (l.drop x.1)=uQ kl [] l) (fun x=>l.length-x.1) (0,[]) [] [] ?_ ⟨Nat.zero_le _,rfl,rfl⟩ ?_
 ·exact kE
  all_goals first|exact gG rfl|skip
 ·rintro⟨i,acc⟩ ⟨hi,ha,hs⟩
  simp only at hi ha hs
  have hal:(sv acc.reverse).length=i:=by rw[eG,List.length_reverse,ha]
  rcases Nat.lt_or_ge i l.length with hlt|hge
  ·rw[iR l i [] hlt] at hs
   have hg:=lV l i hlt
   generalize l.getD i []=x at *
   have hsn:sv acc.reverse++[vs x]=sv (mov acc x []):=by rw[svS];unfold mov;rfl
   have hml:(sv (mov acc x [])).length=i+1:=by rw[eG,zV,ha];rfl
   (repeat' (first|(simp (disch:=first|exact dqz|fail) only[pgz,simprocAttr,hg,eG,hsn,hml,hal])|((with_reducible first|apply aj|apply ai|apply ak)<;>intro hc<;>(try simp only[hc])<;>(try simp only[pgd] at hc))|(with_reducible refine cK ?_)))
   refine df (fun y:List (List Nat) × List (List Nat)=>mkA [(0,fzs l),(3,.sl (.own 0 9) 1 (sv (mov y.1 x y.2))),(4,vi i),(5,vi y.1.length)] [] 1 (fun _ => .top)) (fun y=>y.1.length+y.2.length=i∧(lS kl x y.1).reverse++y.2=(lS kl x acc).reverse) (fun y=>y.1.length) (acc,[]) [0] [] ?_ ⟨by simp [ha],by simp⟩ ?_
   ·(refine dN ?_ ?_ (gu _ _ _) (by decide) (by decide) (by decide) (by decide);(repeat' (first|exact trivial|refine dI _ _ rfl rfl ?_ ?_));all_goals (try simp only[pgs,pgl,pgx,pgf,pgw,di,dL,dm,dM,qc,iO,fO,pgn,simprocAttr]);all_goals (try (repeat' (first|apply aI)));all_goals (try (first|exact trivial|exact dE (by omega)|exact eH rfl|exact bP rfl rfl|exact jq rfl)))
    all_goals exact dE (by omega)
   ·rintro⟨p,t⟩ ⟨hp1,hp2⟩
    simp only at hp1 hp2
    have hmp:=zV p x t
    have hmp2:(sv (mov p x t)).length=i+1:=by rw[eG,hmp];omega
    cases p with
    | nil =>
     rw[zW kl [] x t (.inl rfl)] at hp2
     refine wS @hmp2 trivial ?_
     refine dh (i+1,lS kl x acc) [0] [] ⟨hlt,by simp only;rw[rY,ha],by simp only;rw[←hs];rfl⟩ (by show l.length-(i+1)<l.length-i;omega) ?_
     refine kL ?_
     all_goals exact bP rfl (by rw[hp2])
    | cons y p =>
     have g1:=lV (mov (y::p) x t) (p.length+1) (by rw[hmp];simp only[List.length_cons];omega)
     have g2:=lV (mov (y::p) x t) p.length (by rw[hmp];simp only[List.length_cons];omega)
     have m1:(mov (y::p) x t).getD (p.length+1) []=x:=Xw (y::p) x t _
     rw[m1] at g1
     rw[OQ] at g2
     have hi1:(((y::p).length:Nat):Int)=(p.length:Int)+1:=by simp
     have hi2:((p.length:Int)+1).toNat=p.length+1:=by omega
     have hi3:((p.length:Int)+1-1)=(p.length:Int):=by omega
     cases hbf:kl x y
     ·rw[zW kl (y::p) x t (.inr ⟨y,p,rfl,hbf⟩)] at hp2
      refine wS (aI @hi1 (aI @hi2 (aI @hi3 (aI @hmp2 (aI @g1 (aI @g2 (aI @kH @hbf))))))) trivial ?_
      refine dh (i+1,lS kl x acc) [0] [] ⟨hlt,by simp only;rw[rY,ha],by simp only;rw[←hs];rfl⟩ (by show l.length-(i+1)<l.length-i;omega) ?_
      refine kL ?_
      all_goals exact bP rfl (by rw[hp2])
     ·rw[Xx kl y p x t hbf] at hp2
      have hsw:=Ji y p x t
      have hs1:(sv (mov (y::p) x t)).set (p.length+1) (vs y)=sv ((mov (y::p) x t).set (p.length+1) y):=XA _ _ _
      have hs2:(sv ((mov (y::p) x t).set (p.length+1) y)).set p.length (vs x)=sv (mov p x (y::t)):=by
       rw[XA]
       exact congrArg sv hsw
      have hl1:(sv ((mov (y::p) x t).set (p.length+1) y)).length=i+1:=by rw[eG,List.length_set,hmp];simp only[List.length_cons] at hp1 ⊢;omega
      have hg3:(sv ((mov (y::p) x t).set (p.length+1) y))[p.length]?=some (vs y):=by rw[←hs1,List.getElem?_set_ne (by omega),g2]
      generalize (mov (y::p) x t).set (p.length+1) y=mm at hs1 hs2 hl1 hg3
      refine wS (aI @hi1 (aI @hi2 (aI @hi3 (aI @hmp2 (aI @g1 (aI @g2 (aI @hs1 (aI @hs2 (aI @hl1 (aI @hg3 (aI @kH @hbf))))))))))) trivial ?_
      refine dh (p,y::t) [0] [] ⟨by simp only[List.length_cons] at hp1 ⊢;omega,hp2⟩ (by show p.length<(y::p).length;simp) ?_
      refine kL ?_
      all_goals (simp only[pgo,hs1,hs2];first|exact trivial|exact bP rfl rfl)
  ·have:i=l.length:=by omega
   subst this
   rw[List.drop_length] at hs
   have hs':acc=uQ kl [] l:=hs
   refine wS @eG trivial ?_
   (refine rT [0] ?_;first|rfl|simp only[pgo,simprocAttr]|skip)
   all_goals (unfold srt;rw[hs'];rfl)
theorem Jk(n:Int):Gxx 111 [vi n] (vb (decide (0≤n∧n≤1073741824))):=by
 by_cases h1:0≤n
 ·by_cases h2:n≤1073741824
  ·rw[decide_eq_true ⟨h1,h2⟩]
   refine gI oW Tryz.func111 Tryz.results111 ?_
   exact wR trivial trivial ay
  ·rw[decide_eq_false (by omega)]
   refine gI oW Tryz.func111 Tryz.results111 ?_
   exact wR trivial trivial ay
 ·rw[decide_eq_false (by omega)]
  refine gI oW Tryz.func111 Tryz.results111 ?_
  exact wR trivial trivial ay
def wK(l:List (List Nat))(i:Nat):Int:=if iQ (l.getD i [])=false then 7 else if 0<i∧kl (l.getD i []) (l.getD (i-1) [])=true then 19 else 0
def nI(z:Int)(v:List (List (List Nat)))(h:Nat):Int:=if ((v.getD h []).length:Int)≥z then 11 else lT (wK (v.getD h [])) (v.getD h []).length 0
def unR(v:List (List (List Nat))):Nat→Int
 | 0=>0
 | n+1=>unR v n+(v.getD n []).length*2^n
def Jl(t:Int)(v:List (List (List Nat))):Int:=if 0<v.length∧(v.getD (v.length-1) []).length=0 then 18 else if unR v v.length≠t then 17 else 0
def vRk(x:Rk):Int:=if ¬(((2≤x.z∧x.z≤32)∧x.z%2=0)∧(0≤x.t∧x.t≤1099511627776)∧(0≤x.l∧x.l≤1099511627776)) then 5 else if x.v.length > 41 then 11
 else if lT (nI x.z x.v) x.v.length 0≠0 then lT (nI x.z x.v) x.v.length 0 else Jl x.t x.v
def octL(l:List (List Nat)):Prop:=∀e∈l,oct e
theorem sG{l:List (List Nat)}(h:octL l)(i:Nat):oct (l.getD i []):=by
 rcases Nat.lt_or_ge i l.length with hi|hi
 ·have:l.getD i []=l[i]:=by simp [List.getD,hi]
  rw[this];exact h _ (List.getElem_mem hi)
 ·have:l.getD i []=[]:=by simp [List.getD,hi]
  rw[this];exact EY
theorem XB(v:List (List (List Nat)))(n:Nat)(hn:n≤41)(h:∀i,i<n→(v.getD i []).length<32):0≤unR v n∧unR v n≤n*35184372088832:=by
 induction n with
 | zero=>exact⟨Int.le_refl _,Int.le_refl _⟩
 | succ n ih =>
  obtain⟨h1,h2⟩:=ih (by omega) (fun i hi=>h i (by omega))
  have h3:=h n (by omega)
  have h4:2^n≤2^40:=Nat.pow_le_pow_right (by decide) (by omega)
  have h5:(v.getD n []).length*2^n≤32*2^40:=Nat.mul_le_mul (by omega) h4
  have h6:(((v.getD n []).length*2^n:Nat):Int)=((v.getD n []).length:Int)*2^n:=by simp
  simp only[unR]
  rw[←h6]
  generalize (v.getD n []).length*2^n=m at *
  omega
theorem XC(l n:Nat)(hl:l<32)(hn:n≤40):IntKind.i64.wrap ((l:Int)*2^min n IntKind.i64.bits)=(l:Int)*2^n∧0≤(l:Int)*2^n∧(l:Int)*2^n≤35184372088832:=by
 have h4:2^n≤2^40:=Nat.pow_le_pow_right (by decide) hn
 have h5:l*2^n≤32*2^40:=Nat.mul_le_mul (by omega) h4
 have h6:((l*2^n:Nat):Int)=(l:Int)*2^n:=by simp
 have h7:min n IntKind.i64.bits=n:=Nat.min_eq_left (show n≤64 by omega)
 rw[h7,←h6]
 generalize l*2^n=m at *
 refine⟨?_,by omega,by omega⟩
 exact WE _ (by omega) (by omega)
theorem pW(x:Rk)(hv:∀l∈x.v,octL l)(hn:x.v.length≤1000000)(hn2:∀l∈x.v,l.length≤1000000):Gxx 98 [.agg (rkF x)] (vi (vRk x)):=by
 obtain⟨z,t,lo,v,b⟩:=x
 simp only at hv hn hn2
 have hv':∀i,octL (v.getD i []):=fun i=>by
  rcases Nat.lt_or_ge i v.length with hi|hi
  ·have:v.getD i []=v[i]:=by simp [List.getD,hi]
   rw[this];exact hv _ (List.getElem_mem hi)
  ·have:v.getD i []=[]:=by simp [List.getD,hi]
   rw[this];intro e he;cases he
 unfold vRk
 simp only
 have hel:=fD v
 by_cases c1:((2≤z∧z≤32)∧z%2=0)∧(0≤t∧t≤1099511627776)∧(0≤lo∧lo≤1099511627776)
 ·rw[if_neg (fun h=>h c1)]
  have k1:=bG z 2 32 c1.1.1
  have k2:=bG t 0 1099511627776 c1.2.1
  have k2':=bG lo 0 1099511627776 c1.2.2
  have et:z.tmod 2=z%2:=Int.tmod_eq_emod_of_nonneg (by omega)
  by_cases c2:v.length > 41
  ·rw[if_pos c2]
   refine gI oW Tryz.func98 Tryz.results98 ?_
   exact wR (aI @fD @et) (aI k1 (aI k2 k2')) ay
  ·rw[if_neg c2]
   refine gI oW Tryz.func98 Tryz.results98 ?_
   refine wS (aI @fD @et) (aI k1 (aI k2 k2')) ?_
   generalize hE:lT (nI z v) v.length 0=E
   generalize hR:(if E≠0 then E else Jl t v)=R
   refine df (fun i:Nat=>mkA [(1,.ref 0 0),(3,vi (unR v i)),(4,vi i)] [(0,(39,rkF ⟨z,t,lo,v,b⟩))] 1 (fun _ => .top)) (fun i=>i≤v.length∧lT (nI z v) (v.length-i) i=E∧∀j,j<i→(v.getD j []).length<32) (fun i=>v.length-i) 0 [] [0] ?_ ⟨Nat.zero_le _,hE,fun j hj=>by omega⟩ ?_
   ·exact kE
    all_goals first|exact dE rfl|skip
   ·rintro h ⟨hi,he,hlt32⟩
    rcases Nat.lt_or_ge h v.length with hlt|hge
    ·have hg:=nG v h hlt
     have hoct:=hv' h
     have hun:=XB v h (by omega) hlt32
     rw[show v.length-h=(v.length-(h+1))+1 by omega] at he
     have eRk:nI z v h=if ((v.getD h []).length:Int)≥z then 11 else lT (wK (v.getD h [])) (v.getD h []).length 0:=rfl
     have eun:unR v (h+1)=unR v h+(v.getD h []).length*2^h:=rfl
     have ext:∀c:Int,c≠0→nI z v h=c→c=R:=fun c h0 h1=>by
      rw[qp _ _ _ (by omega)] at he
      rw[←hR,←he,h1,if_pos h0]
     have hlt32':(v.getD h []).length<32→∀j,j<h+1→(v.getD j []).length<32:=fun h0 j hj=>by
      rcases Nat.lt_or_ge j h with h1|h1
      ·exact hlt32 j h1
      ·have:j=h:=by omega
       rw[this];exact h0
     generalize hlev:v.getD h []=lev at *
     have hsl:=eG lev
     generalize hS:unR v h=S at *
     by_cases q1:(lev.length:Int)≥z
     ·rw[if_pos q1] at eRk
      have:=ext 11 (by omega) eRk
      subst this
      exact wR (aI @pgv (aI @hel (aI @hg @hsl))) trivial ay
     ·rw[if_neg q1] at eRk
      have hlt32'':=hlt32' (by omega)
      obtain⟨hsh,hsh1,hsh2⟩:=XC lev.length h (by omega) (by omega)
      refine wS (aI @pgv (aI @hel (aI @hg @hsl))) trivial ?_
      refine df (fun i:Nat=>mkA [(1,.ref 0 0),(3,vi S),(4,vi h),(5,vi i)] [(0,(39,rkF ⟨z,t,lo,v,b⟩))] 1 (fun _ => .top)) (fun i=>i≤lev.length∧lT (wK lev) (lev.length-i) i=nI z v h) (fun i=>lev.length-i) 0 [] [0] ?_ ⟨Nat.zero_le _,eRk.symm⟩ ?_
      ·exact kE
      ·rintro i ⟨hi2,he2⟩
       rcases Nat.lt_or_ge i lev.length with hlt2|hge2
       ·have hg2:=lV lev i hlt2
        rw[show lev.length-i=(lev.length-(i+1))+1 by omega] at he2
        have k3:=xI (lev.getD i [])
        have eLv:wK lev i=if iQ (lev.getD i [])=false then 7 else if 0<i∧kl (lev.getD i []) (lev.getD (i-1) [])=true then 19 else 0:=rfl
        have hox:=sG hoct i
        generalize lev.getD i []=xk at *
        have ext2:∀c:Int,c≠0→wK lev i=c→c=R:=fun c h0 h1=>by
         rw[qp _ _ _ (by omega),h1] at he2
         exact ext c h0 he2.symm
        cases q2:iQ xk
        ·rw[q2] at k3 eLv
         have:=ext2 7 (by omega) (by rw[eLv];rfl)
         subst this
         exact wR (aI @pgv (aI @hel (aI @hg (aI @hsl @hg2)))) k3 ay
        ·rw[q2] at k3 eLv
         rw[if_neg (by simp)] at eLv
         by_cases q4:0<i
         ·have hg3:=lV lev (i-1) (by omega)
          have hi1:((i:Int)-1).toNat=i-1:=by omega
          generalize lev.getD (i-1) []=yk at *
          cases q5:kl xk yk
          ·rw[if_neg (by rw[q5];simp)] at eLv
           rw[jV _ _ _ eLv] at he2
           refine wS (aI @pgv (aI @hel (aI @hg (aI @hsl (aI @hg2 (aI @hg3 (aI @hi1 (aI @kH @q5)))))))) k3 ?_
           exact bE (i+1) [] [0] ⟨hlt2,he2⟩
          ·rw[if_pos ⟨q4,q5⟩] at eLv
           have:=ext2 19 (by omega) eLv
           subst this
           exact wR (aI @pgv (aI @hel (aI @hg (aI @hsl (aI @hg2 (aI @hg3 (aI @hi1 (aI @kH @q5)))))))) k3 ay
         ·rw[if_neg (by omega)] at eLv
          rw[jV _ _ _ eLv] at he2
          refine wS (aI @pgv (aI @hel (aI @hg (aI @hsl @hg2)))) k3 ?_
          exact bE (i+1) [] [0] ⟨hlt2,he2⟩
       ·have:i=lev.length:=by omega
        subst this
        rw[Nat.sub_self] at he2
        have he3:nI z v h=0:=he2.symm
        rw[jV _ _ _ he3] at he
        refine wS (aI @pgv (aI @hel (aI @hg (aI @hsl @hsh)))) trivial ?_
        (refine dh (h+1) [] [0] (⟨hlt,he,hlt32''⟩) (by first|omega|(simp only[List.length_cons];omega)) ?_;(refine dN ?_ ?_ (gu _ _ _) (by decide) (by decide) (by decide) (by decide);(repeat' (first|exact trivial|refine dI _ _ rfl rfl ?_ ?_));all_goals (try simp only[pgs,pgl,pgx,pgf,pgw,di,dL,dm,dM,qc,iO,fO,pgn,simprocAttr]);all_goals (try (repeat' (first|apply aI)));all_goals (try (first|exact trivial|exact dE (by omega)|exact eH rfl|exact bP rfl rfl|exact jq rfl))))
        all_goals first|exact dE (by rw[eun])|skip
    ·have:h=v.length:=by omega
     subst this
     rw[Nat.sub_self] at he
     have he0:0=E:=he
     subst he0
     rw[if_neg (by omega)] at hR
     unfold Jl at hR
     by_cases q6:0<v.length
     ·have hg:=nG v (v.length-1) (by omega)
      have hi1:((v.length:Int)-1).toNat=v.length-1:=by omega
      generalize v.getD (v.length-1) []=lev at *
      have hsl:=eG lev
      by_cases q7:lev.length=0
      ·rw[if_pos ⟨q6,q7⟩] at hR
       subst hR
       exact wR (aI @pgv (aI @hel (aI @hg (aI @hsl @hi1)))) trivial ay
      ·rw[if_neg (by omega)] at hR
       by_cases q8:unR v v.length=t
       ·rw[if_neg (by omega)] at hR
        subst hR
        exact wR (aI @pgv (aI @hel (aI @hg (aI @hsl @hi1)))) trivial ay
       ·rw[if_pos q8] at hR
        subst hR
        exact wR (aI @pgv (aI @hel (aI @hg (aI @hsl @hi1)))) trivial ay
     ·rw[if_neg (by omega)] at hR
      by_cases q8:unR v v.length=t
      ·rw[if_neg (by omega)] at hR
       subst hR
       exact wR (aI @pgv @hel) trivial ay
      ·rw[if_pos q8] at hR
       subst hR
       exact wR (aI @pgv @hel) trivial ay
 ·rw[if_pos c1]
  have k1:=eU z 2 32
  have k2:=eU t 0 1099511627776
  have k3:=eU lo 0 1099511627776
  by_cases c2:2≤z∧z≤32
  ·rw[D6 c2] at k1
   have et:z.tmod 2=z%2:=Int.tmod_eq_emod_of_nonneg (by omega)
   by_cases c4:z%2=0
   ·by_cases c3:0≤t∧t≤1099511627776
    ·rw[D6 c3] at k2
     rw[kG (by omega)] at k3
     refine gI oW Tryz.func98 Tryz.results98 ?_
     exact wR @et (aI k1 (aI k2 k3)) ay
    ·rw[kG c3] at k2
     refine gI oW Tryz.func98 Tryz.results98 ?_
     exact wR @et (aI k1 k2) ay
   ·refine gI oW Tryz.func98 Tryz.results98 ?_
    exact wR @et k1 ay
  ·rw[kG c2] at k1
   refine gI oW Tryz.func98 Tryz.results98 ?_
   exact wR trivial k1 ay
def pwI(h:Nat):Int:=IntKind.i64.wrap (1*2^min h IntKind.i64.bits)
theorem FO(h:Nat):IntKind.i64.wrap (1*2^min h IntKind.i64.bits)=pwI h:=rfl
theorem OV(h:Nat):W64 (pwI h):=by
 unfold pwI W64
 rw[IntKind.wrap_i64]
 omega
theorem agm(n:Int):bits .and .i64 n 1=n%2:=iK n 1 (by decide)
theorem zZ(co:List Nat)(i:Int):wC co i=0∨wC co i=1:=by
 unfold wC
 split
 ·exact .inl rfl
 ·rw[agm];omega
theorem XD(a b:List (List Nat)):sv a++sv b=sv (a++b):=by simp [sv]
theorem XE(l:List (List Nat)):V.flatL (sv l)=true:=by
 induction l with
 | nil=>rfl
 | cons a l ih=>simp only[sv,List.map_cons,V.flatL,V.flat] at ih ⊢;simpa using ih
theorem Jm(id:Nat)(e:TypeId)(l:List (List Nat)):(V.sl (.own id e) 1 (sv l)).flat=true:=XE l
theorem aii(i k:Nat)(e:TypeId)(xs:List V):V.free (.sl (.own i e) k xs)=false:=rfl
def evN(l:List (List Nat))(c n:Nat):List (List Nat):=(List.range n).map fun j=>l.getD (c+2*j) []
theorem wL(l:List (List Nat))(c n:Nat):evN l c n++[l.getD (c+2*n) []]=evN l c (n+1):=by simp [evN,List.range_succ]
theorem mD(l:List (List Nat))(c n:Nat):(evN l c n).length=n:=by simp [evN]
abbrev Stl:=Nat × List (List Nat) × Int × Int × List (List (List Nat))
def dR(v:List (List (List Nat)))(s:Stl):List (List Nat):=srt kl (if s.1<v.length then v.getD s.1 []++s.2.1 else s.2.1)
def iH(v:List (List (List Nat)))(z:Int)(co:List Nat)(s:Stl):Stl :=
 if ((dR v s).length:Int)<z then (s.1+1,[],s.2.2.1,s.2.2.2.1,s.2.2.2.2++[dR v s])
 else (s.1+1,evN (dR v s) (wC co s.2.2.2.1).toNat ((dR v s).length / 2),(aO s.2.2.1 (pwI s.1)).1,s.2.2.2.1+1,s.2.2.2.2++[(dR v s).drop ((dR v s).length / 2*2)])
def kY(v:List (List (List Nat)))(z:Int)(co:List Nat):Nat→Stl→Stl
 | 0,s=>s
 | f+1,s=>if s.1<v.length∨0<s.2.1.length then kY v z co f (iH v z co s) else s
def oH(v:List (List (List Nat)))(M:Nat)(s:Stl):Nat:=(v.length-s.1)*(M+1)+s.2.1.length
theorem uS(v:List (List (List Nat)))(s:Stl):(dR v s).length=(if s.1<v.length then (v.getD s.1 []).length else 0)+s.2.1.length:=by
 unfold dR
 rw[wI]
 split<;>simp
theorem XF(v:List (List (List Nat)))(z:Int)(hz:2≤z)(co:List Nat)(M:Nat)(hM:∀i,(v.getD i []).length≤M)(s:Stl)(hs:s.2.1.length≤M)(hc:s.1<v.length∨0<s.2.1.length) :
  (iH v z co s).2.1.length≤M∧oH v M (iH v z co s)<oH v M s:=by
 have hl:=uS v s
 have hi:=hM s.1
 obtain⟨h,ca,lo,a,o⟩:=s
 have key:(iH v z co (h,ca,lo,a,o)).1=h+1∧(iH v z co (h,ca,lo,a,o)).2.1.length≤(dR v (h,ca,lo,a,o)).length / 2:=by
  unfold iH
  by_cases q:((dR v (h,ca,lo,a,o)).length:Int)<z
  ·rw[if_pos q];exact⟨rfl,Nat.zero_le _⟩
  ·rw[if_neg q];exact⟨rfl,by simp only[mD];omega⟩
 obtain⟨k1,k2⟩:=key
 unfold oH
 rw[k1]
 generalize (iH v z co (h,ca,lo,a,o)).2.1.length=n at *
 simp only at *
 rcases Nat.lt_or_ge h v.length with h1|h1
 ·rw[if_pos h1] at hl
  have e:v.length-h=(v.length-(h+1))+1:=by omega
  have e2:(v.length-h)*(M+1)=(v.length-(h+1))*(M+1)+(M+1):=by rw[e,Nat.succ_mul]
  rw[e2]
  generalize (v.length-(h+1))*(M+1)=q
  omega
 ·rw[if_neg (by omega)] at hl
  have e:v.length-h=0:=by omega
  have e2:v.length-(h+1)=0:=by omega
  rw[e,e2,Nat.zero_mul]
  omega
def jb:Nat→List (List (List Nat))→List (List (List Nat))
 | 0,l=>l
 | f+1,l=>if 0<l.length∧(l.getD (l.length-1) []).length=0 then jb f (l.take (l.length-1)) else l
def jh(v:List (List (List Nat)))(z lost:Int)(co:List Nat)(at':Int)(M:Nat):Stl:=kY v z co (v.length*(M+1)) (0,[],lost,at',[])
theorem abK(v:List (List (List Nat)))(z:Int)(co:List Nat):∀(f:Nat) (s:Stl),(kY v z co f s).2.2.2.2.length≤s.2.2.2.2.length+f:=by
 intro f
 induction f with
 | zero=>intro s;exact Nat.le_refl _
 | succ f ih =>
  intro s
  unfold kY
  split
  ·have:=ih (iH v z co s)
   have h:(iH v z co s).2.2.2.2.length=s.2.2.2.2.length+1:=by unfold iH;split<;>simp
   omega
  ·omega
theorem RH(v:List (List (List Nat)))(z lost:Int)(co:List Nat)(at':Int)(M:Nat)(hz:2≤z∧z≤32)(hco:oct co)(hM:∀i,(v.getD i []).length≤M)(hM2:M≤10000)(hv:v.length≤100)(hl:W64 lost)(ha:0≤at'∧at'≤1073741824) :
  Gxx 113 [fzl v,vi z,vi lost,fzb co,vi at'] (.tup [fzl (jb (jh v z lost co at' M).2.2.2.2.length (jh v z lost co at' M).2.2.2.2),vi (jh v z lost co at' M).2.2.1,vi (jh v z lost co at' M).2.2.2.1]):=by
 have hvl:=fD v
 have hF:v.length*(M+1)≤100*10001:=Nat.mul_le_mul hv (by omega)
 unfold jh
 generalize hR:kY v z co (v.length*(M+1)) (0,[],lost,at',[])=R
 refine gI oW Tryz.func113 Tryz.results113 ?_
 refine wS trivial trivial ?_
 refine df (fun x:Nat × Stl=>mkA [(0,fzl v),(1,vi z),(2,vi x.2.2.2.1),(3,fzb co),(4,vi x.2.2.2.2.1),(13,.sl (.own 0 98) 1 (lv x.2.2.2.2.2)),(14,.sl (.own 1 9) 1 (sv x.2.2.1)),(15,vi x.2.1)] [] 2 (fun _ => .top))
  (fun x=>oH v M x.2≤x.1∧x.2.2.1.length≤M∧W64 x.2.2.2.1∧kY v z co x.1 x.2=R∧x.1+x.2.1=v.length*(M+1)∧x.2.2.2.2.2.length=x.2.1∧0≤x.2.2.2.2.1∧x.2.2.2.2.1≤1073741824+x.2.1) (fun x=>x.1) (v.length*(M+1),(0,[],lost,at',[])) [] [] ?_ ⟨by simp [oH],Nat.zero_le _,hl,hR,rfl,rfl,ha.1,by simp only;omega⟩ ?_
 ·exact kE
  all_goals first|exact gG rfl|skip
 ·rintro⟨f,h,ca,lo,a,o⟩ ⟨i1,i2,i3,i4,i5,i6,i7,i8⟩
  simp only at i1 i2 i3 i4 i5 i6 i7 i8
  have hcl:=eG ca
  have hol:=fD o
  by_cases hc:h<v.length∨0<ca.length
  ·have hmu:=XF v z hz.1 co M hM (h,ca,lo,a,o) i2 hc
   have hcu:=uS v (h,ca,lo,a,o)
   have est:iH v z co (h,ca,lo,a,o)=if ((dR v (h,ca,lo,a,o)).length:Int)<z then (h+1,[],lo,a,o++[dR v (h,ca,lo,a,o)]) else (h+1,evN (dR v (h,ca,lo,a,o)) (wC co a).toNat ((dR v (h,ca,lo,a,o)).length / 2),(aO lo (pwI h)).1,a+1,o++[(dR v (h,ca,lo,a,o)).drop ((dR v (h,ca,lo,a,o)).length / 2*2)]):=rfl
   cases f with
   | zero=>exact absurd hmu.2 (by omega)
   | succ f =>
   have e:kY v z co (f+1) (h,ca,lo,a,o)=kY v z co f (iH v z co (h,ca,lo,a,o)):=if_pos hc
   rw[e] at i4
   by_cases hlt:h<v.length
   ·have ecu:dR v (h,ca,lo,a,o)=srt kl (v.getD h []++ca):=by unfold dR;simp only[if_pos hlt]
    have hg:=nG v h hlt
    have hlM:=hM h
    simp only[if_pos hlt] at hcu
    have hso:=BG (v.getD h []++ca) (by rw[List.length_append];omega)
    rw[←ecu] at hso
    have hfl:=Jm 0 9 (dR v (h,ca,lo,a,o))
    have hbi:=Xm co hco a (by omega)
    have hb01:=zZ co a
    generalize dR v (h,ca,lo,a,o)=cur at *
    have hsl:=eG cur
    have hap:=XD (v.getD h []) ca
    have hsl2:=eG (v.getD h [])
    generalize v.getD h []++ca=lc at *
    generalize v.getD h []=lev at *
    by_cases q1:(cur.length:Int)<z
    ·rw[if_pos q1] at est
     rw[est] at hmu i4
     have hls:=ww o cur
     (repeat' first|refine wP (aI @pgv (aI @aii (aI @aP (aI @false_or (aI @Bool.false_eq_true (aI @Option.bind_none.{0,0} (aI @hvl (aI @hcl (aI @hol (aI @hg (aI @hap (aI @hsl (aI @hls @hsl2))))))))))))) trivial ?_|refine cF hso hfl ?_|refine tS ?_ ?_<;>intro hc|fail)
     refine dh (f,(h+1,[],lo,a,o++[cur])) [0,1] [] ⟨by have:=hmu.2;show oH v M (h+1,[],lo,a,o++[cur])≤f;omega,Nat.zero_le _,i3,i4,by simp only;omega,by simp [i6],i7,by simp only;omega⟩ (by show f<f+1;omega) ?_
     exact kE
     all_goals exact gG rfl
    ·rw[if_neg q1] at est
     rw[est] at hmu i4
     have k5:=qw lo (pwI h) i3 (OV h)
     have har:=pR lo (pwI h)
     have ed:(cur.length:Int).tdiv 2=((cur.length / 2:Nat):Int):=by rw[Int.tdiv_eq_ediv_of_nonneg (by omega)];omega
     have em:(((cur.length / 2:Nat):Int)*2).toNat=cur.length / 2*2:=by omega
     have hdr:=OU cur (cur.length / 2*2)
     have hls:=ww o (cur.drop (cur.length / 2*2))
     obtain⟨cn,hcn,hcn1⟩:∃cn:Nat,wC co a=(cn:Int)∧cn≤1:=by
      rcases hb01 with h|h
      ·exact⟨0,h,by decide⟩
      ·exact⟨1,h,by decide⟩
     rw[hcn] at hbi est hmu i4
     rw[Int.toNat_natCast] at est hmu i4
     (repeat' first|refine wP (aI @pgv (aI @aii (aI @aP (aI @false_or (aI @Bool.false_eq_true (aI @Option.bind_none.{0,0} (aI @hvl (aI @hcl (aI @hol (aI @hg (aI @hap (aI @hsl (aI @hsl2 @ed))))))))))))) hbi ?_|refine cF hso hfl ?_|refine tS ?_ ?_<;>intro hc|fail)
     refine df (fun j:Nat=>mkA [(0,fzl v),(1,vi z),(2,vi lo),(3,fzb co),(4,vi a),(13,.sl (.own 0 98) 1 (lv o)),(14,.sl (.own 1 9) 1 (sv (evN cur cn j))),(15,vi h),(16,.sl (.own 2 9) 1 (sv cur)),(17,vi (((cur.length / 2:Nat):Int)*2)),(18,vi ((cn:Int)+2*j))] [] 3 (fun _ => .top)) (fun j=>j≤cur.length / 2) (fun j=>cur.length / 2-j) 0 [0,1,3] [] ?_ (Nat.zero_le _) ?_
     ·exact kE
      all_goals exact gG rfl
     ·intro j hj
      replace hj:j≤cur.length / 2:=hj
      have hev:(sv (evN cur cn j)).length=j:=by rw[eG,mD]
      rcases Nat.lt_or_ge j (cur.length / 2) with hjl|hjg
      ·have hin:((cn:Int)+2*(j:Int)).toNat=cn+2*j:=by omega
       have hg2:=lV cur (cn+2*j) (by omega)
       have hsn:sv (evN cur cn j)++[vs (cur.getD (cn+2*j) [])]=sv (evN cur cn (j+1)):=by rw[svS,wL]
       refine wS (aI @pgv (aI @hsl (aI @hin (aI @hg2 (aI @hsn @hev))))) trivial ?_
       exact bE (j+1) [0,1,2] [] hjl
       all_goals first|exact dE (by omega)|skip
      ·have:j=cur.length / 2:=by omega
       subst this
       refine wS (aI @pgv (aI @aii (aI @aP (aI @false_or (aI @Bool.false_eq_true (aI @Option.bind_none.{0,0} (aI @hvl (aI @hcl (aI @hol (aI @hsl (aI @hev (aI @em (aI @hdr (aI @hls @FO)))))))))))))) k5 ?_
       refine dh (f,(h+1,evN cur cn (cur.length / 2),(aO lo (pwI h)).1,a+1,o++[cur.drop (cur.length / 2*2)])) [0,1] [] ⟨by have:=hmu.2;show oH v M (h+1,evN cur cn (cur.length / 2),(aO lo (pwI h)).1,a+1,o++[cur.drop (cur.length / 2*2)])≤f;omega,hmu.1,by simp only;unfold W64;omega,i4,by simp only;omega,by simp [i6],by simp only;omega,by simp only;omega⟩ (by show f<f+1;omega) ?_
       exact kE
   ·have hca:0<ca.length:=by rcases hc with h|h;exact absurd h hlt;exact h
    have ecu:dR v (h,ca,lo,a,o)=srt kl ca:=by unfold dR;simp only[if_neg hlt]
    simp only[if_neg hlt] at hcu
    have hso:=BG ca (by omega)
    rw[←ecu] at hso
    have hfl:=Jm 0 9 (dR v (h,ca,lo,a,o))
    have hbi:=Xm co hco a (by omega)
    have hb01:=zZ co a
    generalize dR v (h,ca,lo,a,o)=cur at *
    have hsl:=eG cur
    by_cases q1:(cur.length:Int)<z
    ·rw[if_pos q1] at est
     rw[est] at hmu i4
     have hls:=ww o cur
     (repeat' first|refine wP (aI @pgv (aI @aii (aI @aP (aI @false_or (aI @Bool.false_eq_true (aI @Option.bind_none.{0,0} (aI @hvl (aI @hcl (aI @hol (aI @hsl @hls)))))))))) trivial ?_|refine cF hso hfl ?_|refine tS ?_ ?_<;>intro hc|fail)
     refine dh (f,(h+1,[],lo,a,o++[cur])) [0,1] [] ⟨by have:=hmu.2;show oH v M (h+1,[],lo,a,o++[cur])≤f;omega,Nat.zero_le _,i3,i4,by simp only;omega,by simp [i6],i7,by simp only;omega⟩ (by show f<f+1;omega) ?_
     exact kE
     all_goals exact gG rfl
    ·rw[if_neg q1] at est
     rw[est] at hmu i4
     have k5:=qw lo (pwI h) i3 (OV h)
     have har:=pR lo (pwI h)
     have ed:(cur.length:Int).tdiv 2=((cur.length / 2:Nat):Int):=by rw[Int.tdiv_eq_ediv_of_nonneg (by omega)];omega
     have em:(((cur.length / 2:Nat):Int)*2).toNat=cur.length / 2*2:=by omega
     have hdr:=OU cur (cur.length / 2*2)
     have hls:=ww o (cur.drop (cur.length / 2*2))
     obtain⟨cn,hcn,hcn1⟩:∃cn:Nat,wC co a=(cn:Int)∧cn≤1:=by
      rcases hb01 with h|h
      ·exact⟨0,h,by decide⟩
      ·exact⟨1,h,by decide⟩
     rw[hcn] at hbi est hmu i4
     rw[Int.toNat_natCast] at est hmu i4
     (repeat' first|refine wP (aI @pgv (aI @aii (aI @aP (aI @false_or (aI @Bool.false_eq_true (aI @Option.bind_none.{0,0} (aI @hvl (aI @hcl (aI @hol (aI @hsl @ed)))))))))) hbi ?_|refine cF hso hfl ?_|refine tS ?_ ?_<;>intro hc|fail)
     refine df (fun j:Nat=>mkA [(0,fzl v),(1,vi z),(2,vi lo),(3,fzb co),(4,vi a),(13,.sl (.own 0 98) 1 (lv o)),(14,.sl (.own 1 9) 1 (sv (evN cur cn j))),(15,vi h),(16,.sl (.own 2 9) 1 (sv cur)),(17,vi (((cur.length / 2:Nat):Int)*2)),(18,vi ((cn:Int)+2*j))] [] 3 (fun _ => .top)) (fun j=>j≤cur.length / 2) (fun j=>cur.length / 2-j) 0 [0,1,2] [] ?_ (Nat.zero_le _) ?_
     ·exact kE
      all_goals exact gG rfl
     ·intro j hj
      replace hj:j≤cur.length / 2:=hj
      have hev:(sv (evN cur cn j)).length=j:=by rw[eG,mD]
      rcases Nat.lt_or_ge j (cur.length / 2) with hjl|hjg
      ·have hin:((cn:Int)+2*(j:Int)).toNat=cn+2*j:=by omega
       have hg2:=lV cur (cn+2*j) (by omega)
       have hsn:sv (evN cur cn j)++[vs (cur.getD (cn+2*j) [])]=sv (evN cur cn (j+1)):=by rw[svS,wL]
       refine wS (aI @pgv (aI @hsl (aI @hin (aI @hg2 (aI @hsn @hev))))) trivial ?_
       exact bE (j+1) [0,1,2] [] hjl
       all_goals first|exact dE (by omega)|skip
      ·have:j=cur.length / 2:=by omega
       subst this
       refine wS (aI @pgv (aI @aii (aI @aP (aI @false_or (aI @Bool.false_eq_true (aI @Option.bind_none.{0,0} (aI @hvl (aI @hcl (aI @hol (aI @hsl (aI @hev (aI @em (aI @hdr (aI @hls @FO)))))))))))))) k5 ?_
       refine dh (f,(h+1,evN cur cn (cur.length / 2),(aO lo (pwI h)).1,a+1,o++[cur.drop (cur.length / 2*2)])) [0,1] [] ⟨by have:=hmu.2;show oH v M (h+1,evN cur cn (cur.length / 2),(aO lo (pwI h)).1,a+1,o++[cur.drop (cur.length / 2*2)])≤f;omega,hmu.1,by simp only;unfold W64;omega,i4,by simp only;omega,by simp [i6],by simp only;omega,by simp only;omega⟩ (by show f<f+1;omega) ?_
       exact kE
  ·have e:kY v z co f (h,ca,lo,a,o)=(h,ca,lo,a,o):=by
    cases f with
    | zero=>rfl
    | succ f=>exact if_neg hc
   rw[e] at i4
   subst i4
   simp only
   refine wS (aI @hvl (aI @hcl @hol)) trivial ?_
   refine Xa 0 ?_
   refine wS @hvl trivial ?_
   generalize hT:jb o.length o=T
   refine df (fun x:Nat × List (List (List Nat))=>mkA [(2,vi lo),(4,vi a),(13,fzl x.2)] [] 0 (fun _ => .top)) (fun x=>x.2.length≤x.1∧jb x.1 x.2=T∧x.2.length≤10000000) (fun x=>x.1) (o.length,o) [] [] ?_ ⟨Nat.le_refl _,hT,by simp only;omega⟩ ?_
   ·exact kE
   ·rintro⟨g,o⟩ ⟨n1,n2,n3⟩
    simp only at n1 n2 n3
    have hol:=fD o
    by_cases q6:0<o.length
    ·have hg:=nG o (o.length-1) (by omega)
     have hi1:((o.length:Int)-1).toNat=o.length-1:=by omega
     cases g with
     | zero=>exact absurd q6 (by omega)
     | succ g =>
     have e:jb (g+1) o=if 0<o.length∧(o.getD (o.length-1) []).length=0 then jb g (o.take (o.length-1)) else o:=rfl
     rw[e] at n2
     have htk:=abz o (o.length-1)
     generalize o.getD (o.length-1) []=lev at *
     have hsl:=eG lev
     by_cases q7:lev.length=0
     ·rw[if_pos ⟨q6,q7⟩] at n2
      refine wS (aI @pgv (aI @hol (aI @hg (aI @hsl (aI @hi1 @htk))))) trivial ?_
      refine dh (g,o.take (o.length-1)) [] [] ⟨by simp only[List.length_take];omega,n2,by simp only[List.length_take];omega⟩ (by show g<g+1;omega) ?_
      exact kE
     ·rw[if_neg (by omega)] at n2
      subst n2
      exact wR (aI @pgv (aI @hol (aI @hg (aI @hsl @hi1)))) trivial ay
    ·have e:jb g o=o:=by
      cases g with
      | zero=>rfl
      | succ g=>exact if_neg (fun h=>q6 h.1)
     rw[e] at n2
     subst n2
     exact wR (aI @pgv @hol) trivial ay
end Go.Proofs.YtiohdbjggmmjcaaGreat
