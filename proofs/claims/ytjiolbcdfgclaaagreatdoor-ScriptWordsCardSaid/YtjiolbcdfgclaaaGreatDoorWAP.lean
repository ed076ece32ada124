/-
  Texts of this claim, merged; own names are short.
-/
import Derived.Test.YtjiolbcdfgclaaaGreatDoorWAO
import Derived.Test.YtjiolbcdfgclaaaGreatDoorWAJ
import Derived.Test.YtjiolbcdfgclaaaGreatDoorWAN
set_option linter.unusedVariables false
set_option linter.unusedSimpArgs false
set_option linter.unusedSectionVars false
set_option linter.defProp false
set_option maxRecDepth 100000
set_option maxHeartbeats 8000000
namespace Go.Proofs.YtjiolbcdfgclaaaGreatDoor
open Go Go.Pg
def o9(x:En):List En→List En
 | []=>[x]
 | y::l=>if kl x.1 y.1=true then x::y::l else y::o9 x l
theorem Gn(x y:En)(l:List En):o9 x (y::l)=if kl x.1 y.1=true then x::y::l else y::o9 x l:=rfl
theorem Lj(x:En)(l:List En):(o9 x l).length=l.length+1:=by
 induction l with
 | nil=>rfl
 | cons y l ih=>unfold o9;split<;>simp [ih]
theorem aa0(x z:En)(l:List En):z∈o9 x l↔z=x∨z∈l:=by
 induction l with
 | nil=>simp [o9]
 | cons y l ih =>
  unfold o9
  split
  ·simp
  ·simp only[List.mem_cons,ih]
   constructor
   ·rintro (h|h|h)<;>simp [h]
   ·rintro (h|h|h)<;>simp [h]
def uX(x:En)(d:Bool)(l:List En):List En:=if d=true then l else o9 x l
theorem Gp(l:List En)(x:En)(hn:l.length≤1000000):Gxx 215 [fzv l,.agg [vs x.1,vi x.2.1,vi x.2.2]] (.sl (.own 0 59) 3 (ev (o9 x l))):=by
 have hel:=aY l
 refine gI oW Tryz.func215 Tryz.results215 ?_
 refine wS trivial trivial ?_
 refine aK (fun s:Nat × Bool × List En=>mkA [(0,fzv l),(3,.ref 0 0),(5,.sl (.own 0 59) 3 (ev s.2.2)),(6,vb s.2.1),(7,vi s.1)] [(0,(59,[vs x.1,vi x.2.1,vi x.2.2]))] 1 (fun _ => .top)) (fun s=>s.1≤l.length∧s.2.2.length≤s.1+1∧(s.2.2.length=s.1∨s.2.1=true)∧s.2.2++uX x s.2.1 (l.drop s.1)=o9 x l) (fun s=>l.length-s.1) (0,false,[]) [] [0] ?_ ⟨Nat.zero_le _,Nat.zero_le _,.inl rfl,rfl⟩ ?_
 ·exact kE
  all_goals first|exact gK rfl|skip
 ·rintro⟨i,d,o⟩ ⟨hi,ho1,ho2,ho⟩
  simp only at hi ho1 ho2 ho
  have hol:=aY o
  rcases Nat.lt_or_ge i l.length with hlt|hge
  ·rw[mD l i ([],0,0) hlt] at ho
   have hg:=jr l i hlt
   generalize l.getD i ([],0,0)=y at *
   obtain⟨yk,yc,ye⟩:=y
   obtain⟨xk,xc,xe⟩:=x
   simp only at hg ho ⊢
   have s1:=sW o xk xc xe
   have s2:=sW o yk yc ye
   have s3:=sW (o++[(xk,xc,xe)]) yk yc ye
   have l3:(ev (o++[(xk,xc,xe)])).length=o.length+1:=by rw[aY];simp
   have l4:(o++[(xk,xc,xe)]).length=o.length+1:=by simp
   generalize hm1:o++[(xk,xc,xe)]=o1 at *
   cases d
   ·cases hk:kl xk yk
    ·have e1:uX (xk,xc,xe) false ((yk,yc,ye)::l.drop (i+1))=(yk,yc,ye)::o9 (xk,xc,xe) (l.drop (i+1)):=by unfold uX;rw[Gn];simp [hk]
     rw[e1] at ho
     refine wS (aI @pgv (aI @rP (aI @hg (aI @hk @s2)))) trivial ?_
     refine bC (i+1,false,o++[(yk,yc,ye)]) [0] [0] ⟨hlt,by simp only[List.length_append,List.length_cons,List.length_nil];omega,.inl (by simp only[List.length_append,List.length_cons,List.length_nil];rcases ho2 with h|h;omega;cases h),by rw[←ho];simp [uX]⟩ (by show l.length-(i+1)<l.length-i;omega) ?_
     exact kE
    ·have e1:uX (xk,xc,xe) false ((yk,yc,ye)::l.drop (i+1))=(xk,xc,xe)::(yk,yc,ye)::(l.drop (i+1)):=by unfold uX;rw[Gn];simp [hk]
     rw[e1] at ho
     refine wS (aI @pgv (aI @rP (aI @hg (aI @hk (aI @s1 (aI @s3 @l3)))))) trivial ?_
     refine bC (i+1,true,o1++[(yk,yc,ye)]) [0] [0] ⟨hlt,(by show (o1++[((yk,yc,ye):En)]).length≤i+1+1;rw[List.length_append,l4];simp only[List.length_cons,List.length_nil];rcases ho2 with h|h;omega;cases h),.inr rfl,by rw[←ho,←hm1];simp [uX]⟩ (by show l.length-(i+1)<l.length-i;omega) ?_
     exact kE
   ·have e1:uX (xk,xc,xe) true ((yk,yc,ye)::l.drop (i+1))=(yk,yc,ye)::(l.drop (i+1)):=by unfold uX;simp
    rw[e1] at ho
    refine wS (aI @pgv (aI @rP (aI @hg @s2))) trivial ?_
    refine bC (i+1,true,o++[(yk,yc,ye)]) [0] [0] ⟨hlt,by simp only[List.length_append,List.length_cons,List.length_nil];omega,.inr rfl,by rw[←ho];simp [uX]⟩ (by show l.length-(i+1)<l.length-i;omega) ?_
    exact kE
  ·have:i=l.length:=by omega
   subst this
   rw[List.drop_length] at ho
   cases d
   ·have ho':o++[x]=o9 x l:=ho
    have s1:=sW o x.1 x.2.1 x.2.2
    have ho2':ev (o++[(x.1,x.2.1,x.2.2)])=ev (o9 x l):=congrArg ev ho'
    exact wR (aI @aY (aI @s1 @ho2')) trivial (ids [0])
   ·have ho':o=o9 x l:=by rw[←ho];simp [uX]
    subst ho'
    exact wR @aY trivial (ids [0])
def qw(d:Int):List En→List En
 | []=>[]
 | y::l=>if y.2.1 > d then (y.1,y.2.1-d,0)::qw d l else qw d l
theorem Gq(d:Int)(y:En)(l:List En):qw d (y::l)=if y.2.1 > d then (y.1,y.2.1-d,0)::qw d l else qw d l:=rfl
theorem Lm(d:Int)(l:List En):(qw d l).length≤l.length:=by
 induction l with
 | nil=>exact Nat.le_refl _
 | cons y l ih=>unfold qw;split<;>simp only[List.length_cons]<;>omega
def cin(l:List En):Prop:=∀e∈l,1≤e.2.1∧e.2.1≤1099511627776
theorem afv{l:List En}(h:cin l){i:Nat}(hi:i<l.length):1≤(l.getD i ([],0,0)).2.1∧(l.getD i ([],0,0)).2.1≤1099511627776:=by
 have:l.getD i ([],0,0)=l[i]:=by simp [List.getD,hi]
 rw[this];exact h _ (List.getElem_mem hi)
theorem Vw(l:List En)(d:Int)(hl:cin l)(hd:1≤d∧d≤1099511627776)(hn:l.length≤1000000):Gxx 216 [fzv l,vi d] (.sl (.own 0 59) 3 (ev (qw d l))):=by
 have hel:=aY l
 refine gI oW Tryz.func216 Tryz.results216 ?_
 refine wS trivial trivial ?_
 refine aK (fun s:Nat × List En=>mkA [(0,fzv l),(1,vi d),(5,.sl (.own 0 59) 3 (ev s.2)),(6,vi s.1)] [] 1 (fun _ => .top)) (fun s=>s.1≤l.length∧s.2.length≤s.1∧s.2++qw d (l.drop s.1)=qw d l) (fun s=>l.length-s.1) (0,[]) [] [] ?_ ⟨Nat.zero_le _,Nat.zero_le _,rfl⟩ ?_
 ·exact kE
  all_goals first|exact gK rfl|skip
 ·rintro⟨i,o⟩ ⟨hi,ho1,ho⟩
  simp only at hi ho1 ho
  have hol:=aY o
  rcases Nat.lt_or_ge i l.length with hlt|hge
  ·rw[mD l i ([],0,0) hlt] at ho
   have hg:=jr l i hlt
   have hc:=afv hl hlt
   generalize l.getD i ([],0,0)=y at *
   obtain⟨yk,yc,ye⟩:=y
   simp only at hg hc
   rw[Gq] at ho
   simp only at ho
   have s1:=sW o yk (yc-d) 0
   by_cases hy:yc > d
   ·rw[if_pos hy] at ho
    refine wS (aI @aY (aI @hg @s1)) trivial ?_
    refine bC (i+1,o++[(yk,yc-d,0)]) [0] [] ⟨hlt,by simp only[List.length_append,List.length_cons,List.length_nil];omega,by rw[←ho];simp⟩ (by show l.length-(i+1)<l.length-i;omega) ?_
    exact kE
   ·rw[if_neg hy] at ho
    refine wS (aI @aY @hg) trivial ?_
    refine bC (i+1,o) [0] [] ⟨hlt,by simp only;omega,ho⟩ (by show l.length-(i+1)<l.length-i;omega) ?_
    exact kE
  ·have:i=l.length:=by omega
   subst this
   rw[List.drop_length] at ho
   have ho':o=qw d l:=by rw[←ho];simp [qw]
   subst ho'
   exact wR @aY trivial (ids [0])
def leK(a b:List Nat):Bool:=kl a b||decide (a=b)
def yX(l:List En)(i:Nat):Int :=
 if fH (l.getD i eD).1=false then 7
 else if ¬((1≤(l.getD i eD).2.1∧(l.getD i eD).2.1≤1099511627776)∧(l.getD i eD).2.2=0) then 5
 else if 0<i∧leK (l.getD i eD).1 (l.getD (i-1) eD).1=true then 19 else 0
def vFq(t:Fq):Int:=if ¬((1≤t.z∧t.z≤32)∧(0≤t.t∧t.t≤1099511627776)∧(0≤t.l∧t.l≤1099511627776)) then 5 else if (t.e.length:Int) > t.z then 11 else tC (yX t.e) t.e.length 0
theorem lm(x:Fq)(ho:octE x.e)(hn:x.e.length≤1000000):Gxx 159 [.agg (fqF x)] (vi (vFq x)):=by
 obtain⟨z,t,lo,l,b⟩:=x
 simp only at ho hn
 unfold vFq
 simp only
 have hel:=aY l
 by_cases c1:(1≤z∧z≤32)∧(0≤t∧t≤1099511627776)∧(0≤lo∧lo≤1099511627776)
 ·rw[if_neg (fun h=>h c1)]
  have k1:=aU z 1 32 c1.1
  have k2:=aU t 0 1099511627776 c1.2.1
  have k2':=aU lo 0 1099511627776 c1.2.2
  by_cases c2:(l.length:Int) > z
  ·rw[if_pos c2]
   refine gI oW Tryz.func159 Tryz.results159 ?_
   exact wR @aY (aI k1 (aI k2 k2')) ah
  ·rw[if_neg c2]
   refine gI oW Tryz.func159 Tryz.results159 ?_
   refine wS @aY (aI k1 (aI k2 k2')) ?_
   generalize hE:tC (yX l) l.length 0=E
   refine aK (fun i:Nat=>mkA [(1,.ref 0 0),(3,vi i)] [(0,(88,fqF ⟨z,t,lo,l,b⟩))] 1 (fun _ => .top)) (fun i=>i≤l.length∧tC (yX l) (l.length-i) i=E) (fun i=>l.length-i) 0 [] [0] ?_ ⟨Nat.zero_le _,hE⟩ ?_
   ·exact kE
   ·rintro i ⟨hi,he⟩
    rcases Nat.lt_or_ge i l.length with hlt|hge
    ·have hg:=jr l i hlt
     have hox:=lu ho i
     have hoy:=lu ho (i-1)
     rw[show l.length-i=(l.length-(i+1))+1 by omega] at he
     have k3:=uH (l.getD i eD).1
     have et:yX l i=if fH (l.getD i eD).1=false then 7 else if ¬((1≤(l.getD i eD).2.1∧(l.getD i eD).2.1≤1099511627776)∧(l.getD i eD).2.2=0) then 5 else if 0<i∧leK (l.getD i eD).1 (l.getD (i-1) eD).1=true then 19 else 0:=rfl
     generalize hxx:l.getD i eD=x at *
     obtain⟨xk,xc,xe⟩:=x
     simp only at hox k3 et hg
     have ext:∀v:Int,v≠0→yX l i=v→v=E:=fun v h0 h1=>by rw[D7 _ _ _ (by omega)] at he;omega
     cases q1:fH xk
     ·rw[q1] at k3 et
      have:=ext 7 (by omega) (by rw[et];rfl)
      subst this
      exact wR (aI @aY @hg) k3 ah
     ·rw[q1] at k3 et
      rw[if_neg (by simp)] at et
      by_cases q2:(1≤xc∧xc≤1099511627776)∧xe=0
      ·rw[if_neg (fun h=>h q2)] at et
       have k5:=aU xc 1 1099511627776 q2.1
       have q0:=q2.2
       subst q0
       by_cases q4:0<i
       ·have hg1:=jr l (i-1) (by omega)
        have hi1:((i:Int)-1).toNat=i-1:=by omega
        generalize l.getD (i-1) eD=y at *
        have hd:=sJ hox hoy
        have hle:(kl xk y.1||decide (sB xk=sB y.1))=leK xk y.1:=by rw[hd];rfl
        cases q5:leK xk y.1
        ·rw[if_neg (by rw[q5];simp)] at et
         rw[q5] at hle
         rw[uV _ _ _ et] at he
         refine wS (aI @pgv (aI @rP (aI @hle (aI @hg (aI @hi1 @hg1))))) (aI k3 k5) ?_
         exact bE (i+1) [] [0] ⟨hlt,he⟩
        ·rw[if_pos ⟨q4,q5⟩] at et
         rw[q5] at hle
         have:=ext 19 (by omega) et
         subst this
         exact wR (aI @pgv (aI @rP (aI @hle (aI @hg (aI @hi1 @hg1))))) (aI k3 k5) ah
       ·rw[if_neg (by omega)] at et
        rw[uV _ _ _ et] at he
        refine wS (aI @pgv @hg) (aI k3 k5) ?_
        exact bE (i+1) [] [0] ⟨hlt,he⟩
      ·rw[if_pos q2] at et
       have:=ext 5 (by omega) et
       subst this
       by_cases q6:1≤xc∧xc≤1099511627776
       ·have k5:=aU xc 1 1099511627776 q6
        have q7:xe≠0:=fun h=>q2 ⟨q6,h⟩
        exact wR (aI @aY @hg) (aI k3 k5) ah
       ·have k5:=fC xc 1 1099511627776
        rw[jY q6] at k5
        exact wR (aI @aY @hg) (aI k3 k5) ah
    ·have:i=l.length:=by omega
     subst this
     rw[Nat.sub_self] at he
     have he0:0=E:=he
     subst he0
     exact wR @aY trivial ah
 ·rw[if_pos c1]
  by_cases c2:1≤z∧z≤32
  ·have k1:=aU z 1 32 c2
   by_cases c3:0≤t∧t≤1099511627776
   ·have k2:=aU t 0 1099511627776 c3
    have k2':=fC lo 0 1099511627776
    rw[jY (by omega)] at k2'
    refine gI oW Tryz.func159 Tryz.results159 ?_
    exact wR trivial (aI k1 (aI k2 k2')) ah
   ·have k2:=fC t 0 1099511627776
    rw[jY c3] at k2
    refine gI oW Tryz.func159 Tryz.results159 ?_
    exact wR trivial (aI k1 k2) ah
  ·have k1:=fC z 1 32
   rw[jY c2] at k1
   refine gI oW Tryz.func159 Tryz.results159 ?_
   exact wR trivial k1 ah
def jB(w:Int)(l:List En):Int:=l.foldl (fun m e=>min m e.2.1) w
theorem RJ(l:List En):∀w,jB w l≤w:=by
 induction l with
 | nil=>intro w;exact Int.le_refl _
 | cons e l ih=>intro w;have:=ih (min w e.2.1);simp only[jB,List.foldl_cons] at *;omega
theorem RN(l:List En)(h:cin l):∀w,1≤w→1≤jB w l:=by
 induction l with
 | nil=>intro w hw;exact hw
 | cons e l ih =>
  intro w hw
  have h1:=h e (by simp)
  have:=ih (fun e he=>h e (by simp [he])) (min w e.2.1) (by omega)
  simpa only[jB,List.foldl_cons] using this
theorem Vx(w:Int)(l:List En)(i:Nat)(h:i<l.length):jB w (l.take (i+1))=min (jB w (l.take i)) (l.getD i ([],0,0)).2.1:=by
 rw[List.take_succ_eq_append_getElem h]
 unfold jB
 rw[List.foldl_append]
 simp [List.getD,h]
def mF(t:Fq)(k:List Nat)(w:Int):List En × Int × Bool :=
 if 0≤iG t.e k then (t.e.set (iG t.e k).toNat ((t.e.getD (iG t.e k).toNat eD).1,(fK (t.e.getD (iG t.e k).toNat eD).2.1 w).1,(t.e.getD (iG t.e k).toNat eD).2.2),t.l,(fK (t.e.getD (iG t.e k).toNat eD).2.1 w).2)
 else if (t.e.length:Int)<t.z then (o9 (k,w,0) t.e,t.l,false)
 else (if w > jB w t.e then o9 (k,w-jB w t.e,0) (qw (jB w t.e) t.e) else qw (jB w t.e) t.e,(fK t.l (jB w t.e)).1,(fK t.l (jB w t.e)).2)
def yY(t:Fq)(k:List Nat)(w:Int):Fq × Int :=
 if vFq t≠0 then (Fq.o,vFq t) else if eF k w≠0 then (Fq.o,eF k w) else (⟨t.z,(fK t.t w).1,(mF t k w).2.1,(mF t k w).1,t.b||(fK t.t w).2||(mF t k w).2.2⟩,0)
theorem yZ{l:List En}{i:Nat}(h:yX l i=0):fH (l.getD i eD).1=true∧(1≤(l.getD i eD).2.1∧(l.getD i eD).2.1≤1099511627776)∧(l.getD i eD).2.2=0:=by
 unfold yX at h
 split at h
 ·cases h
 ·rename_i h1
  split at h
  ·cases h
  ·rename_i h2
   have h2:=Classical.byContradiction h2
   exact⟨by simpa using h1,h2.1,h2.2⟩
theorem IC{t:Fq}(h:vFq t=0):(1≤t.z∧t.z≤32)∧(0≤t.t∧t.t≤1099511627776)∧(0≤t.l∧t.l≤1099511627776)∧(t.e.length:Int)≤t.z∧∀i,i<t.e.length→yX t.e i=0:=by
 unfold vFq at h
 split at h
 ·cases h
 ·rename_i h1
  split at h
  ·cases h
  ·rename_i h2
   have h1:=Classical.byContradiction h1
   exact⟨h1.1,h1.2.1,h1.2.2,by omega,fun i hi=>D8 _ _ _ h i (Nat.zero_le _) (by omega)⟩
theorem ajA{l:List En}(h:∀i,i<l.length→yX l i=0):cin l:=by
 intro e he
 obtain⟨i,hi,rfl⟩:=List.getElem_of_mem he
 have:=(yZ (h i hi)).2.1
 simpa [List.getD,hi] using this
theorem aa1:wkV (.agg [vi 0,vi 0,vi 0,nls,vb false]) (.agg (fqF Fq.o)) := .inr ⟨_,_,rfl,rfl,⟨.inl rfl,.inl rfl,.inl rfl,oq _ _,.inl rfl,trivial⟩⟩
theorem zf(x:Fq)(k:List Nat)(w:Int)(ho:oct k)(hx:octE x.e)(hn:x.e.length≤1000000):Gxx 176 [.agg (fqF x),.agg [vs k,vi w]] (.tup [.agg (fqF (yY x k w).1),vi (yY x k w).2]):=by
 have h1:=lm x hx hn
 have h2:=bZ k w
 unfold yY
 by_cases c1:vFq x=0
 ·rw[if_neg (by omega)]
  rw[c1] at h1
  by_cases c2:eF k w=0
  ·rw[if_neg (by omega)]
   rw[c2] at h2
   obtain⟨i1,i2,i2',i3,i4⟩:=IC c1
   have hcin:=ajA i4
   obtain⟨j1,j2⟩:=rJ c2
   have hw:W64 w:=by unfold W64;omega
   have k1:=tH x.t w (by unfold W64;omega) hw
   have k2:=Iz x.e k hx ho (by omega)
   have hfr:=D5 x.e k
   refine Good.fzt (vs:=[.agg [vi x.z,vi (fK x.t w).1,vi (mF x k w).2.1,.sl (.own 0 59) 3 (ev (mF x k w).1),vb (x.b||(fK x.t w).2||(mF x k w).2.2)],vi 0]) ?_ rfl ⟨aA _,aA _,trivial⟩
   have hel:=aY x.e
   by_cases q1:0≤iG x.e k
   ·have ei:mF x k w=(x.e.set (iG x.e k).toNat ((x.e.getD (iG x.e k).toNat eD).1,(fK (x.e.getD (iG x.e k).toNat eD).2.1 w).1,(x.e.getD (iG x.e k).toNat eD).2.2),x.l,(fK (x.e.getD (iG x.e k).toNat eD).2.1 w).2):=if_pos q1
    rw[ei]
    have hlt:(iG x.e k).toNat<x.e.length:=by omega
    have hg:=jr x.e (iG x.e k).toNat hlt
    have her:=yZ (i4 _ hlt)
    have k3:=tH (x.e.getD (iG x.e k).toNat eD).2.1 w (by unfold W64;omega) hw
    generalize x.e.getD (iG x.e k).toNat eD=y at *
    obtain⟨yk,yc,ye⟩:=y
    simp only at hg her k3 ⊢
    have hes:=DI x.e (iG x.e k).toNat yk (fK yc w).1 ye
    generalize hes2:x.e.set (iG x.e k).toNat (yk,(fK yc w).1,ye)=e2 at *
    generalize iG x.e k=fi at *
    generalize fK x.t w=a at *
    generalize fK yc w=a' at *
    obtain⟨a1,a2⟩:=a
    obtain⟨b1,b2⟩:=a'
    simp only at k1 k3 hes ⊢
    obtain⟨z,t,lo,l,b⟩:=x
    simp only at *
    refine gI oD Tryz.func176 Tryz.results176 ?_
    exact wRA (aI @aY (aI @hg @hes)) (aI h1 (aI h2 (aI k1 (aI k2 k3)))) (ids [11])
   ·by_cases q2:(x.e.length:Int)<x.z
    ·have ei:mF x k w=(o9 (k,w,0) x.e,x.l,false):=by unfold mF;rw[if_neg q1,if_pos q2]
     rw[ei]
     have hso:=Gp x.e (k,w,0) hn
     have hfl:=rQ 0 59 3 (o9 (k,w,0) x.e)
     generalize o9 (k,w,0) x.e=e2 at *
     generalize iG x.e k=fi at *
     generalize fK x.t w=a at *
     obtain⟨a1,a2⟩:=a
     simp only at k1 hso ⊢
     obtain⟨z,t,lo,l,b⟩:=x
     simp only at *
     refine gI oD Tryz.func176 Tryz.results176 ?_
     (repeat' first|refine wPA @aY (aI h1 (aI h2 (aI k1 k2))) ?_|refine cF hso hfl ?_|refine tS ?_ ?_<;>intro hc|fail)
     all_goals exact rE [15]
    ·have ei:mF x k w=(if w > jB w x.e then o9 (k,w-jB w x.e,0) (qw (jB w x.e) x.e) else qw (jB w x.e) x.e,(fK x.l (jB w x.e)).1,(fK x.l (jB w x.e)).2):=by unfold mF;rw[if_neg q1,if_neg q2]
     rw[ei]
     have hmle:=RJ x.e w
     have hmge:=RN x.e hcin w (by omega)
     have hlo:=Vw x.e (jB w x.e) hcin (by omega) hn
     have hlf:=rQ 0 59 3 (qw (jB w x.e) x.e)
     have hll:=Lm (jB w x.e) x.e
     have hso:=Gp (qw (jB w x.e) x.e) (k,w-jB w x.e,0) (by omega)
     have hfl:=rQ 0 59 3 (o9 (k,w-jB w x.e,0) (qw (jB w x.e) x.e))
     have k3:=tH x.l (jB w x.e) (by unfold W64;omega) (by unfold W64;omega)
     have hmt:=fun i (hi:i<x.e.length)=>Vx w x.e i hi
     have hm0:jB w (x.e.take 0)=w:=by simp [jB]
     have hmN:jB w (x.e.take x.e.length)=jB w x.e:=by rw[List.take_length]
     have hmle2:=fun i=>RJ (x.e.take i) w
     have hmge2:=fun i=>RN (x.e.take i) (fun e he=>hcin e (List.mem_of_mem_take he)) w (by omega)
     generalize o9 (k,w-jB w x.e,0) (qw (jB w x.e) x.e)=e3 at *
     generalize qw (jB w x.e) x.e=e2 at *
     generalize iG x.e k=fi at *
     generalize fK x.t w=a at *
     generalize fK x.l (jB w x.e)=a' at *
     obtain⟨a1,a2⟩:=a
     obtain⟨b1,b2⟩:=a'
     simp only at k1 k3 hso ⊢
     obtain⟨z,t,lo,l,b⟩:=x
     simp only at *
     cases b
     ·refine gI oD Tryz.func176 Tryz.results176 ?_
      refine wSA @aY (aI h1 (aI h2 (aI k1 k2))) ?_
      refine aK (fun i:Nat=>mkA [(3,.ref 0 0),(4,.ref 1 0),(8,.ref 2 0),(12,vi (jB w (l.take i))),(13,vi i)] [(0,(64,[vs k,vi w])),(1,(88,[vi 0,vi 0,vi 0,nls,vb false])),(2,(88,[vi z,vi a1,vi lo,.sl (.own 0 59) 3 (ev l),vb a2]))] 3 (fun _ => .top)) (fun i=>i≤l.length) (fun i=>l.length-i) 0 [11] [1,2,13] ?_ (Nat.zero_le _) ?_
      ·(refine iy ?_ ?_ (kD _ _ _) (by decide) (by decide) (by decide) (by decide);(repeat' (first|exact trivial|refine gJ _ _ rfl rfl ?_ ?_));all_goals (try simp only[pgs,pgl,pgx,pgf,pgw,fQ,ig,fU,iq,dB,eY,fJ,pgn,simprocAttr]);all_goals (try (repeat' (first|apply aI)));all_goals (try (first|exact trivial|exact gB (by omega)|exact gq rfl|exact aW rfl rfl|exact je rfl)))
       all_goals first|exact gB (by rw[hm0])|skip
      ·intro i hi
       replace hi:i≤l.length:=hi
       rcases Nat.lt_or_ge i l.length with hlt|hge
       ·have hg:=jr l i hlt
        have hmi:=hmt i hlt
        generalize l.getD i ([],0,0)=y at *
        obtain⟨yk,yc,ye⟩:=y
        simp only at hg hmi
        refine wSA (aI @aY @hg) trivial ?_
        exact bE (i+1) [0] [0,1,2] hlt
       ·have:i=l.length:=by omega
        subst this
        rw[hmN]
        by_cases q3:w > jB w l
        ·rw[if_pos q3]
         (repeat' first|refine wPA @aY k3 ?_|refine cF hlo hlf ?_|refine cF hso hfl ?_|refine tS ?_ ?_<;>intro hc|fail)
         all_goals exact rE [4]
        ·rw[if_neg q3]
         (repeat' first|refine wPA @aY k3 ?_|refine cF hlo hlf ?_|refine tS ?_ ?_<;>intro hc|fail)
         all_goals exact rE [3]
     ·refine gI oD Tryz.func176 Tryz.results176 ?_
      refine wSA @aY (aI h1 (aI h2 (aI k1 k2))) ?_
      refine aK (fun i:Nat=>mkA [(3,.ref 0 0),(4,.ref 1 0),(8,.ref 2 0),(12,vi (jB w (l.take i))),(13,vi i)] [(0,(64,[vs k,vi w])),(1,(88,[vi 0,vi 0,vi 0,nls,vb false])),(2,(88,[vi z,vi a1,vi lo,.sl (.own 0 59) 3 (ev l),vb true]))] 3 (fun _ => .top)) (fun i=>i≤l.length) (fun i=>l.length-i) 0 [11] [1,2,13] ?_ (Nat.zero_le _) ?_
      ·(refine iy ?_ ?_ (kD _ _ _) (by decide) (by decide) (by decide) (by decide);(repeat' (first|exact trivial|refine gJ _ _ rfl rfl ?_ ?_));all_goals (try simp only[pgs,pgl,pgx,pgf,pgw,fQ,ig,fU,iq,dB,eY,fJ,pgn,simprocAttr]);all_goals (try (repeat' (first|apply aI)));all_goals (try (first|exact trivial|exact gB (by omega)|exact gq rfl|exact aW rfl rfl|exact je rfl)))
       all_goals first|exact gB (by rw[hm0])|skip
      ·intro i hi
       replace hi:i≤l.length:=hi
       rcases Nat.lt_or_ge i l.length with hlt|hge
       ·have hg:=jr l i hlt
        have hmi:=hmt i hlt
        generalize l.getD i ([],0,0)=y at *
        obtain⟨yk,yc,ye⟩:=y
        simp only at hg hmi
        refine wSA (aI @aY @hg) trivial ?_
        exact bE (i+1) [0] [0,1,2] hlt
       ·have:i=l.length:=by omega
        subst this
        rw[hmN]
        by_cases q3:w > jB w l
        ·rw[if_pos q3]
         (repeat' first|refine wPA @aY k3 ?_|refine cF hlo hlf ?_|refine cF hso hfl ?_|refine tS ?_ ?_<;>intro hc|fail)
         all_goals exact rE [4]
        ·rw[if_neg q3]
         (repeat' first|refine wPA @aY k3 ?_|refine cF hlo hlf ?_|refine tS ?_ ?_<;>intro hc|fail)
         all_goals exact rE [3]
  ·rw[if_pos (by omega)]
   refine Good.fzt (vs:=[.agg [vi 0,vi 0,vi 0,nls,vb false],vi (eF k w)]) ?_ rfl ⟨aa1,aA _,trivial⟩
   refine gI oD Tryz.func176 Tryz.results176 ?_
   exact wRA trivial (aI h1 h2) ah
 ·rw[if_pos (by omega)]
  refine Good.fzt (vs:=[.agg [vi 0,vi 0,vi 0,nls,vb false],vi (vFq x)]) ?_ rfl ⟨aa1,aA _,trivial⟩
  refine gI oD Tryz.func176 Tryz.results176 ?_
  exact wRA trivial h1 ah
theorem svS(l:List (List Nat))(x:List Nat):sv l++[V.c (.string (sB x))]=sv (l++[x]):=by simp [sv]
theorem aa2(l:List (List Nat))(i:Nat)(k:List Nat):(sv l).set i (vs k)=sv (l.set i k):=by simp [sv,List.map_set]
theorem RP(l:List (List Nat))(n:Nat):(sv l).drop n=sv (l.drop n):=by simp [sv,List.map_drop]
theorem D9(l:List (List Nat))(hn:l.length≤1000000):Gxx 241 [fzs l] (.sl (.own 0 9) 1 (sv (srt kl l))):=by
 have hel:=au l
 refine gI oW Tryz.func241 Tryz.results241 ?_
 refine wS trivial trivial ?_
 refine aK (fun x:Nat × List (List Nat)=>mkA [(0,fzs l),(3,.sl (.own 0 9) 1 (sv x.2.reverse)),(4,vi x.1)] [] 1 (fun _ => .top)) (fun x=>x.1≤l.length∧x.2.length=x.1∧Ac kl x.2 (l.drop x.1)=Ac kl [] l) (fun x=>l.length-x.1) (0,[]) [] [] ?_ ⟨Nat.zero_le _,rfl,rfl⟩ ?_
 ·exact kE
  all_goals first|exact gK rfl|skip
 ·rintro⟨i,acc⟩ ⟨hi,ha,hs⟩
  simp only at hi ha hs
  have hal:(sv acc.reverse).length=i:=by rw[au,List.length_reverse,ha]
  rcases Nat.lt_or_ge i l.length with hlt|hge
  ·rw[mD l i [] hlt] at hs
   have hg:=iK l i hlt
   generalize l.getD i []=x at *
   have hsn:sv acc.reverse++[vs x]=sv (mov acc x []):=by rw[svS];unfold mov;rfl
   have hml:(sv (mov acc x [])).length=i+1:=by rw[au,BR,ha];rfl
   (repeat' (first|(simp (disch:=first|exact dqz|fail) only[pgz,simprocAttr,hg,au,hsn,hml,hal])|((with_reducible first|apply di|apply bK|apply dw)<;>intro hc<;>(try simp only[hc])<;>(try simp only[pgd] at hc))|(with_reducible refine cK ?_)))
   refine aK (fun y:List (List Nat) × List (List Nat)=>mkA [(0,fzs l),(3,.sl (.own 0 9) 1 (sv (mov y.1 x y.2))),(4,vi i),(5,vi y.1.length)] [] 1 (fun _ => .top)) (fun y=>y.1.length+y.2.length=i∧(qV kl x y.1).reverse++y.2=(qV kl x acc).reverse) (fun y=>y.1.length) (acc,[]) [0] [] ?_ ⟨by simp [ha],by simp⟩ ?_
   ·(refine iy ?_ ?_ (kD _ _ _) (by decide) (by decide) (by decide) (by decide);(repeat' (first|exact trivial|refine gJ _ _ rfl rfl ?_ ?_));all_goals (try simp only[pgs,pgl,pgx,pgf,pgw,fQ,ig,fU,iq,dB,eY,fJ,pgn,simprocAttr]);all_goals (try (repeat' (first|apply aI)));all_goals (try (first|exact trivial|exact gB (by omega)|exact gq rfl|exact aW rfl rfl|exact je rfl)))
    all_goals exact gB (by omega)
   ·rintro⟨p,t⟩ ⟨hp1,hp2⟩
    simp only at hp1 hp2
    have hmp:=BR p x t
    have hmp2:(sv (mov p x t)).length=i+1:=by rw[au,hmp];omega
    cases p with
    | nil =>
     rw[BU kl [] x t (.inl rfl)] at hp2
     refine wS @hmp2 trivial ?_
     refine bC (i+1,qV kl x acc) [0] [] ⟨hlt,by simp only;rw[uU,ha],by simp only;rw[←hs];rfl⟩ (by show l.length-(i+1)<l.length-i;omega) ?_
     refine kL ?_
     all_goals exact aW rfl (by rw[hp2])
    | cons y p =>
     have g1:=iK (mov (y::p) x t) (p.length+1) (by rw[hmp];simp only[List.length_cons];omega)
     have g2:=iK (mov (y::p) x t) p.length (by rw[hmp];simp only[List.length_cons];omega)
     have m1:(mov (y::p) x t).getD (p.length+1) []=x:=aaW (y::p) x t _
     rw[m1] at g1
     rw[RI] at g2
     have hi1:(((y::p).length:Nat):Int)=(p.length:Int)+1:=by simp
     have hi2:((p.length:Int)+1).toNat=p.length+1:=by omega
     have hi3:((p.length:Int)+1-1)=(p.length:Int):=by omega
     cases hbf:kl x y
     ·rw[BU kl (y::p) x t (.inr ⟨y,p,rfl,hbf⟩)] at hp2
      refine wS (aI @hi1 (aI @hi2 (aI @hi3 (aI @hmp2 (aI @g1 (aI @g2 (aI @rP @hbf))))))) trivial ?_
      refine bC (i+1,qV kl x acc) [0] [] ⟨hlt,by simp only;rw[uU,ha],by simp only;rw[←hs];rfl⟩ (by show l.length-(i+1)<l.length-i;omega) ?_
      refine kL ?_
      all_goals exact aW rfl (by rw[hp2])
     ·rw[aaX kl y p x t hbf] at hp2
      have hsw:=Lh y p x t
      have hs1:(sv (mov (y::p) x t)).set (p.length+1) (vs y)=sv ((mov (y::p) x t).set (p.length+1) y):=aa2 _ _ _
      have hs2:(sv ((mov (y::p) x t).set (p.length+1) y)).set p.length (vs x)=sv (mov p x (y::t)):=by
       rw[aa2]
       exact congrArg sv hsw
      have hl1:(sv ((mov (y::p) x t).set (p.length+1) y)).length=i+1:=by rw[au,List.length_set,hmp];simp only[List.length_cons] at hp1 ⊢;omega
      have hg3:(sv ((mov (y::p) x t).set (p.length+1) y))[p.length]?=some (vs y):=by rw[←hs1,List.getElem?_set_ne (by omega),g2]
      generalize (mov (y::p) x t).set (p.length+1) y=mm at hs1 hs2 hl1 hg3
      refine wS (aI @hi1 (aI @hi2 (aI @hi3 (aI @hmp2 (aI @g1 (aI @g2 (aI @hs1 (aI @hs2 (aI @hl1 (aI @hg3 (aI @rP @hbf))))))))))) trivial ?_
      refine bC (p,y::t) [0] [] ⟨by simp only[List.length_cons] at hp1 ⊢;omega,hp2⟩ (by show p.length<(y::p).length;simp) ?_
      refine kL ?_
      all_goals (simp only[pgo,hs1,hs2];first|exact trivial|exact aW rfl rfl)
  ·have:i=l.length:=by omega
   subst this
   rw[List.drop_length] at hs
   have hs':acc=Ac kl [] l:=hs
   refine wS @au trivial ?_
   (refine rT [0] ?_;first|rfl|simp only[pgo,simprocAttr]|skip)
   all_goals (unfold srt;rw[hs'];rfl)
theorem Lp(n:Int):Gxx 217 [vi n] (vb (decide (0≤n∧n≤1073741824))):=by
 by_cases h1:0≤n
 ·by_cases h2:n≤1073741824
  ·rw[decide_eq_true ⟨h1,h2⟩]
   refine gI oW Tryz.func217 Tryz.results217 ?_
   exact wR trivial trivial ah
  ·rw[decide_eq_false (by omega)]
   refine gI oW Tryz.func217 Tryz.results217 ?_
   exact wR trivial trivial ah
 ·rw[decide_eq_false (by omega)]
  refine gI oW Tryz.func217 Tryz.results217 ?_
  exact wR trivial trivial ah
def Gs(l:List (List Nat))(i:Nat):Int:=if fH (l.getD i [])=false then 7 else if 0<i∧kl (l.getD i []) (l.getD (i-1) [])=true then 19 else 0
def uY(z:Int)(v:List (List (List Nat)))(h:Nat):Int:=if ((v.getD h []).length:Int)≥z then 11 else tC (Gs (v.getD h [])) (v.getD h []).length 0
def unR(v:List (List (List Nat))):Nat→Int
 | 0=>0
 | n+1=>unR v n+(v.getD n []).length*2^n
def aa3(t:Int)(v:List (List (List Nat))):Int:=if 0<v.length∧(v.getD (v.length-1) []).length=0 then 18 else if unR v v.length≠t then 17 else 0
def vRk(x:Rk):Int:=if ¬(((2≤x.z∧x.z≤32)∧x.z%2=0)∧(0≤x.t∧x.t≤1099511627776)∧(0≤x.l∧x.l≤1099511627776)) then 5 else if x.v.length > 41 then 11
 else if tC (uY x.z x.v) x.v.length 0≠0 then tC (uY x.z x.v) x.v.length 0 else aa3 x.t x.v
def octL(l:List (List Nat)):Prop:=∀e∈l,oct e
theorem uZ{l:List (List Nat)}(h:octL l)(i:Nat):oct (l.getD i []):=by
 rcases Nat.lt_or_ge i l.length with hi|hi
 ·have:l.getD i []=l[i]:=by simp [List.getD,hi]
  rw[this];exact h _ (List.getElem_mem hi)
 ·have:l.getD i []=[]:=by simp [List.getD,hi]
  rw[this];exact dV
theorem ajB(v:List (List (List Nat)))(n:Nat)(hn:n≤41)(h:∀i,i<n→(v.getD i []).length<32):0≤unR v n∧unR v n≤n*35184372088832:=by
 induction n with
 | zero=>exact⟨Int.le_refl _,Int.le_refl _⟩
 | succ n ih =>
  obtain⟨h1,h2⟩:=ih (by omega) (fun i hi=>h i (by omega))
  have h3:=h n (by omega)
  have h4:2^n≤2^40:=Nat.pow_le_pow_right (by decide) (by omega)
  have h5:(v.getD n []).length*2^n≤32*2^40:=Nat.mul_le_mul (by omega) h4
  have h6:(((v.getD n []).length*2^n:Nat):Int)=((v.getD n []).length:Int)*2^n:=by simp
  simp only[unR]
  rw[←h6]
  generalize (v.getD n []).length*2^n=m at *
  omega
theorem ajC(l n:Nat)(hl:l<32)(hn:n≤40):IntKind.i64.wrap ((l:Int)*2^min n IntKind.i64.bits)=(l:Int)*2^n∧0≤(l:Int)*2^n∧(l:Int)*2^n≤35184372088832:=by
 have h4:2^n≤2^40:=Nat.pow_le_pow_right (by decide) hn
 have h5:l*2^n≤32*2^40:=Nat.mul_le_mul (by omega) h4
 have h6:((l*2^n:Nat):Int)=(l:Int)*2^n:=by simp
 have h7:min n IntKind.i64.bits=n:=Nat.min_eq_left (show n≤64 by omega)
 rw[h7,←h6]
 generalize l*2^n=m at *
 refine⟨?_,by omega,by omega⟩
 exact Y2 _ (by omega) (by omega)
theorem nG(x:Rk)(hv:∀l∈x.v,octL l)(hn:x.v.length≤1000000)(hn2:∀l∈x.v,l.length≤1000000):Gxx 160 [.agg (rkF x)] (vi (vRk x)):=by
 obtain⟨z,t,lo,v,b⟩:=x
 simp only at hv hn hn2
 have hv':∀i,octL (v.getD i []):=fun i=>by
  rcases Nat.lt_or_ge i v.length with hi|hi
  ·have:v.getD i []=v[i]:=by simp [List.getD,hi]
   rw[this];exact hv _ (List.getElem_mem hi)
  ·have:v.getD i []=[]:=by simp [List.getD,hi]
   rw[this];intro e he;cases he
 unfold vRk
 simp only
 have hel:=mr v
 by_cases c1:((2≤z∧z≤32)∧z%2=0)∧(0≤t∧t≤1099511627776)∧(0≤lo∧lo≤1099511627776)
 ·rw[if_neg (fun h=>h c1)]
  have k1:=aU z 2 32 c1.1.1
  have k2:=aU t 0 1099511627776 c1.2.1
  have k2':=aU lo 0 1099511627776 c1.2.2
  have et:z.tmod 2=z%2:=Int.tmod_eq_emod_of_nonneg (by omega)
  by_cases c2:v.length > 41
  ·rw[if_pos c2]
   refine gI oW Tryz.func160 Tryz.results160 ?_
   exact wR (aI @mr @et) (aI k1 (aI k2 k2')) ah
  ·rw[if_neg c2]
   refine gI oW Tryz.func160 Tryz.results160 ?_
   refine wS (aI @mr @et) (aI k1 (aI k2 k2')) ?_
   generalize hE:tC (uY z v) v.length 0=E
   generalize hR:(if E≠0 then E else aa3 t v)=R
   refine aK (fun i:Nat=>mkA [(1,.ref 0 0),(3,vi (unR v i)),(4,vi i)] [(0,(91,rkF ⟨z,t,lo,v,b⟩))] 1 (fun _ => .top)) (fun i=>i≤v.length∧tC (uY z v) (v.length-i) i=E∧∀j,j<i→(v.getD j []).length<32) (fun i=>v.length-i) 0 [] [0] ?_ ⟨Nat.zero_le _,hE,fun j hj=>by omega⟩ ?_
   ·exact kE
    all_goals first|exact gB rfl|skip
   ·rintro h ⟨hi,he,hlt32⟩
    rcases Nat.lt_or_ge h v.length with hlt|hge
    ·have hg:=uK v h hlt
     have hoct:=hv' h
     have hun:=ajB v h (by omega) hlt32
     rw[show v.length-h=(v.length-(h+1))+1 by omega] at he
     have eRk:uY z v h=if ((v.getD h []).length:Int)≥z then 11 else tC (Gs (v.getD h [])) (v.getD h []).length 0:=rfl
     have eun:unR v (h+1)=unR v h+(v.getD h []).length*2^h:=rfl
     have ext:∀c:Int,c≠0→uY z v h=c→c=R:=fun c h0 h1=>by
      rw[D7 _ _ _ (by omega)] at he
      rw[←hR,←he,h1,if_pos h0]
     have hlt32':(v.getD h []).length<32→∀j,j<h+1→(v.getD j []).length<32:=fun h0 j hj=>by
      rcases Nat.lt_or_ge j h with h1|h1
      ·exact hlt32 j h1
      ·have:j=h:=by omega
       rw[this];exact h0
     generalize hlev:v.getD h []=lev at *
     have hsl:=au lev
     generalize hS:unR v h=S at *
     by_cases q1:(lev.length:Int)≥z
     ·rw[if_pos q1] at eRk
      have:=ext 11 (by omega) eRk
      subst this
      exact wR (aI @pgv (aI @hel (aI @hg @hsl))) trivial ah
     ·rw[if_neg q1] at eRk
      have hlt32'':=hlt32' (by omega)
      obtain⟨hsh,hsh1,hsh2⟩:=ajC lev.length h (by omega) (by omega)
      refine wS (aI @pgv (aI @hel (aI @hg @hsl))) trivial ?_
      refine aK (fun i:Nat=>mkA [(1,.ref 0 0),(3,vi S),(4,vi h),(5,vi i)] [(0,(91,rkF ⟨z,t,lo,v,b⟩))] 1 (fun _ => .top)) (fun i=>i≤lev.length∧tC (Gs lev) (lev.length-i) i=uY z v h) (fun i=>lev.length-i) 0 [] [0] ?_ ⟨Nat.zero_le _,eRk.symm⟩ ?_
      ·exact kE
      ·rintro i ⟨hi2,he2⟩
       rcases Nat.lt_or_ge i lev.length with hlt2|hge2
       ·have hg2:=iK lev i hlt2
        rw[show lev.length-i=(lev.length-(i+1))+1 by omega] at he2
        have k3:=uH (lev.getD i [])
        have eLv:Gs lev i=if fH (lev.getD i [])=false then 7 else if 0<i∧kl (lev.getD i []) (lev.getD (i-1) [])=true then 19 else 0:=rfl
        have hox:=uZ hoct i
        generalize lev.getD i []=xk at *
        have ext2:∀c:Int,c≠0→Gs lev i=c→c=R:=fun c h0 h1=>by
         rw[D7 _ _ _ (by omega),h1] at he2
         exact ext c h0 he2.symm
        cases q2:fH xk
        ·rw[q2] at k3 eLv
         have:=ext2 7 (by omega) (by rw[eLv];rfl)
         subst this
         exact wR (aI @pgv (aI @hel (aI @hg (aI @hsl @hg2)))) k3 ah
        ·rw[q2] at k3 eLv
         rw[if_neg (by simp)] at eLv
         by_cases q4:0<i
         ·have hg3:=iK lev (i-1) (by omega)
          have hi1:((i:Int)-1).toNat=i-1:=by omega
          generalize lev.getD (i-1) []=yk at *
          cases q5:kl xk yk
          ·rw[if_neg (by rw[q5];simp)] at eLv
           rw[uV _ _ _ eLv] at he2
           refine wS (aI @pgv (aI @hel (aI @hg (aI @hsl (aI @hg2 (aI @hg3 (aI @hi1 (aI @rP @q5)))))))) k3 ?_
           exact bE (i+1) [] [0] ⟨hlt2,he2⟩
          ·rw[if_pos ⟨q4,q5⟩] at eLv
           have:=ext2 19 (by omega) eLv
           subst this
           exact wR (aI @pgv (aI @hel (aI @hg (aI @hsl (aI @hg2 (aI @hg3 (aI @hi1 (aI @rP @q5)))))))) k3 ah
         ·rw[if_neg (by omega)] at eLv
          rw[uV _ _ _ eLv] at he2
          refine wS (aI @pgv (aI @hel (aI @hg (aI @hsl @hg2)))) k3 ?_
          exact bE (i+1) [] [0] ⟨hlt2,he2⟩
       ·have:i=lev.length:=by omega
        subst this
        rw[Nat.sub_self] at he2
        have he3:uY z v h=0:=he2.symm
        rw[uV _ _ _ he3] at he
        refine wS (aI @pgv (aI @hel (aI @hg (aI @hsl @hsh)))) trivial ?_
        (refine bC (h+1) [] [0] (⟨hlt,he,hlt32''⟩) (by first|omega|(simp only[List.length_cons];omega)) ?_;(refine iy ?_ ?_ (kD _ _ _) (by decide) (by decide) (by decide) (by decide);(repeat' (first|exact trivial|refine gJ _ _ rfl rfl ?_ ?_));all_goals (try simp only[pgs,pgl,pgx,pgf,pgw,fQ,ig,fU,iq,dB,eY,fJ,pgn,simprocAttr]);all_goals (try (repeat' (first|apply aI)));all_goals (try (first|exact trivial|exact gB (by omega)|exact gq rfl|exact aW rfl rfl|exact je rfl))))
        all_goals first|exact gB (by rw[eun])|skip
    ·have:h=v.length:=by omega
     subst this
     rw[Nat.sub_self] at he
     have he0:0=E:=he
     subst he0
     rw[if_neg (by omega)] at hR
     unfold aa3 at hR
     by_cases q6:0<v.length
     ·have hg:=uK v (v.length-1) (by omega)
      have hi1:((v.length:Int)-1).toNat=v.length-1:=by omega
      generalize v.getD (v.length-1) []=lev at *
      have hsl:=au lev
      by_cases q7:lev.length=0
      ·rw[if_pos ⟨q6,q7⟩] at hR
       subst hR
       exact wR (aI @pgv (aI @hel (aI @hg (aI @hsl @hi1)))) trivial ah
      ·rw[if_neg (by omega)] at hR
       by_cases q8:unR v v.length=t
       ·rw[if_neg (by omega)] at hR
        subst hR
        exact wR (aI @pgv (aI @hel (aI @hg (aI @hsl @hi1)))) trivial ah
       ·rw[if_pos q8] at hR
        subst hR
        exact wR (aI @pgv (aI @hel (aI @hg (aI @hsl @hi1)))) trivial ah
     ·rw[if_neg (by omega)] at hR
      by_cases q8:unR v v.length=t
      ·rw[if_neg (by omega)] at hR
       subst hR
       exact wR (aI @pgv @hel) trivial ah
      ·rw[if_pos q8] at hR
       subst hR
       exact wR (aI @pgv @hel) trivial ah
 ·rw[if_pos c1]
  have k1:=fC z 2 32
  have k2:=fC t 0 1099511627776
  have k3:=fC lo 0 1099511627776
  by_cases c2:2≤z∧z≤32
  ·rw[uI c2] at k1
   have et:z.tmod 2=z%2:=Int.tmod_eq_emod_of_nonneg (by omega)
   by_cases c4:z%2=0
   ·by_cases c3:0≤t∧t≤1099511627776
    ·rw[uI c3] at k2
     rw[jY (by omega)] at k3
     refine gI oW Tryz.func160 Tryz.results160 ?_
     exact wR @et (aI k1 (aI k2 k3)) ah
    ·rw[jY c3] at k2
     refine gI oW Tryz.func160 Tryz.results160 ?_
     exact wR @et (aI k1 k2) ah
   ·refine gI oW Tryz.func160 Tryz.results160 ?_
    exact wR @et k1 ah
  ·rw[jY c2] at k1
   refine gI oW Tryz.func160 Tryz.results160 ?_
   exact wR trivial k1 ah
def pwI(h:Nat):Int:=IntKind.i64.wrap (1*2^min h IntKind.i64.bits)
theorem aa4(h:Nat):IntKind.i64.wrap (1*2^min h IntKind.i64.bits)=pwI h:=rfl
theorem ahd(h:Nat):W64 (pwI h):=by
 unfold pwI W64
 rw[IntKind.wrap_i64]
 omega
theorem anQ(n:Int):bits .and .i64 n 1=n%2:=jH n 1 (by decide)
theorem RQ(co:List Nat)(i:Int):Iq co i=0∨Iq co i=1:=by
 unfold Iq
 split
 ·exact .inl rfl
 ·rw[anQ];omega
theorem aow(a b:List (List Nat)):sv a++sv b=sv (a++b):=by simp [sv]
theorem aou(l:List (List Nat)):V.flatL (sv l)=true:=by
 induction l with
 | nil=>rfl
 | cons a l ih=>simp only[sv,List.map_cons,V.flatL,V.flat] at ih ⊢;simpa using ih
theorem Lr(id:Nat)(e:TypeId)(l:List (List Nat)):(V.sl (.own id e) 1 (sv l)).flat=true:=aou l
theorem pY(i k:Nat)(e:TypeId)(xs:List V):V.free (.sl (.own i e) k xs)=false:=rfl
def evN(l:List (List Nat))(c n:Nat):List (List Nat):=(List.range n).map fun j=>l.getD (c+2*j) []
theorem Ls(l:List (List Nat))(c n:Nat):evN l c n++[l.getD (c+2*n) []]=evN l c (n+1):=by simp [evN,List.range_succ]
theorem IE(l:List (List Nat))(c n:Nat):(evN l c n).length=n:=by simp [evN]
abbrev Stl:=Nat × List (List Nat) × Int × Int × List (List (List Nat))
def iD(v:List (List (List Nat)))(s:Stl):List (List Nat):=srt kl (if s.1<v.length then v.getD s.1 []++s.2.1 else s.2.1)
def jZ(v:List (List (List Nat)))(z:Int)(co:List Nat)(s:Stl):Stl :=
 if ((iD v s).length:Int)<z then (s.1+1,[],s.2.2.1,s.2.2.2.1,s.2.2.2.2++[iD v s])
 else (s.1+1,evN (iD v s) (Iq co s.2.2.2.1).toNat ((iD v s).length / 2),(fK s.2.2.1 (pwI s.1)).1,s.2.2.2.1+1,s.2.2.2.2++[(iD v s).drop ((iD v s).length / 2*2)])
def vg(v:List (List (List Nat)))(z:Int)(co:List Nat):Nat→Stl→Stl
 | 0,s=>s
 | f+1,s=>if s.1<v.length∨0<s.2.1.length then vg v z co f (jZ v z co s) else s
def zg(v:List (List (List Nat)))(M:Nat)(s:Stl):Nat:=(v.length-s.1)*(M+1)+s.2.1.length
theorem Ea(v:List (List (List Nat)))(s:Stl):(iD v s).length=(if s.1<v.length then (v.getD s.1 []).length else 0)+s.2.1.length:=by
 unfold iD
 rw[RG]
 split<;>simp
theorem ajD(v:List (List (List Nat)))(z:Int)(hz:2≤z)(co:List Nat)(M:Nat)(hM:∀i,(v.getD i []).length≤M)(s:Stl)(hs:s.2.1.length≤M)(hc:s.1<v.length∨0<s.2.1.length) :
  (jZ v z co s).2.1.length≤M∧zg v M (jZ v z co s)<zg v M s:=by
 have hl:=Ea v s
 have hi:=hM s.1
 obtain⟨h,ca,lo,a,o⟩:=s
 have key:(jZ v z co (h,ca,lo,a,o)).1=h+1∧(jZ v z co (h,ca,lo,a,o)).2.1.length≤(iD v (h,ca,lo,a,o)).length / 2:=by
  unfold jZ
  by_cases q:((iD v (h,ca,lo,a,o)).length:Int)<z
  ·rw[if_pos q];exact⟨rfl,Nat.zero_le _⟩
  ·rw[if_neg q];exact⟨rfl,by simp only[IE];omega⟩
 obtain⟨k1,k2⟩:=key
 unfold zg
 rw[k1]
 generalize (jZ v z co (h,ca,lo,a,o)).2.1.length=n at *
 simp only at *
 rcases Nat.lt_or_ge h v.length with h1|h1
 ·rw[if_pos h1] at hl
  have e:v.length-h=(v.length-(h+1))+1:=by omega
  have e2:(v.length-h)*(M+1)=(v.length-(h+1))*(M+1)+(M+1):=by rw[e,Nat.succ_mul]
  rw[e2]
  generalize (v.length-(h+1))*(M+1)=q
  omega
 ·rw[if_neg (by omega)] at hl
  have e:v.length-h=0:=by omega
  have e2:v.length-(h+1)=0:=by omega
  rw[e,e2,Nat.zero_mul]
  omega
def qf:Nat→List (List (List Nat))→List (List (List Nat))
 | 0,l=>l
 | f+1,l=>if 0<l.length∧(l.getD (l.length-1) []).length=0 then qf f (l.take (l.length-1)) else l
def tJ(v:List (List (List Nat)))(z lost:Int)(co:List Nat)(at':Int)(M:Nat):Stl:=vg v z co (v.length*(M+1)) (0,[],lost,at',[])
theorem afw(v:List (List (List Nat)))(z:Int)(co:List Nat):∀(f:Nat) (s:Stl),(vg v z co f s).2.2.2.2.length≤s.2.2.2.2.length+f:=by
 intro f
 induction f with
 | zero=>intro s;exact Nat.le_refl _
 | succ f ih =>
  intro s
  unfold vg
  split
  ·have:=ih (jZ v z co s)
   have h:(jZ v z co s).2.2.2.2.length=s.2.2.2.2.length+1:=by unfold jZ;split<;>simp
   omega
  ·omega
theorem Vy(v:List (List (List Nat)))(z lost:Int)(co:List Nat)(at':Int)(M:Nat)(hz:2≤z∧z≤32)(hco:oct co)(hM:∀i,(v.getD i []).length≤M)(hM2:M≤10000)(hv:v.length≤100)(hl:W64 lost)(ha:0≤at'∧at'≤1073741824) :
  Gxx 219 [fzl v,vi z,vi lost,fzb co,vi at'] (.tup [fzl (qf (tJ v z lost co at' M).2.2.2.2.length (tJ v z lost co at' M).2.2.2.2),vi (tJ v z lost co at' M).2.2.1,vi (tJ v z lost co at' M).2.2.2.1]):=by
 have hvl:=mr v
 have hF:v.length*(M+1)≤100*10001:=Nat.mul_le_mul hv (by omega)
 unfold tJ
 generalize hR:vg v z co (v.length*(M+1)) (0,[],lost,at',[])=R
 refine gI oW Tryz.func219 Tryz.results219 ?_
 refine wS trivial trivial ?_
 refine aK (fun x:Nat × Stl=>mkA [(0,fzl v),(1,vi z),(2,vi x.2.2.2.1),(3,fzb co),(4,vi x.2.2.2.2.1),(13,.sl (.own 0 23) 1 (lv x.2.2.2.2.2)),(14,.sl (.own 1 9) 1 (sv x.2.2.1)),(15,vi x.2.1)] [] 2 (fun _ => .top))
  (fun x=>zg v M x.2≤x.1∧x.2.2.1.length≤M∧W64 x.2.2.2.1∧vg v z co x.1 x.2=R∧x.1+x.2.1=v.length*(M+1)∧x.2.2.2.2.2.length=x.2.1∧0≤x.2.2.2.2.1∧x.2.2.2.2.1≤1073741824+x.2.1) (fun x=>x.1) (v.length*(M+1),(0,[],lost,at',[])) [] [] ?_ ⟨by simp [zg],Nat.zero_le _,hl,hR,rfl,rfl,ha.1,by simp only;omega⟩ ?_
 ·exact kE
  all_goals first|exact gK rfl|skip
 ·rintro⟨f,h,ca,lo,a,o⟩ ⟨i1,i2,i3,i4,i5,i6,i7,i8⟩
  simp only at i1 i2 i3 i4 i5 i6 i7 i8
  have hcl:=au ca
  have hol:=mr o
  by_cases hc:h<v.length∨0<ca.length
  ·have hmu:=ajD v z hz.1 co M hM (h,ca,lo,a,o) i2 hc
   have hcu:=Ea v (h,ca,lo,a,o)
   have est:jZ v z co (h,ca,lo,a,o)=if ((iD v (h,ca,lo,a,o)).length:Int)<z then (h+1,[],lo,a,o++[iD v (h,ca,lo,a,o)]) else (h+1,evN (iD v (h,ca,lo,a,o)) (Iq co a).toNat ((iD v (h,ca,lo,a,o)).length / 2),(fK lo (pwI h)).1,a+1,o++[(iD v (h,ca,lo,a,o)).drop ((iD v (h,ca,lo,a,o)).length / 2*2)]):=rfl
   cases f with
   | zero=>exact absurd hmu.2 (by omega)
   | succ f =>
   have e:vg v z co (f+1) (h,ca,lo,a,o)=vg v z co f (jZ v z co (h,ca,lo,a,o)):=if_pos hc
   rw[e] at i4
   by_cases hlt:h<v.length
   ·have ecu:iD v (h,ca,lo,a,o)=srt kl (v.getD h []++ca):=by unfold iD;simp only[if_pos hlt]
    have hg:=uK v h hlt
    have hlM:=hM h
    simp only[if_pos hlt] at hcu
    have hso:=D9 (v.getD h []++ca) (by rw[List.length_append];omega)
    rw[←ecu] at hso
    have hfl:=Lr 0 9 (iD v (h,ca,lo,a,o))
    have hbi:=Z4 co hco a (by omega)
    have hb01:=RQ co a
    generalize iD v (h,ca,lo,a,o)=cur at *
    have hsl:=au cur
    have hap:=aow (v.getD h []) ca
    have hsl2:=au (v.getD h [])
    generalize v.getD h []++ca=lc at *
    generalize v.getD h []=lev at *
    by_cases q1:(cur.length:Int)<z
    ·rw[if_pos q1] at est
     rw[est] at hmu i4
     have hls:=yz o cur
     (repeat' first|refine wP (aI @pgv (aI @pY (aI @aF (aI @false_or (aI @Bool.false_eq_true (aI @Option.bind_none.{0,0} (aI @hvl (aI @hcl (aI @hol (aI @hg (aI @hap (aI @hsl (aI @hls @hsl2))))))))))))) trivial ?_|refine cF hso hfl ?_|refine tS ?_ ?_<;>intro hc|fail)
     refine bC (f,(h+1,[],lo,a,o++[cur])) [0,1] [] ⟨by have:=hmu.2;show zg v M (h+1,[],lo,a,o++[cur])≤f;omega,Nat.zero_le _,i3,i4,by simp only;omega,by simp [i6],i7,by simp only;omega⟩ (by show f<f+1;omega) ?_
     exact kE
     all_goals exact gK rfl
    ·rw[if_neg q1] at est
     rw[est] at hmu i4
     have k5:=tH lo (pwI h) i3 (ahd h)
     have har:=Ad lo (pwI h)
     have ed:(cur.length:Int).tdiv 2=((cur.length / 2:Nat):Int):=by rw[Int.tdiv_eq_ediv_of_nonneg (by omega)];omega
     have em:(((cur.length / 2:Nat):Int)*2).toNat=cur.length / 2*2:=by omega
     have hdr:=RP cur (cur.length / 2*2)
     have hls:=yz o (cur.drop (cur.length / 2*2))
     obtain⟨cn,hcn,hcn1⟩:∃cn:Nat,Iq co a=(cn:Int)∧cn≤1:=by
      rcases hb01 with h|h
      ·exact⟨0,h,by decide⟩
      ·exact⟨1,h,by decide⟩
     rw[hcn] at hbi est hmu i4
     rw[Int.toNat_natCast] at est hmu i4
     (repeat' first|refine wP (aI @pgv (aI @pY (aI @aF (aI @false_or (aI @Bool.false_eq_true (aI @Option.bind_none.{0,0} (aI @hvl (aI @hcl (aI @hol (aI @hg (aI @hap (aI @hsl (aI @hsl2 @ed))))))))))))) hbi ?_|refine cF hso hfl ?_|refine tS ?_ ?_<;>intro hc|fail)
     refine aK (fun j:Nat=>mkA [(0,fzl v),(1,vi z),(2,vi lo),(3,fzb co),(4,vi a),(13,.sl (.own 0 23) 1 (lv o)),(14,.sl (.own 1 9) 1 (sv (evN cur cn j))),(15,vi h),(16,.sl (.own 2 9) 1 (sv cur)),(17,vi (((cur.length / 2:Nat):Int)*2)),(18,vi ((cn:Int)+2*j))] [] 3 (fun _ => .top)) (fun j=>j≤cur.length / 2) (fun j=>cur.length / 2-j) 0 [0,1,3] [] ?_ (Nat.zero_le _) ?_
     ·exact kE
      all_goals exact gK rfl
     ·intro j hj
      replace hj:j≤cur.length / 2:=hj
      have hev:(sv (evN cur cn j)).length=j:=by rw[au,IE]
      rcases Nat.lt_or_ge j (cur.length / 2) with hjl|hjg
      ·have hin:((cn:Int)+2*(j:Int)).toNat=cn+2*j:=by omega
       have hg2:=iK cur (cn+2*j) (by omega)
       have hsn:sv (evN cur cn j)++[vs (cur.getD (cn+2*j) [])]=sv (evN cur cn (j+1)):=by rw[svS,Ls]
       refine wS (aI @pgv (aI @hsl (aI @hin (aI @hg2 (aI @hsn @hev))))) trivial ?_
       exact bE (j+1) [0,1,2] [] hjl
       all_goals first|exact gB (by omega)|skip
      ·have:j=cur.length / 2:=by omega
       subst this
       refine wS (aI @pgv (aI @pY (aI @aF (aI @false_or (aI @Bool.false_eq_true (aI @Option.bind_none.{0,0} (aI @hvl (aI @hcl (aI @hol (aI @hsl (aI @hev (aI @em (aI @hdr (aI @hls @aa4)))))))))))))) k5 ?_
       refine bC (f,(h+1,evN cur cn (cur.length / 2),(fK lo (pwI h)).1,a+1,o++[cur.drop (cur.length / 2*2)])) [0,1] [] ⟨by have:=hmu.2;show zg v M (h+1,evN cur cn (cur.length / 2),(fK lo (pwI h)).1,a+1,o++[cur.drop (cur.length / 2*2)])≤f;omega,hmu.1,by simp only;unfold W64;omega,i4,by simp only;omega,by simp [i6],by simp only;omega,by simp only;omega⟩ (by show f<f+1;omega) ?_
       exact kE
   ·have hca:0<ca.length:=by rcases hc with h|h;exact absurd h hlt;exact h
    have ecu:iD v (h,ca,lo,a,o)=srt kl ca:=by unfold iD;simp only[if_neg hlt]
    simp only[if_neg hlt] at hcu
    have hso:=D9 ca (by omega)
    rw[←ecu] at hso
    have hfl:=Lr 0 9 (iD v (h,ca,lo,a,o))
    have hbi:=Z4 co hco a (by omega)
    have hb01:=RQ co a
    generalize iD v (h,ca,lo,a,o)=cur at *
    have hsl:=au cur
    by_cases q1:(cur.length:Int)<z
    ·rw[if_pos q1] at est
     rw[est] at hmu i4
     have hls:=yz o cur
     (repeat' first|refine wP (aI @pgv (aI @pY (aI @aF (aI @false_or (aI @Bool.false_eq_true (aI @Option.bind_none.{0,0} (aI @hvl (aI @hcl (aI @hol (aI @hsl @hls)))))))))) trivial ?_|refine cF hso hfl ?_|refine tS ?_ ?_<;>intro hc|fail)
     refine bC (f,(h+1,[],lo,a,o++[cur])) [0,1] [] ⟨by have:=hmu.2;show zg v M (h+1,[],lo,a,o++[cur])≤f;omega,Nat.zero_le _,i3,i4,by simp only;omega,by simp [i6],i7,by simp only;omega⟩ (by show f<f+1;omega) ?_
     exact kE
     all_goals exact gK rfl
    ·rw[if_neg q1] at est
     rw[est] at hmu i4
     have k5:=tH lo (pwI h) i3 (ahd h)
     have har:=Ad lo (pwI h)
     have ed:(cur.length:Int).tdiv 2=((cur.length / 2:Nat):Int):=by rw[Int.tdiv_eq_ediv_of_nonneg (by omega)];omega
     have em:(((cur.length / 2:Nat):Int)*2).toNat=cur.length / 2*2:=by omega
     have hdr:=RP cur (cur.length / 2*2)
     have hls:=yz o (cur.drop (cur.length / 2*2))
     obtain⟨cn,hcn,hcn1⟩:∃cn:Nat,Iq co a=(cn:Int)∧cn≤1:=by
      rcases hb01 with h|h
      ·exact⟨0,h,by decide⟩
      ·exact⟨1,h,by decide⟩
     rw[hcn] at hbi est hmu i4
     rw[Int.toNat_natCast] at est hmu i4
     (repeat' first|refine wP (aI @pgv (aI @pY (aI @aF (aI @false_or (aI @Bool.false_eq_true (aI @Option.bind_none.{0,0} (aI @hvl (aI @hcl (aI @hol (aI @hsl @ed)))))))))) hbi ?_|refine cF hso hfl ?_|refine tS ?_ ?_<;>intro hc|fail)
     refine aK (fun j:Nat=>mkA [(0,fzl v),(1,vi z),(2,vi lo),(3,fzb co),(4,vi a),(13,.sl (.own 0 23) 1 (lv o)),(14,.sl (.own 1 9) 1 (sv (evN cur cn j))),(15,vi h),(16,.sl (.own 2 9) 1 (sv cur)),(17,vi (((cur.length / 2:Nat):Int)*2)),(18,vi ((cn:Int)+2*j))] [] 3 (fun _ => .top)) (fun j=>j≤cur.length / 2) (fun j=>cur.length / 2-j) 0 [0,1,2] [] ?_ (Nat.zero_le _) ?_
     ·exact kE
      all_goals exact gK rfl
     ·intro j hj
      replace hj:j≤cur.length / 2:=hj
      have hev:(sv (evN cur cn j)).length=j:=by rw[au,IE]
      rcases Nat.lt_or_ge j (cur.length / 2) with hjl|hjg
      ·have hin:((cn:Int)+2*(j:Int)).toNat=cn+2*j:=by omega
       have hg2:=iK cur (cn+2*j) (by omega)
       have hsn:sv (evN cur cn j)++[vs (cur.getD (cn+2*j) [])]=sv (evN cur cn (j+1)):=by rw[svS,Ls]
       refine wS (aI @pgv (aI @hsl (aI @hin (aI @hg2 (aI @hsn @hev))))) trivial ?_
       exact bE (j+1) [0,1,2] [] hjl
       all_goals first|exact gB (by omega)|skip
      ·have:j=cur.length / 2:=by omega
       subst this
       refine wS (aI @pgv (aI @pY (aI @aF (aI @false_or (aI @Bool.false_eq_true (aI @Option.bind_none.{0,0} (aI @hvl (aI @hcl (aI @hol (aI @hsl (aI @hev (aI @em (aI @hdr (aI @hls @aa4)))))))))))))) k5 ?_
       refine bC (f,(h+1,evN cur cn (cur.length / 2),(fK lo (pwI h)).1,a+1,o++[cur.drop (cur.length / 2*2)])) [0,1] [] ⟨by have:=hmu.2;show zg v M (h+1,evN cur cn (cur.length / 2),(fK lo (pwI h)).1,a+1,o++[cur.drop (cur.length / 2*2)])≤f;omega,hmu.1,by simp only;unfold W64;omega,i4,by simp only;omega,by simp [i6],by simp only;omega,by simp only;omega⟩ (by show f<f+1;omega) ?_
       exact kE
  ·have e:vg v z co f (h,ca,lo,a,o)=(h,ca,lo,a,o):=by
    cases f with
    | zero=>rfl
    | succ f=>exact if_neg hc
   rw[e] at i4
   subst i4
   simp only
   refine wS (aI @hvl (aI @hcl @hol)) trivial ?_
   refine Zq 0 ?_
   refine wS @hvl trivial ?_
   generalize hT:qf o.length o=T
   refine aK (fun x:Nat × List (List (List Nat))=>mkA [(2,vi lo),(4,vi a),(13,fzl x.2)] [] 0 (fun _ => .top)) (fun x=>x.2.length≤x.1∧qf x.1 x.2=T∧x.2.length≤10000000) (fun x=>x.1) (o.length,o) [] [] ?_ ⟨Nat.le_refl _,hT,by simp only;omega⟩ ?_
   ·exact kE
   ·rintro⟨g,o⟩ ⟨n1,n2,n3⟩
    simp only at n1 n2 n3
    have hol:=mr o
    by_cases q6:0<o.length
    ·have hg:=uK o (o.length-1) (by omega)
     have hi1:((o.length:Int)-1).toNat=o.length-1:=by omega
     cases g with
     | zero=>exact absurd q6 (by omega)
     | succ g =>
     have e:qf (g+1) o=if 0<o.length∧(o.getD (o.length-1) []).length=0 then qf g (o.take (o.length-1)) else o:=rfl
     rw[e] at n2
     have htk:=ae3 o (o.length-1)
     generalize o.getD (o.length-1) []=lev at *
     have hsl:=au lev
     by_cases q7:lev.length=0
     ·rw[if_pos ⟨q6,q7⟩] at n2
      refine wS (aI @pgv (aI @hol (aI @hg (aI @hsl (aI @hi1 @htk))))) trivial ?_
      refine bC (g,o.take (o.length-1)) [] [] ⟨by simp only[List.length_take];omega,n2,by simp only[List.length_take];omega⟩ (by show g<g+1;omega) ?_
      exact kE
     ·rw[if_neg (by omega)] at n2
      subst n2
      exact wR (aI @pgv (aI @hol (aI @hg (aI @hsl @hi1)))) trivial ah
    ·have e:qf g o=o:=by
      cases g with
      | zero=>rfl
      | succ g=>exact if_neg (fun h=>q6 h.1)
     rw[e] at n2
     subst n2
     exact wR (aI @pgv @hol) trivial ah
end Go.Proofs.YtjiolbcdfgclaaaGreatDoor
