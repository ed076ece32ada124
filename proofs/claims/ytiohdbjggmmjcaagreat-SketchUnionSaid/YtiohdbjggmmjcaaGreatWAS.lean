/-
  Merged texts.
-/
import Derived.Test.YtiohdbjggmmjcaaGreatWAR
set_option linter.unusedVariables false
set_option linter.unusedSimpArgs false
set_option linter.unusedSectionVars false
set_option linter.defProp false
set_option maxRecDepth 100000
set_option maxHeartbeats 8000000
section
namespace Go.Proofs.YtiohdbjggmmjcaaGreat
open Go Go.Pg
def kl(a b:List Nat):Bool:=Op.bytesLess (sB a).toList (sB b).toList
theorem kH(a b:List Nat):Op.bytesLess (sB a).toList (sB b).toList=kl a b:=rfl
def octE(l:List En):Prop:=∀e∈l,oct e.1
theorem fV{l:List En}(h:octE l)(i:Nat):oct (l.getD i ([],0,0)).1:=by
 rcases Nat.lt_or_ge i l.length with hi|hi
 ·have:l.getD i ([],0,0)=l[i]:=by simp [List.getD,hi]
  rw[this];exact h _ (List.getElem_mem hi)
 ·have:l.getD i ([],0,0)=([],0,0):=by simp [List.getD,hi]
  rw[this];exact EY
theorem RF{l:List En}(h:octE l)(n:Nat):octE (l.take n):=fun e he=>h e (List.mem_of_mem_take he)
def bfE(a b:En):Bool:=decide (b.2.1<a.2.1)||(decide (a.2.1=b.2.1)&&kl a.1 b.1)
theorem Ea(a b:En):Gxx 150 [.agg [vs a.1,vi a.2.1,vi a.2.2],.agg [vs b.1,vi b.2.1,vi b.2.2]] (vb (bfE a b)):=by
 obtain⟨k1,c1,e1⟩:=a
 obtain⟨k2,c2,e2⟩:=b
 unfold bfE
 simp only
 refine gI oW Tryz.func150 Tryz.results150 ?_
 by_cases h1:c2<c1
 ·rw[decide_eq_true h1]
  exact wR @kH trivial ay
 ·rw[decide_eq_false h1]
  by_cases h2:c1=c2
  ·rw[decide_eq_true h2]
   cases hk:kl k1 k2
   ·exact wR (aI @kH @hk) trivial ay
   ·exact wR (aI @kH @hk) trivial ay
  ·rw[decide_eq_false h2]
   exact wR @kH trivial ay
def jd(k:List Nat):Nat→List En→Int
 | _,[] => -1
 | i,e::l=>if e.1=k then i else jd k (i+1) l
def bi(l:List En)(k:List Nat):Int:=jd k 0 l
theorem Jg(k:List Nat):∀(l:List En) (i:Nat),jd k i l = -1∨(i:Int)≤jd k i l∧jd k i l<i+l.length:=by
 intro l
 induction l with
 | nil=>intro i;exact .inl rfl
 | cons e l ih =>
  intro i
  unfold jd
  split
  ·right;simp only[List.length_cons];omega
  ·rcases ih (i+1) with h|h
   ·exact .inl h
   ·right;simp only[List.length_cons];omega
theorem lQ(l:List En)(k:List Nat):bi l k = -1∨0≤bi l k∧bi l k<l.length:=by
 have:=Jg k l 0
 unfold bi
 omega
theorem BC(l:List En)(i:Nat)(h:i<l.length):l.drop i=l.getD i ([],0,0)::l.drop (i+1):=by rw[List.drop_eq_getElem_cons h];simp [List.getD,h]
theorem FI(l:List En)(k:List Nat)(hl:octE l)(ho:oct k)(hn:l.length≤1000000):Gxx 106 [fzv l,vs k] (vi (bi l k)):=by
 have hel:=aG l
 refine gI oW Tryz.func106 Tryz.results106 ?_
 refine wS trivial trivial ?_
 refine df (fun i:Nat=>mkA [(0,fzv l),(1,vs k),(5,vi i)] [] 0 (fun _ => .top)) (fun i=>i≤l.length∧bi l k=jd k i (l.drop i)) (fun i=>l.length-i) 0 [] [] ?_ ⟨Nat.zero_le _,rfl⟩ ?_
 ·exact kE
 ·rintro i ⟨hi,he⟩
  rcases Nat.lt_or_ge i l.length with hlt|hge
  ·rw[BC l i hlt] at he
   have hg:=eY l i hlt
   have hox:=fV hl i
   generalize l.getD i ([],0,0)=x at *
   obtain⟨xk,xc,xe⟩:=x
   simp only at hg hox
   unfold jd at he
   have hd:=uO hox ho
   by_cases hx:xk=k
   ·rw[if_pos hx] at he
    rw[he]
    rw[decide_eq_true hx] at hd
    exact wR (aI @aG (aI @hg @hd)) trivial ay
   ·rw[if_neg hx] at he
    rw[decide_eq_false hx] at hd
    refine wS (aI @aG (aI @hg @hd)) trivial ?_
    exact bE (i+1) [] [] ⟨hlt,he⟩
  ·have:i=l.length:=by omega
   subst this
   rw[List.drop_length] at he
   rw[he]
   exact wR @aG trivial ay
section
variable {α:Type}
def lS(bf:α→α→Bool)(x:α):List α→List α
 | []=>[x]
 | y::ys=>if bf x y=true then y::lS bf x ys else x::y::ys
def uQ(bf:α→α→Bool):List α→List α→List α
 | acc,[]=>acc
 | acc,x::l=>uQ bf (lS bf x acc) l
def srt(bf:α→α→Bool)(l:List α):List α:=(uQ bf [] l).reverse
theorem rY(bf:α→α→Bool)(x:α)(l:List α):(lS bf x l).length=l.length+1:=by
 induction l with
 | nil=>rfl
 | cons y ys ih=>unfold lS;split<;>simp [ih]
theorem Jh(bf:α→α→Bool)(x z:α)(l:List α):z∈lS bf x l↔z=x∨z∈l:=by
 induction l with
 | nil=>simp [lS]
 | cons y ys ih =>
  unfold lS
  split
  ·simp only[List.mem_cons,ih]
   constructor
   ·rintro (h|h|h)<;>simp [h]
   ·rintro (h|h|h)<;>simp [h]
  ·simp
theorem Xu(bf:α→α→Bool)(l:List α):∀acc,(uQ bf acc l).length=acc.length+l.length:=by
 induction l with
 | nil=>intro acc;rfl
 | cons x l ih=>intro acc;rw[uQ,ih,rY];simp only[List.length_cons];omega
theorem Xv(bf:α→α→Bool)(z:α)(l:List α):∀acc,z∈uQ bf acc l↔z∈acc∨z∈l:=by
 induction l with
 | nil=>intro acc;simp [uQ]
 | cons x l ih =>
  intro acc
  rw[uQ,ih,Jh]
  simp only[List.mem_cons]
  constructor
  ·rintro ((h|h)|h)<;>simp [h]
  ·rintro (h|h|h)<;>simp [h]
theorem wI(bf:α→α→Bool)(l:List α):(srt bf l).length=l.length:=by simp [srt,Xu]
theorem OO(bf:α→α→Bool)(z:α)(l:List α):z∈srt bf l↔z∈l:=by simp [srt,Xv]
def mov(p:List α)(x:α)(t:List α):List α:=p.reverse++x::t
theorem zV(p:List α)(x:α)(t:List α):(mov p x t).length=p.length+1+t.length:=by simp [mov];omega
theorem Xw(p:List α)(x:α)(t:List α)(d:α):(mov p x t).getD p.length d=x:=by simp [mov,List.getD]
theorem OQ(y:α)(p:List α)(x:α)(t:List α)(d:α):(mov (y::p) x t).getD p.length d=y:=by simp [mov,List.getD]
theorem Ji(y:α)(p:List α)(x:α)(t:List α):((mov (y::p) x t).set (p.length+1) y).set p.length x=mov p x (y::t):=by
 unfold mov
 have h1:(y::p).reverse=p.reverse++[y]:=by simp
 rw[h1]
 have e1:p.length=p.reverse.length:=by simp
 rw[e1]
 rw[List.append_assoc,List.set_append_right _ _ (by omega),show p.reverse.length+1-p.reverse.length=1 by omega]
 rw[List.set_append_right _ _ (by omega),Nat.sub_self]
 rfl
theorem zW(bf:α→α→Bool)(p:List α)(x:α)(t:List α)(h:p=[]∨∃y q,p=y::q∧bf x y=false):(lS bf x p).reverse++t=mov p x t:=by
 rcases h with rfl|⟨y,q,rfl,h⟩
 ·simp [lS,mov]
 ·unfold lS
  rw[if_neg (by rw[h];simp)]
  simp [mov]
theorem Xx(bf:α→α→Bool)(y:α)(p:List α)(x:α)(t:List α)(h:bf x y=true):(lS bf x (y::p)).reverse++t=(lS bf x p).reverse++y::t:=by
 conv=>lhs;unfold lS
 rw[if_pos h]
 simp
end
theorem iR{α:Type}(l:List α)(i:Nat)(d:α)(h:i<l.length):l.drop i=l.getD i d::l.drop (i+1):=by rw[List.drop_eq_getElem_cons h];simp [List.getD,h]
theorem BD(l:List En)(hn:l.length≤1000000):Gxx 108 [fzv l] (.sl (.own 0 119) 3 (ev (srt bfE l))):=by
 have hel:=aG l
 refine gI oW Tryz.func108 Tryz.results108 ?_
 refine wS trivial trivial ?_
 refine df (fun x:Nat × List En=>mkA [(0,fzv l),(3,.sl (.own 0 119) 3 (ev x.2.reverse)),(4,vi x.1)] [] 1 (fun _ => .top)) (fun x=>x.1≤l.length∧x.2.length=x.1∧uQ bfE x.2 (l.drop x.1)=uQ bfE [] l) (fun x=>l.length-x.1) (0,[]) [] [] ?_ ⟨Nat.zero_le _,rfl,rfl⟩ ?_
 ·exact kE
  all_goals first|exact gG rfl|skip
 ·rintro⟨i,acc⟩ ⟨hi,ha,hs⟩
  simp only at hi ha hs
  have hal:(ev acc.reverse).length=i:=by rw[aG,List.length_reverse,ha]
  rcases Nat.lt_or_ge i l.length with hlt|hge
  ·rw[iR l i ([],0,0) hlt] at hs
   have hg:=eY l i hlt
   generalize l.getD i ([],0,0)=x at *
   have hsn:ev acc.reverse++[V.agg [vs x.1,vi x.2.1,vi x.2.2]]=ev (mov acc x []):=by rw[mr];unfold mov;rfl
   have hml:(ev (mov acc x [])).length=i+1:=by rw[aG,zV,ha];rfl
   (repeat' (first|(simp (disch:=first|exact dqz|fail) only[pgz,simprocAttr,hg,aG,hsn,hml,hal])|((with_reducible first|apply aj|apply ai|apply ak)<;>intro hc<;>(try simp only[hc])<;>(try simp only[pgd] at hc))|(with_reducible refine cK ?_)))
   refine df (fun y:List En × List En=>mkA [(0,fzv l),(3,.sl (.own 0 119) 3 (ev (mov y.1 x y.2))),(4,vi i),(5,vi y.1.length)] [] 1 (fun _ => .top)) (fun y=>y.1.length+y.2.length=i∧(lS bfE x y.1).reverse++y.2=(lS bfE x acc).reverse) (fun y=>y.1.length) (acc,[]) [0] [] ?_ ⟨by simp [ha],by simp⟩ ?_
   ·(refine dN ?_ ?_ (gu _ _ _) (by decide) (by decide) (by decide) (by decide);(repeat' (first|exact trivial|refine dI _ _ rfl rfl ?_ ?_));all_goals (try simp only[pgs,pgl,pgx,pgf,pgw,di,dL,dm,dM,qc,iO,fO,pgn,simprocAttr]);all_goals (try (repeat' (first|apply aI)));all_goals (try (first|exact trivial|exact dE (by omega)|exact eH rfl|exact bP rfl rfl|exact jq rfl)))
    all_goals exact dE (by omega)
   ·rintro⟨p,t⟩ ⟨hp1,hp2⟩
    simp only at hp1 hp2
    have hmp:=zV p x t
    have hmp2:(ev (mov p x t)).length=i+1:=by rw[aG,hmp];omega
    cases p with
    | nil =>
     rw[zW bfE [] x t (.inl rfl)] at hp2
     refine wS @hmp2 trivial ?_
     refine dh (i+1,lS bfE x acc) [0] [] ⟨hlt,by simp only;rw[rY,ha],by simp only;rw[←hs];rfl⟩ (by show l.length-(i+1)<l.length-i;omega) ?_
     refine kL ?_
     all_goals exact bP rfl (by rw[hp2])
    | cons y p =>
     have g1:=eY (mov (y::p) x t) (p.length+1) (by rw[hmp];simp only[List.length_cons];omega)
     have g2:=eY (mov (y::p) x t) p.length (by rw[hmp];simp only[List.length_cons];omega)
     have m1:(mov (y::p) x t).getD (p.length+1) ([],0,0)=x:=Xw (y::p) x t _
     rw[m1] at g1
     rw[OQ] at g2
     have hb:=Ea x y
     have hi1:(((y::p).length:Nat):Int)=(p.length:Int)+1:=by simp
     have hi2:((p.length:Int)+1).toNat=p.length+1:=by omega
     have hi3:((p.length:Int)+1-1)=(p.length:Int):=by omega
     cases hbf:bfE x y
     ·rw[zW bfE (y::p) x t (.inr ⟨y,p,rfl,hbf⟩)] at hp2
      rw[hbf] at hb
      refine wS (aI @hi1 (aI @hi2 (aI @hi3 (aI @hmp2 (aI @g1 @g2))))) hb ?_
      refine dh (i+1,lS bfE x acc) [0] [] ⟨hlt,by simp only;rw[rY,ha],by simp only;rw[←hs];rfl⟩ (by show l.length-(i+1)<l.length-i;omega) ?_
      refine kL ?_
      all_goals exact bP rfl (by rw[hp2])
     ·rw[Xx bfE y p x t hbf] at hp2
      rw[hbf] at hb
      have hsw:=Ji y p x t
      have hs1:(ev (mov (y::p) x t)).set (p.length+1) (V.agg [vs y.1,vi y.2.1,vi y.2.2])=ev ((mov (y::p) x t).set (p.length+1) y):=o6 _ _ _ _ _
      have hs2:(ev ((mov (y::p) x t).set (p.length+1) y)).set p.length (V.agg [vs x.1,vi x.2.1,vi x.2.2])=ev (mov p x (y::t)):=by
       rw[o6]
       exact congrArg ev hsw
      have hl1:(ev ((mov (y::p) x t).set (p.length+1) y)).length=i+1:=by rw[aG,List.length_set,hmp];simp only[List.length_cons] at hp1 ⊢;omega
      have hg3:(ev ((mov (y::p) x t).set (p.length+1) y))[p.length]?=some (V.agg [vs y.1,vi y.2.1,vi y.2.2]):=by rw[←hs1,List.getElem?_set_ne (by omega),g2]
      generalize (mov (y::p) x t).set (p.length+1) y=mm at hs1 hs2 hl1 hg3
      refine wS (aI @hi1 (aI @hi2 (aI @hi3 (aI @hmp2 (aI @g1 (aI @g2 (aI @hs1 (aI @hs2 (aI @hl1 @hg3))))))))) hb ?_
      refine dh (p,y::t) [0] [] ⟨by simp only[List.length_cons] at hp1 ⊢;omega,hp2⟩ (by show p.length<(y::p).length;simp) ?_
      refine kL ?_
      all_goals (simp only[pgo,hs1,hs2];first|exact trivial|exact bP rfl rfl)
  ·have:i=l.length:=by omega
   subst this
   rw[List.drop_length] at hs
   have hs':acc=uQ bfE [] l:=hs
   refine wS @aG trivial ?_
   (refine rT [0] ?_;first|rfl|simp only[pgo,simprocAttr]|skip)
   all_goals (unfold srt;rw[hs'];rfl)
theorem abJ(l:List En):V.flatL (ev l)=true:=by
 induction l with
 | nil=>rfl
 | cons a l ih=>simp only[ev,List.map_cons,V.flatL,V.flat] at ih ⊢;simpa using ih
theorem pM(id:Nat)(e:TypeId)(k:Nat)(l:List En):(V.sl (.own id e) k (ev l)).flat=true:=abJ l
end Go.Proofs.YtiohdbjggmmjcaaGreat
end
namespace Go.Proofs.YtiohdbjggmmjcaaGreat
open Go Go.Pg
def lT(f:Nat→Int):Nat→Nat→Int
 | 0,_=>0
 | n+1,i=>if f i≠0 then f i else lT f n (i+1)
theorem qp(f:Nat→Int)(n i:Nat)(h:f i≠0):lT f (n+1) i=f i:=if_pos h
theorem jV(f:Nat→Int)(n i:Nat)(h:f i=0):lT f (n+1) i=lT f n (i+1):=if_neg (by omega)
theorem MW(f:Nat→Int):∀n i,lT f n i=0→∀j,i≤j→j<i+n→f j=0:=by
 intro n
 induction n with
 | zero=>intro i _ j h1 h2;omega
 | succ n ih =>
  intro i h j h1 h2
  by_cases hf:f i=0
  ·rw[jV f n i hf] at h
   rcases Nat.eq_or_lt_of_le h1 with rfl|h3
   ·exact hf
   ·exact ih (i+1) h j h3 (by omega)
  ·rw[qp f n i hf] at h;exact absurd h hf
abbrev eD:En:=([],0,0)
def pO(l:List En)(i:Nat):Int :=
 if iQ (l.getD i eD).1=false then 7
 else if ¬((1≤(l.getD i eD).2.1∧(l.getD i eD).2.1≤1099511627776)∧(0≤(l.getD i eD).2.2∧(l.getD i eD).2.2≤(l.getD i eD).2.1-1)) then 5
 else if bi (l.take i) (l.getD i eD).1≥0 then 9
 else if 0<i∧bfE (l.getD (i-1) eD) (l.getD i eD)=false then 19 else 0
def vTp(t:Tp):Int:=if ¬((1≤t.z∧t.z≤32)∧(0≤t.t∧t.t≤1099511627776)) then 5 else if (t.e.length:Int) > t.z then 11 else lT (pO t.e) t.e.length 0
theorem rZ(x:Tp)(ho:octE x.e)(hn:x.e.length≤1000000):Gxx 96 [.agg (tpF x)] (vi (vTp x)):=by
 obtain⟨z,t,l,b⟩:=x
 simp only at ho hn
 unfold vTp
 simp only
 have hel:=aG l
 by_cases c1:(1≤z∧z≤32)∧(0≤t∧t≤1099511627776)
 ·rw[if_neg (fun h=>h c1)]
  have k1:=bG z 1 32 c1.1
  have k2:=bG t 0 1099511627776 c1.2
  by_cases c2:(l.length:Int) > z
  ·rw[if_pos c2]
   refine gI oW Tryz.func96 Tryz.results96 ?_
   exact wR @aG (aI k1 k2) ay
  ·rw[if_neg c2]
   refine gI oW Tryz.func96 Tryz.results96 ?_
   refine wS @aG (aI k1 k2) ?_
   generalize hE:lT (pO l) l.length 0=E
   refine df (fun i:Nat=>mkA [(1,.ref 0 0),(3,vi i)] [(0,(34,tpF ⟨z,t,l,b⟩))] 1 (fun _ => .top)) (fun i=>i≤l.length∧lT (pO l) (l.length-i) i=E) (fun i=>l.length-i) 0 [] [0] ?_ ⟨Nat.zero_le _,hE⟩ ?_
   ·exact kE
   ·rintro i ⟨hi,he⟩
    rcases Nat.lt_or_ge i l.length with hlt|hge
    ·have hg:=eY l i hlt
     have hox:=fV ho i
     rw[show l.length-i=(l.length-(i+1))+1 by omega] at he
     have k3:=xI (l.getD i eD).1
     have k4:=FI (l.take i) (l.getD i eD).1 (RF ho i) hox (by simp only[List.length_take];omega)
     have hfr:=lQ (l.take i) (l.getD i eD).1
     have htk:=aby l i
     have et:pO l i=if iQ (l.getD i eD).1=false then 7 else if ¬((1≤(l.getD i eD).2.1∧(l.getD i eD).2.1≤1099511627776)∧(0≤(l.getD i eD).2.2∧(l.getD i eD).2.2≤(l.getD i eD).2.1-1)) then 5 else if bi (l.take i) (l.getD i eD).1≥0 then 9 else if 0<i∧bfE (l.getD (i-1) eD) (l.getD i eD)=false then 19 else 0:=rfl
     generalize hxx:l.getD i eD=x at *
     have hb:=fun y=>Ea y x
     obtain⟨xk,xc,xe⟩:=x
     simp only at hox k3 k4 hfr et hg hb
     have ext:∀v:Int,v≠0→pO l i=v→v=E:=fun v h0 h1=>by rw[qp _ _ _ (by omega)] at he;omega
     cases q1:iQ xk
     ·rw[q1] at k3 et
      have:=ext 7 (by omega) (by rw[et];rfl)
      subst this
      exact wR (aI @aG @hg) k3 ay
     ·rw[q1] at k3 et
      rw[if_neg (by simp)] at et
      by_cases q2:(1≤xc∧xc≤1099511627776)∧(0≤xe∧xe≤xc-1)
      ·rw[if_neg (fun h=>h q2)] at et
       have k5:=bG xc 1 1099511627776 q2.1
       have k6:=bG xe 0 (xc-1) q2.2
       by_cases q3:bi (l.take i) xk≥0
       ·rw[if_pos q3] at et
        have:=ext 9 (by omega) et
        subst this
        exact wR (aI @pgv (aI @hg @htk)) (aI k3 (aI k5 (aI k6 k4))) ay
       ·rw[if_neg q3] at et
        by_cases q4:0<i
        ·have hg1:=eY l (i-1) (by omega)
         have hi1:((i:Int)-1).toNat=i-1:=by omega
         have hb1:=hb (l.getD (i-1) eD)
         generalize l.getD (i-1) eD=y at *
         cases q5:bfE y (xk,xc,xe)
         ·rw[if_pos ⟨q4,q5⟩] at et
          rw[q5] at hb1
          have:=ext 19 (by omega) et
          subst this
          exact wR (aI @pgv (aI @hg (aI @htk (aI @hi1 @hg1)))) (aI k3 (aI k5 (aI k6 (aI k4 hb1)))) ay
         ·rw[if_neg (by rw[q5];simp)] at et
          rw[q5] at hb1
          rw[jV _ _ _ et] at he
          refine wS (aI @pgv (aI @hg (aI @htk (aI @hi1 @hg1)))) (aI k3 (aI k5 (aI k6 (aI k4 hb1)))) ?_
          exact bE (i+1) [] [0] ⟨hlt,he⟩
        ·rw[if_neg (by omega)] at et
         rw[jV _ _ _ et] at he
         refine wS (aI @pgv (aI @hg @htk)) (aI k3 (aI k5 (aI k6 k4))) ?_
         exact bE (i+1) [] [0] ⟨hlt,he⟩
      ·rw[if_pos q2] at et
       have:=ext 5 (by omega) et
       subst this
       by_cases q6:1≤xc∧xc≤1099511627776
       ·have k5:=bG xc 1 1099511627776 q6
        have k6:=eU xe 0 (xc-1)
        rw[kG (by omega)] at k6
        exact wR (aI @aG @hg) (aI k3 (aI k5 k6)) ay
       ·have k5:=eU xc 1 1099511627776
        rw[kG q6] at k5
        exact wR (aI @aG @hg) (aI k3 k5) ay
    ·have:i=l.length:=by omega
     subst this
     rw[Nat.sub_self] at he
     have he0:0=E:=he
     subst he0
     exact wR @aG trivial ay
 ·rw[if_pos c1]
  by_cases c2:1≤z∧z≤32
  ·have k1:=bG z 1 32 c2
   have k2:=eU t 0 1099511627776
   rw[kG (by omega)] at k2
   refine gI oW Tryz.func96 Tryz.results96 ?_
   exact wR trivial (aI k1 k2) ay
  ·have k1:=eU z 1 32
   rw[kG c2] at k1
   refine gI oW Tryz.func96 Tryz.results96 ?_
   exact wR trivial k1 ay
def fK(t:Tp):Int:=if t.e.length=0∨(t.e.length:Int)≠t.z then 0 else (t.e.getD (t.e.length-1) eD).2.1
theorem Xy(x:Tp)(hn:x.e.length≤1000000):Gxx 107 [.agg (tpF x)] (vi (fK x)):=by
 obtain⟨z,t,l,b⟩:=x
 simp only at hn
 unfold fK
 simp only
 have hel:=aG l
 by_cases c1:l.length=0
 ·rw[if_pos (.inl c1)]
  refine gI oW Tryz.func107 Tryz.results107 ?_
  exact wR @aG trivial ay
 ·by_cases c2:(l.length:Int)=z
  ·rw[if_neg (by omega)]
   have hg:=eY l (l.length-1) (by omega)
   generalize l.getD (l.length-1) eD=y at *
   have hi:((l.length:Int)-1).toNat=l.length-1:=by omega
   refine gI oW Tryz.func107 Tryz.results107 ?_
   exact wR (aI @aG (aI @hi @hg)) trivial ay
  ·rw[if_pos (.inr c2)]
   refine gI oW Tryz.func107 Tryz.results107 ?_
   exact wR @aG trivial ay
def aO(a b:Int):Int × Bool:=lw a b 1099511627776
theorem qw(a b:Int)(ha:W64 a)(hb:W64 b):Gxx 105 [vi a,vi b] (.tup [vi (aO a b).1,vb (aO a b).2]):=aeE a b ha hb
theorem pR(a b:Int):0≤(aO a b).1∧(aO a b).1≤1099511627776:=by
 have h1:=jJ a
 have h2:=jJ b
 have h3:iI 1099511627776=1099511627776:=oh (by decide)
 unfold aO lw
 split
 ·simp only;omega
 ·simp only;omega
def kJ(t:Tp)(k:List Nat)(w:Int):List En × Bool :=
 if 0≤bi t.e k then (t.e.set (bi t.e k).toNat ((t.e.getD (bi t.e k).toNat eD).1,(aO (t.e.getD (bi t.e k).toNat eD).2.1 w).1,(t.e.getD (bi t.e k).toNat eD).2.2),(aO (t.e.getD (bi t.e k).toNat eD).2.1 w).2)
 else if (t.e.length:Int)<t.z then (t.e++[(k,w,0)],false)
 else (t.e.set (t.e.length-1) (k,(aO (fK t) w).1,min (fK t) ((aO (fK t) w).1-1)),(aO (fK t) w).2)
def oz(t:Tp)(k:List Nat)(w:Int):Tp × Int :=
 if vTp t≠0 then (Tp.o,vTp t) else if bT k w≠0 then (Tp.o,bT k w) else (⟨t.z,(aO t.t w).1,srt bfE (kJ t k w).1,t.b||(aO t.t w).2||(kJ t k w).2⟩,0)
theorem kK{t:Tp}(h:vTp t=0):(1≤t.z∧t.z≤32)∧(0≤t.t∧t.t≤1099511627776)∧(t.e.length:Int)≤t.z∧∀i,i<t.e.length→pO t.e i=0:=by
 unfold vTp at h
 split at h
 ·cases h
 ·rename_i h1
  split at h
  ·cases h
  ·rename_i h2
   have h1:=Classical.byContradiction h1
   exact⟨h1.1,h1.2,by omega,fun i hi=>MW _ _ _ h i (Nat.zero_le _) (by omega)⟩
theorem su{l:List En}{i:Nat}(h:pO l i=0):iQ (l.getD i eD).1=true∧(1≤(l.getD i eD).2.1∧(l.getD i eD).2.1≤1099511627776)∧0≤(l.getD i eD).2.2∧(l.getD i eD).2.2≤(l.getD i eD).2.1-1:=by
 unfold pO at h
 split at h
 ·cases h
 ·rename_i h1
  split at h
  ·cases h
  ·rename_i h2
   have h2:=Classical.byContradiction h2
   exact⟨by simpa using h1,h2.1,h2.2⟩
theorem FK:wkV (.agg [vi 0,vi 0,nls,vb false]) (.agg (tpF Tp.o)) := .inr ⟨_,_,rfl,rfl,⟨.inl rfl,.inl rfl,o5 _ _,.inl rfl,trivial⟩⟩
theorem FM(x:Tp)(k:List Nat)(w:Int)(ho:oct k)(hx:octE x.e)(hn:x.e.length≤1000000):Gxx 37 [.agg (tpF x),.agg [vs k,vi w]] (.tup [.agg (tpF (oz x k w).1),vi (oz x k w).2]):=by
 have h1:=rZ x hx hn
 have h2:=dn k w
 unfold oz
 by_cases c1:vTp x=0
 ·rw[if_neg (by omega)]
  rw[c1] at h1
  by_cases c2:bT k w=0
  ·rw[if_neg (by omega)]
   rw[c2] at h2
   obtain⟨i1,i2,i3,i4⟩:=kK c1
   obtain⟨j1,j2⟩:=fU c2
   have hw:W64 w:=by unfold W64;omega
   have k1:=qw x.t w (by unfold W64;omega) hw
   have k2:=FI x.e k hx ho (by omega)
   have hfr:=lQ x.e k
   refine Good.fzt (vs:=[.agg [vi x.z,vi (aO x.t w).1,.sl (.own 0 119) 3 (ev (srt bfE (kJ x k w).1)),vb (x.b||(aO x.t w).2||(kJ x k w).2)],vi 0]) ?_ rfl ⟨aH _,aH _,trivial⟩
   have hel:=aG x.e
   by_cases q1:0≤bi x.e k
   ·have ei:kJ x k w=(x.e.set (bi x.e k).toNat ((x.e.getD (bi x.e k).toNat eD).1,(aO (x.e.getD (bi x.e k).toNat eD).2.1 w).1,(x.e.getD (bi x.e k).toNat eD).2.2),(aO (x.e.getD (bi x.e k).toNat eD).2.1 w).2):=if_pos q1
    rw[ei]
    have hlt:(bi x.e k).toNat<x.e.length:=by omega
    have hg:=eY x.e (bi x.e k).toNat hlt
    have her:=su (i4 _ hlt)
    have k3:=qw (x.e.getD (bi x.e k).toNat eD).2.1 w (by unfold W64;omega) hw
    generalize x.e.getD (bi x.e k).toNat eD=y at *
    obtain⟨yk,yc,ye⟩:=y
    simp only at hg her k3 ⊢
    have hes:=o6 x.e (bi x.e k).toNat yk (aO yc w).1 ye
    have hso:=BD (x.e.set (bi x.e k).toNat (yk,(aO yc w).1,ye)) (by rw[List.length_set];omega)
    generalize hes2:x.e.set (bi x.e k).toNat (yk,(aO yc w).1,ye)=e2 at *
    have hfl:=pM 0 119 3 (srt bfE e2)
    generalize bi x.e k=fi at *
    generalize aO x.t w=a at *
    generalize aO yc w=a' at *
    obtain⟨a1,a2⟩:=a
    obtain⟨b1,b2⟩:=a'
    simp only at k1 k3 hes ⊢
    obtain⟨z,t,l,b⟩:=x
    simp only at *
    refine gI oD Tryz.func37 Tryz.results37 ?_
    (repeat' first|refine wPA (aI @aG (aI @hg @hes)) (aI h1 (aI h2 (aI k1 (aI k2 k3)))) ?_|refine cF hso hfl ?_|refine tS ?_ ?_<;>intro hc|fail)
    all_goals exact rE [13]
   ·by_cases q2:(x.e.length:Int)<x.z
    ·have ei:kJ x k w=(x.e++[(k,w,0)],false):=by unfold kJ;rw[if_neg q1,if_pos q2]
     rw[ei]
     have hes:=mr x.e k w 0
     have hso:=BD (x.e++[(k,w,0)]) (by simp;omega)
     generalize hes2:x.e++[(k,w,0)]=e2 at *
     have hfl:=pM 0 119 3 (srt bfE e2)
     generalize bi x.e k=fi at *
     generalize aO x.t w=a at *
     obtain⟨a1,a2⟩:=a
     simp only at k1 ⊢
     obtain⟨z,t,l,b⟩:=x
     simp only at *
     refine gI oD Tryz.func37 Tryz.results37 ?_
     (repeat' first|refine wPA (aI @aG @hes) (aI h1 (aI h2 (aI k1 k2))) ?_|refine cF hso hfl ?_|refine tS ?_ ?_<;>intro hc|fail)
     all_goals (refine rT [14] ?_;first|rfl|simp only[pgo,simprocAttr]|skip)
     all_goals skip
    ·have ei:kJ x k w=(x.e.set (x.e.length-1) (k,(aO (fK x) w).1,min (fK x) ((aO (fK x) w).1-1)),(aO (fK x) w).2):=by unfold kJ;rw[if_neg q1,if_neg q2]
     rw[ei]
     have hl1:x.e.length-1<x.e.length:=by omega
     have hle:fK x=(x.e.getD (x.e.length-1) eD).2.1:=if_neg (by omega)
     have her:=su (i4 _ hl1)
     have hlr:1≤fK x∧fK x≤1099511627776:=by rw[hle];exact her.2.1
     have k3:=qw (fK x) w (by unfold W64;omega) hw
     have k4:=Xy x hn
     have har:=pR (fK x) w
     have hes:=o6 x.e (x.e.length-1) k (aO (fK x) w).1 (min (fK x) ((aO (fK x) w).1-1))
     have hso:=BD (x.e.set (x.e.length-1) (k,(aO (fK x) w).1,min (fK x) ((aO (fK x) w).1-1))) (by rw[List.length_set];omega)
     have hg:=eY x.e (x.e.length-1) hl1
     generalize hes2:x.e.set (x.e.length-1) (k,(aO (fK x) w).1,min (fK x) ((aO (fK x) w).1-1))=e2 at *
     generalize x.e.getD (x.e.length-1) eD=y at *
     have hfl:=pM 0 119 3 (srt bfE e2)
     clear hle
     generalize bi x.e k=fi at *
     generalize fK x=low at *
     generalize aO x.t w=a at *
     generalize aO low w=a' at *
     obtain⟨a1,a2⟩:=a
     obtain⟨b1,b2⟩:=a'
     simp only at k1 k3 hes har ⊢
     obtain⟨z,t,l,b⟩:=x
     simp only at *
     have hi:((l.length:Int)-1).toNat=l.length-1:=by omega
     cases b
     ·refine gI oD Tryz.func37 Tryz.results37 ?_
      (repeat' first|refine wPA (aI @aG (aI @hi (aI @hg @hes))) (aI h1 (aI h2 (aI k1 (aI k2 (aI k3 k4))))) ?_|refine cF hso hfl ?_|refine tS ?_ ?_<;>intro hc|fail)
      all_goals exact rE [13]
     ·refine gI oD Tryz.func37 Tryz.results37 ?_
      (repeat' first|refine wPA (aI @aG (aI @hi (aI @hg @hes))) (aI h1 (aI h2 (aI k1 (aI k2 (aI k3 k4))))) ?_|refine cF hso hfl ?_|refine tS ?_ ?_<;>intro hc|fail)
      all_goals exact rE [13]
  ·rw[if_pos (by omega)]
   refine Good.fzt (vs:=[.agg [vi 0,vi 0,nls,vb false],vi (bT k w)]) ?_ rfl ⟨FK,aH _,trivial⟩
   refine gI oD Tryz.func37 Tryz.results37 ?_
   exact wRA trivial (aI h1 h2) ay
 ·rw[if_pos (by omega)]
  refine Good.fzt (vs:=[.agg [vi 0,vi 0,nls,vb false],vi (vTp x)]) ?_ rfl ⟨FK,aH _,trivial⟩
  refine gI oD Tryz.func37 Tryz.results37 ?_
  exact wRA trivial h1 ay
def tH(x:En):List En→List En
 | []=>[x]
 | y::l=>if kl x.1 y.1=true then x::y::l else y::tH x l
theorem xR(x y:En)(l:List En):tH x (y::l)=if kl x.1 y.1=true then x::y::l else y::tH x l:=rfl
theorem Jj(x:En)(l:List En):(tH x l).length=l.length+1:=by
 induction l with
 | nil=>rfl
 | cons y l ih=>unfold tH;split<;>simp [ih]
theorem Xz(x z:En)(l:List En):z∈tH x l↔z=x∨z∈l:=by
 induction l with
 | nil=>simp [tH]
 | cons y l ih =>
  unfold tH
  split
  ·simp
  ·simp only[List.mem_cons,ih]
   constructor
   ·rintro (h|h|h)<;>simp [h]
   ·rintro (h|h|h)<;>simp [h]
def sD(x:En)(d:Bool)(l:List En):List En:=if d=true then l else tH x l
theorem Eb(l:List En)(x:En)(hn:l.length≤1000000):Gxx 109 [fzv l,.agg [vs x.1,vi x.2.1,vi x.2.2]] (.sl (.own 0 119) 3 (ev (tH x l))):=by
 have hel:=aG l
 refine gI oW Tryz.func109 Tryz.results109 ?_
 refine wS trivial trivial ?_
 refine df (fun s:Nat × Bool × List En=>mkA [(0,fzv l),(3,.ref 0 0),(5,.sl (.own 0 119) 3 (ev s.2.2)),(6,vb s.2.1),(7,vi s.1)] [(0,(119,[vs x.1,vi x.2.1,vi x.2.2]))] 1 (fun _ => .top)) (fun s=>s.1≤l.length∧s.2.2.length≤s.1+1∧(s.2.2.length=s.1∨s.2.1=true)∧s.2.2++sD x s.2.1 (l.drop s.1)=tH x l) (fun s=>l.length-s.1) (0,false,[]) [] [0] ?_ ⟨Nat.zero_le _,Nat.zero_le _,.inl rfl,rfl⟩ ?_
 ·exact kE
  all_goals first|exact gG rfl|skip
 ·rintro⟨i,d,o⟩ ⟨hi,ho1,ho2,ho⟩
  simp only at hi ho1 ho2 ho
  have hol:=aG o
  rcases Nat.lt_or_ge i l.length with hlt|hge
  ·rw[iR l i ([],0,0) hlt] at ho
   have hg:=eY l i hlt
   generalize l.getD i ([],0,0)=y at *
   obtain⟨yk,yc,ye⟩:=y
   obtain⟨xk,xc,xe⟩:=x
   simp only at hg ho ⊢
   have s1:=mr o xk xc xe
   have s2:=mr o yk yc ye
   have s3:=mr (o++[(xk,xc,xe)]) yk yc ye
   have l3:(ev (o++[(xk,xc,xe)])).length=o.length+1:=by rw[aG];simp
   have l4:(o++[(xk,xc,xe)]).length=o.length+1:=by simp
   generalize hm1:o++[(xk,xc,xe)]=o1 at *
   cases d
   ·cases hk:kl xk yk
    ·have e1:sD (xk,xc,xe) false ((yk,yc,ye)::l.drop (i+1))=(yk,yc,ye)::tH (xk,xc,xe) (l.drop (i+1)):=by unfold sD;rw[xR];simp [hk]
     rw[e1] at ho
     refine wS (aI @pgv (aI @kH (aI @hg (aI @hk @s2)))) trivial ?_
     refine dh (i+1,false,o++[(yk,yc,ye)]) [0] [0] ⟨hlt,by simp only[List.length_append,List.length_cons,List.length_nil];omega,.inl (by simp only[List.length_append,List.length_cons,List.length_nil];rcases ho2 with h|h;omega;cases h),by rw[←ho];simp [sD]⟩ (by show l.length-(i+1)<l.length-i;omega) ?_
     exact kE
    ·have e1:sD (xk,xc,xe) false ((yk,yc,ye)::l.drop (i+1))=(xk,xc,xe)::(yk,yc,ye)::(l.drop (i+1)):=by unfold sD;rw[xR];simp [hk]
     rw[e1] at ho
     refine wS (aI @pgv (aI @kH (aI @hg (aI @hk (aI @s1 (aI @s3 @l3)))))) trivial ?_
     refine dh (i+1,true,o1++[(yk,yc,ye)]) [0] [0] ⟨hlt,(by show (o1++[((yk,yc,ye):En)]).length≤i+1+1;rw[List.length_append,l4];simp only[List.length_cons,List.length_nil];rcases ho2 with h|h;omega;cases h),.inr rfl,by rw[←ho,←hm1];simp [sD]⟩ (by show l.length-(i+1)<l.length-i;omega) ?_
     exact kE
   ·have e1:sD (xk,xc,xe) true ((yk,yc,ye)::l.drop (i+1))=(yk,yc,ye)::(l.drop (i+1)):=by unfold sD;simp
    rw[e1] at ho
    refine wS (aI @pgv (aI @kH (aI @hg @s2))) trivial ?_
    refine dh (i+1,true,o++[(yk,yc,ye)]) [0] [0] ⟨hlt,by simp only[List.length_append,List.length_cons,List.length_nil];omega,.inr rfl,by rw[←ho];simp [sD]⟩ (by show l.length-(i+1)<l.length-i;omega) ?_
    exact kE
  ·have:i=l.length:=by omega
   subst this
   rw[List.drop_length] at ho
   cases d
   ·have ho':o++[x]=tH x l:=ho
    have s1:=mr o x.1 x.2.1 x.2.2
    have ho2':ev (o++[(x.1,x.2.1,x.2.2)])=ev (tH x l):=congrArg ev ho'
    exact wR (aI @aG (aI @s1 @ho2')) trivial (ids [0])
   ·have ho':o=tH x l:=by rw[←ho];simp [sD]
    subst ho'
    exact wR @aG trivial (ids [0])
def iU(d:Int):List En→List En
 | []=>[]
 | y::l=>if y.2.1 > d then (y.1,y.2.1-d,0)::iU d l else iU d l
theorem pU(d:Int)(y:En)(l:List En):iU d (y::l)=if y.2.1 > d then (y.1,y.2.1-d,0)::iU d l else iU d l:=rfl
theorem BF(d:Int)(l:List En):(iU d l).length≤l.length:=by
 induction l with
 | nil=>exact Nat.le_refl _
 | cons y l ih=>unfold iU;split<;>simp only[List.length_cons]<;>omega
def cin(l:List En):Prop:=∀e∈l,1≤e.2.1∧e.2.1≤1099511627776
theorem OT{l:List En}(h:cin l){i:Nat}(hi:i<l.length):1≤(l.getD i ([],0,0)).2.1∧(l.getD i ([],0,0)).2.1≤1099511627776:=by
 have:l.getD i ([],0,0)=l[i]:=by simp [List.getD,hi]
 rw[this];exact h _ (List.getElem_mem hi)
theorem RG(l:List En)(d:Int)(hl:cin l)(hd:1≤d∧d≤1099511627776)(hn:l.length≤1000000):Gxx 110 [fzv l,vi d] (.sl (.own 0 119) 3 (ev (iU d l))):=by
 have hel:=aG l
 refine gI oW Tryz.func110 Tryz.results110 ?_
 refine wS trivial trivial ?_
 refine df (fun s:Nat × List En=>mkA [(0,fzv l),(1,vi d),(5,.sl (.own 0 119) 3 (ev s.2)),(6,vi s.1)] [] 1 (fun _ => .top)) (fun s=>s.1≤l.length∧s.2.length≤s.1∧s.2++iU d (l.drop s.1)=iU d l) (fun s=>l.length-s.1) (0,[]) [] [] ?_ ⟨Nat.zero_le _,Nat.zero_le _,rfl⟩ ?_
 ·exact kE
  all_goals first|exact gG rfl|skip
 ·rintro⟨i,o⟩ ⟨hi,ho1,ho⟩
  simp only at hi ho1 ho
  have hol:=aG o
  rcases Nat.lt_or_ge i l.length with hlt|hge
  ·rw[iR l i ([],0,0) hlt] at ho
   have hg:=eY l i hlt
   have hc:=OT hl hlt
   generalize l.getD i ([],0,0)=y at *
   obtain⟨yk,yc,ye⟩:=y
   simp only at hg hc
   rw[pU] at ho
   simp only at ho
   have s1:=mr o yk (yc-d) 0
   by_cases hy:yc > d
   ·rw[if_pos hy] at ho
    refine wS (aI @aG (aI @hg @s1)) trivial ?_
    refine dh (i+1,o++[(yk,yc-d,0)]) [0] [] ⟨hlt,by simp only[List.length_append,List.length_cons,List.length_nil];omega,by rw[←ho];simp⟩ (by show l.length-(i+1)<l.length-i;omega) ?_
    exact kE
   ·rw[if_neg hy] at ho
    refine wS (aI @aG @hg) trivial ?_
    refine dh (i+1,o) [0] [] ⟨hlt,by simp only;omega,ho⟩ (by show l.length-(i+1)<l.length-i;omega) ?_
    exact kE
  ·have:i=l.length:=by omega
   subst this
   rw[List.drop_length] at ho
   have ho':o=iU d l:=by rw[←ho];simp [iU]
   subst ho'
   exact wR @aG trivial (ids [0])
def leK(a b:List Nat):Bool:=kl a b||decide (a=b)
def oC(l:List En)(i:Nat):Int :=
 if iQ (l.getD i eD).1=false then 7
 else if ¬((1≤(l.getD i eD).2.1∧(l.getD i eD).2.1≤1099511627776)∧(l.getD i eD).2.2=0) then 5
 else if 0<i∧leK (l.getD i eD).1 (l.getD (i-1) eD).1=true then 19 else 0
def vFq(t:Fq):Int:=if ¬((1≤t.z∧t.z≤32)∧(0≤t.t∧t.t≤1099511627776)∧(0≤t.l∧t.l≤1099511627776)) then 5 else if (t.e.length:Int) > t.z then 11 else lT (oC t.e) t.e.length 0
theorem mf(x:Fq)(ho:octE x.e)(hn:x.e.length≤1000000):Gxx 97 [.agg (fqF x)] (vi (vFq x)):=by
 obtain⟨z,t,lo,l,b⟩:=x
 simp only at ho hn
 unfold vFq
 simp only
 have hel:=aG l
 by_cases c1:(1≤z∧z≤32)∧(0≤t∧t≤1099511627776)∧(0≤lo∧lo≤1099511627776)
 ·rw[if_neg (fun h=>h c1)]
  have k1:=bG z 1 32 c1.1
  have k2:=bG t 0 1099511627776 c1.2.1
  have k2':=bG lo 0 1099511627776 c1.2.2
  by_cases c2:(l.length:Int) > z
  ·rw[if_pos c2]
   refine gI oW Tryz.func97 Tryz.results97 ?_
   exact wR @aG (aI k1 (aI k2 k2')) ay
  ·rw[if_neg c2]
   refine gI oW Tryz.func97 Tryz.results97 ?_
   refine wS @aG (aI k1 (aI k2 k2')) ?_
   generalize hE:lT (oC l) l.length 0=E
   refine df (fun i:Nat=>mkA [(1,.ref 0 0),(3,vi i)] [(0,(36,fqF ⟨z,t,lo,l,b⟩))] 1 (fun _ => .top)) (fun i=>i≤l.length∧lT (oC l) (l.length-i) i=E) (fun i=>l.length-i) 0 [] [0] ?_ ⟨Nat.zero_le _,hE⟩ ?_
   ·exact kE
   ·rintro i ⟨hi,he⟩
    rcases Nat.lt_or_ge i l.length with hlt|hge
    ·have hg:=eY l i hlt
     have hox:=fV ho i
     have hoy:=fV ho (i-1)
     rw[show l.length-i=(l.length-(i+1))+1 by omega] at he
     have k3:=xI (l.getD i eD).1
     have et:oC l i=if iQ (l.getD i eD).1=false then 7 else if ¬((1≤(l.getD i eD).2.1∧(l.getD i eD).2.1≤1099511627776)∧(l.getD i eD).2.2=0) then 5 else if 0<i∧leK (l.getD i eD).1 (l.getD (i-1) eD).1=true then 19 else 0:=rfl
     generalize hxx:l.getD i eD=x at *
     obtain⟨xk,xc,xe⟩:=x
     simp only at hox k3 et hg
     have ext:∀v:Int,v≠0→oC l i=v→v=E:=fun v h0 h1=>by rw[qp _ _ _ (by omega)] at he;omega
     cases q1:iQ xk
     ·rw[q1] at k3 et
      have:=ext 7 (by omega) (by rw[et];rfl)
      subst this
      exact wR (aI @aG @hg) k3 ay
     ·rw[q1] at k3 et
      rw[if_neg (by simp)] at et
      by_cases q2:(1≤xc∧xc≤1099511627776)∧xe=0
      ·rw[if_neg (fun h=>h q2)] at et
       have k5:=bG xc 1 1099511627776 q2.1
       have q0:=q2.2
       subst q0
       by_cases q4:0<i
       ·have hg1:=eY l (i-1) (by omega)
        have hi1:((i:Int)-1).toNat=i-1:=by omega
        generalize l.getD (i-1) eD=y at *
        have hd:=uO hox hoy
        have hle:(kl xk y.1||decide (sB xk=sB y.1))=leK xk y.1:=by rw[hd];rfl
        cases q5:leK xk y.1
        ·rw[if_neg (by rw[q5];simp)] at et
         rw[q5] at hle
         rw[jV _ _ _ et] at he
         refine wS (aI @pgv (aI @kH (aI @hle (aI @hg (aI @hi1 @hg1))))) (aI k3 k5) ?_
         exact bE (i+1) [] [0] ⟨hlt,he⟩
        ·rw[if_pos ⟨q4,q5⟩] at et
         rw[q5] at hle
         have:=ext 19 (by omega) et
         subst this
         exact wR (aI @pgv (aI @kH (aI @hle (aI @hg (aI @hi1 @hg1))))) (aI k3 k5) ay
       ·rw[if_neg (by omega)] at et
        rw[jV _ _ _ et] at he
        refine wS (aI @pgv @hg) (aI k3 k5) ?_
        exact bE (i+1) [] [0] ⟨hlt,he⟩
      ·rw[if_pos q2] at et
       have:=ext 5 (by omega) et
       subst this
       by_cases q6:1≤xc∧xc≤1099511627776
       ·have k5:=bG xc 1 1099511627776 q6
        have q7:xe≠0:=fun h=>q2 ⟨q6,h⟩
        exact wR (aI @aG @hg) (aI k3 k5) ay
       ·have k5:=eU xc 1 1099511627776
        rw[kG q6] at k5
        exact wR (aI @aG @hg) (aI k3 k5) ay
    ·have:i=l.length:=by omega
     subst this
     rw[Nat.sub_self] at he
     have he0:0=E:=he
     subst he0
     exact wR @aG trivial ay
 ·rw[if_pos c1]
  by_cases c2:1≤z∧z≤32
  ·have k1:=bG z 1 32 c2
   by_cases c3:0≤t∧t≤1099511627776
   ·have k2:=bG t 0 1099511627776 c3
    have k2':=eU lo 0 1099511627776
    rw[kG (by omega)] at k2'
    refine gI oW Tryz.func97 Tryz.results97 ?_
    exact wR trivial (aI k1 (aI k2 k2')) ay
   ·have k2:=eU t 0 1099511627776
    rw[kG c3] at k2
    refine gI oW Tryz.func97 Tryz.results97 ?_
    exact wR trivial (aI k1 k2) ay
  ·have k1:=eU z 1 32
   rw[kG c2] at k1
   refine gI oW Tryz.func97 Tryz.results97 ?_
   exact wR trivial k1 ay
end Go.Proofs.YtiohdbjggmmjcaaGreat
