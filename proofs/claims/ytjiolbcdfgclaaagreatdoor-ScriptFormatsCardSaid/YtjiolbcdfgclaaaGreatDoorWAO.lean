/-
  Texts of this claim, merged; own names are short.
-/
import Derived.Test.YtjiolbcdfgclaaaGreatDoorWAN
import Derived.Test.YtjiolbcdfgclaaaGreatDoorWAM
set_option linter.unusedVariables false
set_option linter.unusedSimpArgs false
set_option linter.unusedSectionVars false
set_option linter.defProp false
set_option maxRecDepth 100000
set_option maxHeartbeats 8000000
namespace Go.Proofs.YtjiolbcdfgclaaaGreatDoor
open Go Go.Pg
theorem ahc(P:Program)(t:TypeId)(a b:List Nat)(ha:a.length≤1000000000000)(hb:b.length≤1000000000000):eu P .add t (.c (.string (sB a))) (.c (.string (sB b)))=some (.c (.string (sB (a++b)))):=adW P t a b (by omega)
theorem dR(l:List (List Nat))(hl:tot l≤100000000):Gxx 48 [fzs l] (vs (jn l)):=by
 have hx:=au l
 have hln:=Q9 l
 refine gI oW Tryz.func48 Tryz.results48 ?_
 refine wS @ai trivial ?_
 refine aK (fun i:Nat=>mkA [(0,fzs l),(3,vs (jn (l.take i))),(4,vi i)] [] 0 (fun _ => .top)) (fun i=>i≤l.length) (fun i=>l.length-i) 0 [] [] ?_ (Nat.zero_le _) ?_
 ·exact kE
 ·intro i hi
  replace hi:i≤l.length:=hi
  rcases Nat.lt_or_ge i l.length with hlt|hge
  ·have hg:=iK l i hlt
   have h1:(jn (l.take i)).length≤1000000000:=by have:=xg (l.take i);have:=KH l i;omega
   have h2:(l.getD i []).length≤1000000000:=by have:=KI l i;omega
   have h3:(jn (l.take i)++[32]).length≤1000000000000:=by simp;omega
   rcases Nat.eq_zero_or_pos i with h0|h0
   ·subst h0
    have h4:=ZB hlt
    rw[List.take_zero] at h1 ⊢
    generalize l.getD 0 []=w at hg h2 h4
    have e0:jn ([]:List (List Nat))=[]:=rfl
    refine wS (aI @hg (aI @e0 (aI @ahc @List.nil_append.{0}))) trivial ?_
    (refine bL (0+1) [] [] hlt ?_;refine kL ?_)
    all_goals exact gq (by rw[h4])
   ·have h4:=aeN hlt h0
    generalize l.getD i []=w at hg h2 h4
    refine wS (aI @hg (aI @k32 @ahc)) trivial ?_
    (refine bL (i+1) [] [] hlt ?_;refine kL ?_)
    all_goals exact gq (by rw[h4];simp)
  ·have:i=l.length:=by omega
   subst this
   rw[List.take_length]
   exact wR trivial trivial ah
theorem jX(n:Int)(h:Wt n):Gxx 51 [vi n] (vs (ak n)):=by
 have h1:=ajh n h.1 h.2
 refine gI oW Tryz.func51 Tryz.results51 ?_
 exact wR trivial h1 ah
theorem yT(l:List Nat)(ho:oct l)(hl:l.length≤1000000):Gxx 52 [fzb l] (vs (fb l)):=by
 have h1:=O5 l ho (by omega)
 have hb:=ax l
 unfold fb
 refine gI oW Tryz.func52 Tryz.results52 ?_
 by_cases h0:l.length=0
 ·rw[if_pos h0]
  exact wR (aI @ax (aI @h0 @k45)) trivial ah
 ·rw[if_neg h0]
  exact wR (aI @ax (aI @h0 @rH)) h1 ah
def env(l:List (List Nat × Int × Int)):List V:=l.map fun x=>V.agg [vs x.1,vi x.2.1,vi x.2.2]
structure Rs where
 err:Int
 commit:Int
 version:Int
 handle:Int
 names:List (List Nat)
 value:Int
 error:Int
 key:List Nat
 numbers:List Int
 entries:List (List Nat × Int × Int)
 sat:Bool
 data:List Nat
structure Rs.Ok (r:Rs):Prop where
 err:Wt r.err
 commit:Wt r.commit
 version:Wt r.version
 handle:Wt r.handle
 names:∀x∈r.names,oct x
 value:Wt r.value
 error:Wt r.error
 key:oct r.key
 numbers:∀n∈r.numbers,Wt n
 entries:∀x∈r.entries,oct x.1∧Wt x.2.1∧Wt x.2.2
 data:oct r.data
structure Rs.Lt (r:Rs):Prop where
 names:r.names.length≤20
 name:∀x∈r.names,x.length≤100
 numbers:r.numbers.length≤50
 entries:r.entries.length≤30
 key:r.key.length≤100
 ekey:∀x∈r.entries,x.1.length≤100
 data:r.data.length≤300
def enW:List (List Nat × Int × Int)→List (List Nat)
 | []=>[]
 | x::l=>kw x.1::ak x.2.1::ak x.2.2::enW l
def q0(r:Rs):List (List Nat):=[[111,107],ak r.commit,ak r.version,ak r.handle]
def q1(r:Rs):List (List Nat):=if r.names.length=0 then [] else [110,97,109,101,115]::r.names
def q2(r:Rs):List (List Nat):=if r.value=0 then [] else [[118,97,108,117,101],ak r.value]
def q3(r:Rs):List (List Nat):=if r.error=0 then [] else [[101,114,114,111,114],ak r.error]
def q4(r:Rs):List (List Nat):=if r.key.length=0 then [] else [[107,101,121],kw r.key]
def q5(r:Rs):List (List Nat):=if r.numbers.length=0 then [] else [110,117,109,98,101,114,115]::r.numbers.map ak
def q6(r:Rs):List (List Nat):=if r.entries.length=0 then [] else [101,110,116,114,105,101,115]::enW r.entries
def q7(r:Rs):List (List Nat):=if r.sat=true then [[115,97,116,117,114,97,116,101,100]] else []
def q8(r:Rs):List (List Nat):=if r.data.length=0 then [] else [[100,97,116,97],fb r.data]
end Go.Proofs.YtjiolbcdfgclaaaGreatDoor
section
namespace Go.Proofs.YtjiolbcdfgclaaaGreatDoor
open Go Go.Pg
def kl(a b:List Nat):Bool:=Op.bytesLess (sB a).toList (sB b).toList
theorem rP(a b:List Nat):Op.bytesLess (sB a).toList (sB b).toList=kl a b:=rfl
def octE(l:List En):Prop:=∀e∈l,oct e.1
theorem lu{l:List En}(h:octE l)(i:Nat):oct (l.getD i ([],0,0)).1:=by
 rcases Nat.lt_or_ge i l.length with hi|hi
 ·have:l.getD i ([],0,0)=l[i]:=by simp [List.getD,hi]
  rw[this];exact h _ (List.getElem_mem hi)
 ·have:l.getD i ([],0,0)=([],0,0):=by simp [List.getD,hi]
  rw[this];exact dV
theorem Vu{l:List En}(h:octE l)(n:Nat):octE (l.take n):=fun e he=>h e (List.mem_of_mem_take he)
def bfE(a b:En):Bool:=decide (b.2.1<a.2.1)||(decide (a.2.1=b.2.1)&&kl a.1 b.1)
theorem Gm(a b:En):Gxx 202 [.agg [vs a.1,vi a.2.1,vi a.2.2],.agg [vs b.1,vi b.2.1,vi b.2.2]] (vb (bfE a b)):=by
 obtain⟨k1,c1,e1⟩:=a
 obtain⟨k2,c2,e2⟩:=b
 unfold bfE
 simp only
 refine gI oW Tryz.func202 Tryz.results202 ?_
 by_cases h1:c2<c1
 ·rw[decide_eq_true h1]
  exact wR @rP trivial ah
 ·rw[decide_eq_false h1]
  by_cases h2:c1=c2
  ·rw[decide_eq_true h2]
   cases hk:kl k1 k2
   ·exact wR (aI @rP @hk) trivial ah
   ·exact wR (aI @rP @hk) trivial ah
  ·rw[decide_eq_false h2]
   exact wR @rP trivial ah
def Ld(k:List Nat):Nat→List En→Int
 | _,[] => -1
 | i,e::l=>if e.1=k then i else Ld k (i+1) l
def iG(l:List En)(k:List Nat):Int:=Ld k 0 l
theorem aaR(k:List Nat):∀(l:List En) (i:Nat),Ld k i l = -1∨(i:Int)≤Ld k i l∧Ld k i l<i+l.length:=by
 intro l
 induction l with
 | nil=>intro i;exact .inl rfl
 | cons e l ih =>
  intro i
  unfold Ld
  split
  ·right;simp only[List.length_cons];omega
  ·rcases ih (i+1) with h|h
   ·exact .inl h
   ·right;simp only[List.length_cons];omega
theorem D5(l:List En)(k:List Nat):iG l k = -1∨0≤iG l k∧iG l k<l.length:=by
 have:=aaR k l 0
 unfold iG
 omega
theorem aaS(l:List En)(i:Nat)(h:i<l.length):l.drop i=l.getD i ([],0,0)::l.drop (i+1):=by rw[List.drop_eq_getElem_cons h];simp [List.getD,h]
theorem Iz(l:List En)(k:List Nat)(hl:octE l)(ho:oct k)(hn:l.length≤1000000):Gxx 201 [fzv l,vs k] (vi (iG l k)):=by
 have hel:=aY l
 refine gI oW Tryz.func201 Tryz.results201 ?_
 refine wS trivial trivial ?_
 refine aK (fun i:Nat=>mkA [(0,fzv l),(1,vs k),(5,vi i)] [] 0 (fun _ => .top)) (fun i=>i≤l.length∧iG l k=Ld k i (l.drop i)) (fun i=>l.length-i) 0 [] [] ?_ ⟨Nat.zero_le _,rfl⟩ ?_
 ·exact kE
 ·rintro i ⟨hi,he⟩
  rcases Nat.lt_or_ge i l.length with hlt|hge
  ·rw[aaS l i hlt] at he
   have hg:=jr l i hlt
   have hox:=lu hl i
   generalize l.getD i ([],0,0)=x at *
   obtain⟨xk,xc,xe⟩:=x
   simp only at hg hox
   unfold Ld at he
   have hd:=sJ hox ho
   by_cases hx:xk=k
   ·rw[if_pos hx] at he
    rw[he]
    rw[decide_eq_true hx] at hd
    exact wR (aI @aY (aI @hg @hd)) trivial ah
   ·rw[if_neg hx] at he
    rw[decide_eq_false hx] at hd
    refine wS (aI @aY (aI @hg @hd)) trivial ?_
    exact bE (i+1) [] [] ⟨hlt,he⟩
  ·have:i=l.length:=by omega
   subst this
   rw[List.drop_length] at he
   rw[he]
   exact wR @aY trivial ah
section
variable {α:Type}
def qV(bf:α→α→Bool)(x:α):List α→List α
 | []=>[x]
 | y::ys=>if bf x y=true then y::qV bf x ys else x::y::ys
def Ac(bf:α→α→Bool):List α→List α→List α
 | acc,[]=>acc
 | acc,x::l=>Ac bf (qV bf x acc) l
def srt(bf:α→α→Bool)(l:List α):List α:=(Ac bf [] l).reverse
theorem uU(bf:α→α→Bool)(x:α)(l:List α):(qV bf x l).length=l.length+1:=by
 induction l with
 | nil=>rfl
 | cons y ys ih=>unfold qV;split<;>simp [ih]
theorem aaT(bf:α→α→Bool)(x z:α)(l:List α):z∈qV bf x l↔z=x∨z∈l:=by
 induction l with
 | nil=>simp [qV]
 | cons y ys ih =>
  unfold qV
  split
  ·simp only[List.mem_cons,ih]
   constructor
   ·rintro (h|h|h)<;>simp [h]
   ·rintro (h|h|h)<;>simp [h]
  ·simp
theorem aaU(bf:α→α→Bool)(l:List α):∀acc,(Ac bf acc l).length=acc.length+l.length:=by
 induction l with
 | nil=>intro acc;rfl
 | cons x l ih=>intro acc;rw[Ac,ih,uU];simp only[List.length_cons];omega
theorem aaV(bf:α→α→Bool)(z:α)(l:List α):∀acc,z∈Ac bf acc l↔z∈acc∨z∈l:=by
 induction l with
 | nil=>intro acc;simp [Ac]
 | cons x l ih =>
  intro acc
  rw[Ac,ih,aaT]
  simp only[List.mem_cons]
  constructor
  ·rintro ((h|h)|h)<;>simp [h]
  ·rintro (h|h|h)<;>simp [h]
theorem RG(bf:α→α→Bool)(l:List α):(srt bf l).length=l.length:=by simp [srt,aaU]
theorem RH(bf:α→α→Bool)(z:α)(l:List α):z∈srt bf l↔z∈l:=by simp [srt,aaV]
def mov(p:List α)(x:α)(t:List α):List α:=p.reverse++x::t
theorem BR(p:List α)(x:α)(t:List α):(mov p x t).length=p.length+1+t.length:=by simp [mov];omega
theorem aaW(p:List α)(x:α)(t:List α)(d:α):(mov p x t).getD p.length d=x:=by simp [mov,List.getD]
theorem RI(y:α)(p:List α)(x:α)(t:List α)(d:α):(mov (y::p) x t).getD p.length d=y:=by simp [mov,List.getD]
theorem Lh(y:α)(p:List α)(x:α)(t:List α):((mov (y::p) x t).set (p.length+1) y).set p.length x=mov p x (y::t):=by
 unfold mov
 have h1:(y::p).reverse=p.reverse++[y]:=by simp
 rw[h1]
 have e1:p.length=p.reverse.length:=by simp
 rw[e1]
 rw[List.append_assoc,List.set_append_right _ _ (by omega),show p.reverse.length+1-p.reverse.length=1 by omega]
 rw[List.set_append_right _ _ (by omega),Nat.sub_self]
 rfl
theorem BU(bf:α→α→Bool)(p:List α)(x:α)(t:List α)(h:p=[]∨∃y q,p=y::q∧bf x y=false):(qV bf x p).reverse++t=mov p x t:=by
 rcases h with rfl|⟨y,q,rfl,h⟩
 ·simp [qV,mov]
 ·unfold qV
  rw[if_neg (by rw[h];simp)]
  simp [mov]
theorem aaX(bf:α→α→Bool)(y:α)(p:List α)(x:α)(t:List α)(h:bf x y=true):(qV bf x (y::p)).reverse++t=(qV bf x p).reverse++y::t:=by
 conv=>lhs;unfold qV
 rw[if_pos h]
 simp
end
theorem mD{α:Type}(l:List α)(i:Nat)(d:α)(h:i<l.length):l.drop i=l.getD i d::l.drop (i+1):=by rw[List.drop_eq_getElem_cons h];simp [List.getD,h]
theorem D6(l:List En)(hn:l.length≤1000000):Gxx 214 [fzv l] (.sl (.own 0 59) 3 (ev (srt bfE l))):=by
 have hel:=aY l
 refine gI oW Tryz.func214 Tryz.results214 ?_
 refine wS trivial trivial ?_
 refine aK (fun x:Nat × List En=>mkA [(0,fzv l),(3,.sl (.own 0 59) 3 (ev x.2.reverse)),(4,vi x.1)] [] 1 (fun _ => .top)) (fun x=>x.1≤l.length∧x.2.length=x.1∧Ac bfE x.2 (l.drop x.1)=Ac bfE [] l) (fun x=>l.length-x.1) (0,[]) [] [] ?_ ⟨Nat.zero_le _,rfl,rfl⟩ ?_
 ·exact kE
  all_goals first|exact gK rfl|skip
 ·rintro⟨i,acc⟩ ⟨hi,ha,hs⟩
  simp only at hi ha hs
  have hal:(ev acc.reverse).length=i:=by rw[aY,List.length_reverse,ha]
  rcases Nat.lt_or_ge i l.length with hlt|hge
  ·rw[mD l i ([],0,0) hlt] at hs
   have hg:=jr l i hlt
   generalize l.getD i ([],0,0)=x at *
   have hsn:ev acc.reverse++[V.agg [vs x.1,vi x.2.1,vi x.2.2]]=ev (mov acc x []):=by rw[sW];unfold mov;rfl
   have hml:(ev (mov acc x [])).length=i+1:=by rw[aY,BR,ha];rfl
   (repeat' (first|(simp (disch:=first|exact dqz|fail) only[pgz,simprocAttr,hg,aY,hsn,hml,hal])|((with_reducible first|apply di|apply bK|apply eX)<;>intro hc<;>(try simp only[hc])<;>(try simp only[pgd] at hc))|(with_reducible refine cK ?_)))
   refine aK (fun y:List En × List En=>mkA [(0,fzv l),(3,.sl (.own 0 59) 3 (ev (mov y.1 x y.2))),(4,vi i),(5,vi y.1.length)] [] 1 (fun _ => .top)) (fun y=>y.1.length+y.2.length=i∧(qV bfE x y.1).reverse++y.2=(qV bfE x acc).reverse) (fun y=>y.1.length) (acc,[]) [0] [] ?_ ⟨by simp [ha],by simp⟩ ?_
   ·(refine iy ?_ ?_ (kD _ _ _) (by decide) (by decide) (by decide) (by decide);(repeat' (first|exact trivial|refine gJ _ _ rfl rfl ?_ ?_));all_goals (try simp only[pgs,pgl,pgx,pgf,pgw,fQ,ig,fU,iq,dB,eY,fJ,pgn,simprocAttr]);all_goals (try (repeat' (first|apply aI)));all_goals (try (first|exact trivial|exact gB (by omega)|exact gq rfl|exact aW rfl rfl|exact je rfl)))
    all_goals exact gB (by omega)
   ·rintro⟨p,t⟩ ⟨hp1,hp2⟩
    simp only at hp1 hp2
    have hmp:=BR p x t
    have hmp2:(ev (mov p x t)).length=i+1:=by rw[aY,hmp];omega
    cases p with
    | nil =>
     rw[BU bfE [] x t (.inl rfl)] at hp2
     refine wS @hmp2 trivial ?_
     refine bC (i+1,qV bfE x acc) [0] [] ⟨hlt,by simp only;rw[uU,ha],by simp only;rw[←hs];rfl⟩ (by show l.length-(i+1)<l.length-i;omega) ?_
     refine kL ?_
     all_goals exact aW rfl (by rw[hp2])
    | cons y p =>
     have g1:=jr (mov (y::p) x t) (p.length+1) (by rw[hmp];simp only[List.length_cons];omega)
     have g2:=jr (mov (y::p) x t) p.length (by rw[hmp];simp only[List.length_cons];omega)
     have m1:(mov (y::p) x t).getD (p.length+1) ([],0,0)=x:=aaW (y::p) x t _
     rw[m1] at g1
     rw[RI] at g2
     have hb:=Gm x y
     have hi1:(((y::p).length:Nat):Int)=(p.length:Int)+1:=by simp
     have hi2:((p.length:Int)+1).toNat=p.length+1:=by omega
     have hi3:((p.length:Int)+1-1)=(p.length:Int):=by omega
     cases hbf:bfE x y
     ·rw[BU bfE (y::p) x t (.inr ⟨y,p,rfl,hbf⟩)] at hp2
      rw[hbf] at hb
      refine wS (aI @hi1 (aI @hi2 (aI @hi3 (aI @hmp2 (aI @g1 @g2))))) hb ?_
      refine bC (i+1,qV bfE x acc) [0] [] ⟨hlt,by simp only;rw[uU,ha],by simp only;rw[←hs];rfl⟩ (by show l.length-(i+1)<l.length-i;omega) ?_
      refine kL ?_
      all_goals exact aW rfl (by rw[hp2])
     ·rw[aaX bfE y p x t hbf] at hp2
      rw[hbf] at hb
      have hsw:=Lh y p x t
      have hs1:(ev (mov (y::p) x t)).set (p.length+1) (V.agg [vs y.1,vi y.2.1,vi y.2.2])=ev ((mov (y::p) x t).set (p.length+1) y):=DI _ _ _ _ _
      have hs2:(ev ((mov (y::p) x t).set (p.length+1) y)).set p.length (V.agg [vs x.1,vi x.2.1,vi x.2.2])=ev (mov p x (y::t)):=by
       rw[DI]
       exact congrArg ev hsw
      have hl1:(ev ((mov (y::p) x t).set (p.length+1) y)).length=i+1:=by rw[aY,List.length_set,hmp];simp only[List.length_cons] at hp1 ⊢;omega
      have hg3:(ev ((mov (y::p) x t).set (p.length+1) y))[p.length]?=some (V.agg [vs y.1,vi y.2.1,vi y.2.2]):=by rw[←hs1,List.getElem?_set_ne (by omega),g2]
      generalize (mov (y::p) x t).set (p.length+1) y=mm at hs1 hs2 hl1 hg3
      refine wS (aI @hi1 (aI @hi2 (aI @hi3 (aI @hmp2 (aI @g1 (aI @g2 (aI @hs1 (aI @hs2 (aI @hl1 @hg3))))))))) hb ?_
      refine bC (p,y::t) [0] [] ⟨by simp only[List.length_cons] at hp1 ⊢;omega,hp2⟩ (by show p.length<(y::p).length;simp) ?_
      refine kL ?_
      all_goals (simp only[pgo,hs1,hs2];first|exact trivial|exact aW rfl rfl)
  ·have:i=l.length:=by omega
   subst this
   rw[List.drop_length] at hs
   have hs':acc=Ac bfE [] l:=hs
   refine wS @aY trivial ?_
   (refine rT [0] ?_;first|rfl|simp only[pgo,simprocAttr]|skip)
   all_goals (unfold srt;rw[hs'];rfl)
theorem afu(l:List En):V.flatL (ev l)=true:=by
 induction l with
 | nil=>rfl
 | cons a l ih=>simp only[ev,List.map_cons,V.flatL,V.flat] at ih ⊢;simpa using ih
theorem rQ(id:Nat)(e:TypeId)(k:Nat)(l:List En):(V.sl (.own id e) k (ev l)).flat=true:=afu l
end Go.Proofs.YtjiolbcdfgclaaaGreatDoor
end
namespace Go.Proofs.YtjiolbcdfgclaaaGreatDoor
open Go Go.Pg
def tC(f:Nat→Int):Nat→Nat→Int
 | 0,_=>0
 | n+1,i=>if f i≠0 then f i else tC f n (i+1)
theorem D7(f:Nat→Int)(n i:Nat)(h:f i≠0):tC f (n+1) i=f i:=if_pos h
theorem uV(f:Nat→Int)(n i:Nat)(h:f i=0):tC f (n+1) i=tC f n (i+1):=if_neg (by omega)
theorem D8(f:Nat→Int):∀n i,tC f n i=0→∀j,i≤j→j<i+n→f j=0:=by
 intro n
 induction n with
 | zero=>intro i _ j h1 h2;omega
 | succ n ih =>
  intro i h j h1 h2
  by_cases hf:f i=0
  ·rw[uV f n i hf] at h
   rcases Nat.eq_or_lt_of_le h1 with rfl|h3
   ·exact hf
   ·exact ih (i+1) h j h3 (by omega)
  ·rw[D7 f n i hf] at h;exact absurd h hf
abbrev eD:En:=([],0,0)
def Ba(l:List En)(i:Nat):Int :=
 if fH (l.getD i eD).1=false then 7
 else if ¬((1≤(l.getD i eD).2.1∧(l.getD i eD).2.1≤1099511627776)∧(0≤(l.getD i eD).2.2∧(l.getD i eD).2.2≤(l.getD i eD).2.1-1)) then 5
 else if iG (l.take i) (l.getD i eD).1≥0 then 9
 else if 0<i∧bfE (l.getD (i-1) eD) (l.getD i eD)=false then 19 else 0
def vTp(t:Tp):Int:=if ¬((1≤t.z∧t.z≤32)∧(0≤t.t∧t.t≤1099511627776)) then 5 else if (t.e.length:Int) > t.z then 11 else tC (Ba t.e) t.e.length 0
theorem pX(x:Tp)(ho:octE x.e)(hn:x.e.length≤1000000):Gxx 158 [.agg (tpF x)] (vi (vTp x)):=by
 obtain⟨z,t,l,b⟩:=x
 simp only at ho hn
 unfold vTp
 simp only
 have hel:=aY l
 by_cases c1:(1≤z∧z≤32)∧(0≤t∧t≤1099511627776)
 ·rw[if_neg (fun h=>h c1)]
  have k1:=aU z 1 32 c1.1
  have k2:=aU t 0 1099511627776 c1.2
  by_cases c2:(l.length:Int) > z
  ·rw[if_pos c2]
   refine gI oW Tryz.func158 Tryz.results158 ?_
   exact wR @aY (aI k1 k2) ah
  ·rw[if_neg c2]
   refine gI oW Tryz.func158 Tryz.results158 ?_
   refine wS @aY (aI k1 k2) ?_
   generalize hE:tC (Ba l) l.length 0=E
   refine aK (fun i:Nat=>mkA [(1,.ref 0 0),(3,vi i)] [(0,(86,tpF ⟨z,t,l,b⟩))] 1 (fun _ => .top)) (fun i=>i≤l.length∧tC (Ba l) (l.length-i) i=E) (fun i=>l.length-i) 0 [] [0] ?_ ⟨Nat.zero_le _,hE⟩ ?_
   ·exact kE
   ·rintro i ⟨hi,he⟩
    rcases Nat.lt_or_ge i l.length with hlt|hge
    ·have hg:=jr l i hlt
     have hox:=lu ho i
     rw[show l.length-i=(l.length-(i+1))+1 by omega] at he
     have k3:=uH (l.getD i eD).1
     have k4:=Iz (l.take i) (l.getD i eD).1 (Vu ho i) hox (by simp only[List.length_take];omega)
     have hfr:=D5 (l.take i) (l.getD i eD).1
     have htk:=ae2 l i
     have et:Ba l i=if fH (l.getD i eD).1=false then 7 else if ¬((1≤(l.getD i eD).2.1∧(l.getD i eD).2.1≤1099511627776)∧(0≤(l.getD i eD).2.2∧(l.getD i eD).2.2≤(l.getD i eD).2.1-1)) then 5 else if iG (l.take i) (l.getD i eD).1≥0 then 9 else if 0<i∧bfE (l.getD (i-1) eD) (l.getD i eD)=false then 19 else 0:=rfl
     generalize hxx:l.getD i eD=x at *
     have hb:=fun y=>Gm y x
     obtain⟨xk,xc,xe⟩:=x
     simp only at hox k3 k4 hfr et hg hb
     have ext:∀v:Int,v≠0→Ba l i=v→v=E:=fun v h0 h1=>by rw[D7 _ _ _ (by omega)] at he;omega
     cases q1:fH xk
     ·rw[q1] at k3 et
      have:=ext 7 (by omega) (by rw[et];rfl)
      subst this
      exact wR (aI @aY @hg) k3 ah
     ·rw[q1] at k3 et
      rw[if_neg (by simp)] at et
      by_cases q2:(1≤xc∧xc≤1099511627776)∧(0≤xe∧xe≤xc-1)
      ·rw[if_neg (fun h=>h q2)] at et
       have k5:=aU xc 1 1099511627776 q2.1
       have k6:=aU xe 0 (xc-1) q2.2
       by_cases q3:iG (l.take i) xk≥0
       ·rw[if_pos q3] at et
        have:=ext 9 (by omega) et
        subst this
        exact wR (aI @pgv (aI @hg @htk)) (aI k3 (aI k5 (aI k6 k4))) ah
       ·rw[if_neg q3] at et
        by_cases q4:0<i
        ·have hg1:=jr l (i-1) (by omega)
         have hi1:((i:Int)-1).toNat=i-1:=by omega
         have hb1:=hb (l.getD (i-1) eD)
         generalize l.getD (i-1) eD=y at *
         cases q5:bfE y (xk,xc,xe)
         ·rw[if_pos ⟨q4,q5⟩] at et
          rw[q5] at hb1
          have:=ext 19 (by omega) et
          subst this
          exact wR (aI @pgv (aI @hg (aI @htk (aI @hi1 @hg1)))) (aI k3 (aI k5 (aI k6 (aI k4 hb1)))) ah
         ·rw[if_neg (by rw[q5];simp)] at et
          rw[q5] at hb1
          rw[uV _ _ _ et] at he
          refine wS (aI @pgv (aI @hg (aI @htk (aI @hi1 @hg1)))) (aI k3 (aI k5 (aI k6 (aI k4 hb1)))) ?_
          exact bE (i+1) [] [0] ⟨hlt,he⟩
        ·rw[if_neg (by omega)] at et
         rw[uV _ _ _ et] at he
         refine wS (aI @pgv (aI @hg @htk)) (aI k3 (aI k5 (aI k6 k4))) ?_
         exact bE (i+1) [] [0] ⟨hlt,he⟩
      ·rw[if_pos q2] at et
       have:=ext 5 (by omega) et
       subst this
       by_cases q6:1≤xc∧xc≤1099511627776
       ·have k5:=aU xc 1 1099511627776 q6
        have k6:=fC xe 0 (xc-1)
        rw[jY (by omega)] at k6
        exact wR (aI @aY @hg) (aI k3 (aI k5 k6)) ah
       ·have k5:=fC xc 1 1099511627776
        rw[jY q6] at k5
        exact wR (aI @aY @hg) (aI k3 k5) ah
    ·have:i=l.length:=by omega
     subst this
     rw[Nat.sub_self] at he
     have he0:0=E:=he
     subst he0
     exact wR @aY trivial ah
 ·rw[if_pos c1]
  by_cases c2:1≤z∧z≤32
  ·have k1:=aU z 1 32 c2
   have k2:=fC t 0 1099511627776
   rw[jY (by omega)] at k2
   refine gI oW Tryz.func158 Tryz.results158 ?_
   exact wR trivial (aI k1 k2) ah
  ·have k1:=fC z 1 32
   rw[jY c2] at k1
   refine gI oW Tryz.func158 Tryz.results158 ?_
   exact wR trivial k1 ah
def jR(t:Tp):Int:=if t.e.length=0∨(t.e.length:Int)≠t.z then 0 else (t.e.getD (t.e.length-1) eD).2.1
theorem aaY(x:Tp)(hn:x.e.length≤1000000):Gxx 213 [.agg (tpF x)] (vi (jR x)):=by
 obtain⟨z,t,l,b⟩:=x
 simp only at hn
 unfold jR
 simp only
 have hel:=aY l
 by_cases c1:l.length=0
 ·rw[if_pos (.inl c1)]
  refine gI oW Tryz.func213 Tryz.results213 ?_
  exact wR @aY trivial ah
 ·by_cases c2:(l.length:Int)=z
  ·rw[if_neg (by omega)]
   have hg:=jr l (l.length-1) (by omega)
   generalize l.getD (l.length-1) eD=y at *
   have hi:((l.length:Int)-1).toNat=l.length-1:=by omega
   refine gI oW Tryz.func213 Tryz.results213 ?_
   exact wR (aI @aY (aI @hi @hg)) trivial ah
  ·rw[if_pos (.inr c2)]
   refine gI oW Tryz.func213 Tryz.results213 ?_
   exact wR @aY trivial ah
def fK(a b:Int):Int × Bool:=tq a b 1099511627776
theorem tH(a b:Int)(ha:W64 a)(hb:W64 b):Gxx 212 [vi a,vi b] (.tup [vi (fK a b).1,vb (fK a b).2]):=ai0 a b ha hb
theorem Ad(a b:Int):0≤(fK a b).1∧(fK a b).1≤1099511627776:=by
 have h1:=pW a
 have h2:=pW b
 have h3:lK 1099511627776=1099511627776:=Rt (by decide)
 unfold fK tq
 split
 ·simp only;omega
 ·simp only;omega
def Ae(t:Tp)(k:List Nat)(w:Int):List En × Bool :=
 if 0≤iG t.e k then (t.e.set (iG t.e k).toNat ((t.e.getD (iG t.e k).toNat eD).1,(fK (t.e.getD (iG t.e k).toNat eD).2.1 w).1,(t.e.getD (iG t.e k).toNat eD).2.2),(fK (t.e.getD (iG t.e k).toNat eD).2.1 w).2)
 else if (t.e.length:Int)<t.z then (t.e++[(k,w,0)],false)
 else (t.e.set (t.e.length-1) (k,(fK (jR t) w).1,min (jR t) ((fK (jR t) w).1-1)),(fK (jR t) w).2)
def yU(t:Tp)(k:List Nat)(w:Int):Tp × Int :=
 if vTp t≠0 then (Tp.o,vTp t) else if eF k w≠0 then (Tp.o,eF k w) else (⟨t.z,(fK t.t w).1,srt bfE (Ae t k w).1,t.b||(fK t.t w).2||(Ae t k w).2⟩,0)
theorem IA{t:Tp}(h:vTp t=0):(1≤t.z∧t.z≤32)∧(0≤t.t∧t.t≤1099511627776)∧(t.e.length:Int)≤t.z∧∀i,i<t.e.length→Ba t.e i=0:=by
 unfold vTp at h
 split at h
 ·cases h
 ·rename_i h1
  split at h
  ·cases h
  ·rename_i h2
   have h1:=Classical.byContradiction h1
   exact⟨h1.1,h1.2,by omega,fun i hi=>D8 _ _ _ h i (Nat.zero_le _) (by omega)⟩
theorem yV{l:List En}{i:Nat}(h:Ba l i=0):fH (l.getD i eD).1=true∧(1≤(l.getD i eD).2.1∧(l.getD i eD).2.1≤1099511627776)∧0≤(l.getD i eD).2.2∧(l.getD i eD).2.2≤(l.getD i eD).2.1-1:=by
 unfold Ba at h
 split at h
 ·cases h
 ·rename_i h1
  split at h
  ·cases h
  ·rename_i h2
   have h2:=Classical.byContradiction h2
   exact⟨by simpa using h1,h2.1,h2.2⟩
theorem aaZ:wkV (.agg [vi 0,vi 0,nls,vb false]) (.agg (tpF Tp.o)) := .inr ⟨_,_,rfl,rfl,⟨.inl rfl,.inl rfl,oq _ _,.inl rfl,trivial⟩⟩
theorem IB(x:Tp)(k:List Nat)(w:Int)(ho:oct k)(hx:octE x.e)(hn:x.e.length≤1000000):Gxx 175 [.agg (tpF x),.agg [vs k,vi w]] (.tup [.agg (tpF (yU x k w).1),vi (yU x k w).2]):=by
 have h1:=pX x hx hn
 have h2:=bZ k w
 unfold yU
 by_cases c1:vTp x=0
 ·rw[if_neg (by omega)]
  rw[c1] at h1
  by_cases c2:eF k w=0
  ·rw[if_neg (by omega)]
   rw[c2] at h2
   obtain⟨i1,i2,i3,i4⟩:=IA c1
   obtain⟨j1,j2⟩:=rJ c2
   have hw:W64 w:=by unfold W64;omega
   have k1:=tH x.t w (by unfold W64;omega) hw
   have k2:=Iz x.e k hx ho (by omega)
   have hfr:=D5 x.e k
   refine Good.fzt (vs:=[.agg [vi x.z,vi (fK x.t w).1,.sl (.own 0 59) 3 (ev (srt bfE (Ae x k w).1)),vb (x.b||(fK x.t w).2||(Ae x k w).2)],vi 0]) ?_ rfl ⟨aA _,aA _,trivial⟩
   have hel:=aY x.e
   by_cases q1:0≤iG x.e k
   ·have ei:Ae x k w=(x.e.set (iG x.e k).toNat ((x.e.getD (iG x.e k).toNat eD).1,(fK (x.e.getD (iG x.e k).toNat eD).2.1 w).1,(x.e.getD (iG x.e k).toNat eD).2.2),(fK (x.e.getD (iG x.e k).toNat eD).2.1 w).2):=if_pos q1
    rw[ei]
    have hlt:(iG x.e k).toNat<x.e.length:=by omega
    have hg:=jr x.e (iG x.e k).toNat hlt
    have her:=yV (i4 _ hlt)
    have k3:=tH (x.e.getD (iG x.e k).toNat eD).2.1 w (by unfold W64;omega) hw
    generalize x.e.getD (iG x.e k).toNat eD=y at *
    obtain⟨yk,yc,ye⟩:=y
    simp only at hg her k3 ⊢
    have hes:=DI x.e (iG x.e k).toNat yk (fK yc w).1 ye
    have hso:=D6 (x.e.set (iG x.e k).toNat (yk,(fK yc w).1,ye)) (by rw[List.length_set];omega)
    generalize hes2:x.e.set (iG x.e k).toNat (yk,(fK yc w).1,ye)=e2 at *
    have hfl:=rQ 0 59 3 (srt bfE e2)
    generalize iG x.e k=fi at *
    generalize fK x.t w=a at *
    generalize fK yc w=a' at *
    obtain⟨a1,a2⟩:=a
    obtain⟨b1,b2⟩:=a'
    simp only at k1 k3 hes ⊢
    obtain⟨z,t,l,b⟩:=x
    simp only at *
    refine gI oD Tryz.func175 Tryz.results175 ?_
    (repeat' first|refine wPA (aI @aY (aI @hg @hes)) (aI h1 (aI h2 (aI k1 (aI k2 k3)))) ?_|refine cF hso hfl ?_|refine tS ?_ ?_<;>intro hc|fail)
    all_goals exact rE [13]
   ·by_cases q2:(x.e.length:Int)<x.z
    ·have ei:Ae x k w=(x.e++[(k,w,0)],false):=by unfold Ae;rw[if_neg q1,if_pos q2]
     rw[ei]
     have hes:=sW x.e k w 0
     have hso:=D6 (x.e++[(k,w,0)]) (by simp;omega)
     generalize hes2:x.e++[(k,w,0)]=e2 at *
     have hfl:=rQ 0 59 3 (srt bfE e2)
     generalize iG x.e k=fi at *
     generalize fK x.t w=a at *
     obtain⟨a1,a2⟩:=a
     simp only at k1 ⊢
     obtain⟨z,t,l,b⟩:=x
     simp only at *
     refine gI oD Tryz.func175 Tryz.results175 ?_
     (repeat' first|refine wPA (aI @aY @hes) (aI h1 (aI h2 (aI k1 k2))) ?_|refine cF hso hfl ?_|refine tS ?_ ?_<;>intro hc|fail)
     all_goals (refine rT [14] ?_;first|rfl|simp only[pgo,simprocAttr]|skip)
     all_goals skip
    ·have ei:Ae x k w=(x.e.set (x.e.length-1) (k,(fK (jR x) w).1,min (jR x) ((fK (jR x) w).1-1)),(fK (jR x) w).2):=by unfold Ae;rw[if_neg q1,if_neg q2]
     rw[ei]
     have hl1:x.e.length-1<x.e.length:=by omega
     have hle:jR x=(x.e.getD (x.e.length-1) eD).2.1:=if_neg (by omega)
     have her:=yV (i4 _ hl1)
     have hlr:1≤jR x∧jR x≤1099511627776:=by rw[hle];exact her.2.1
     have k3:=tH (jR x) w (by unfold W64;omega) hw
     have k4:=aaY x hn
     have har:=Ad (jR x) w
     have hes:=DI x.e (x.e.length-1) k (fK (jR x) w).1 (min (jR x) ((fK (jR x) w).1-1))
     have hso:=D6 (x.e.set (x.e.length-1) (k,(fK (jR x) w).1,min (jR x) ((fK (jR x) w).1-1))) (by rw[List.length_set];omega)
     have hg:=jr x.e (x.e.length-1) hl1
     generalize hes2:x.e.set (x.e.length-1) (k,(fK (jR x) w).1,min (jR x) ((fK (jR x) w).1-1))=e2 at *
     generalize x.e.getD (x.e.length-1) eD=y at *
     have hfl:=rQ 0 59 3 (srt bfE e2)
     clear hle
     generalize iG x.e k=fi at *
     generalize jR x=low at *
     generalize fK x.t w=a at *
     generalize fK low w=a' at *
     obtain⟨a1,a2⟩:=a
     obtain⟨b1,b2⟩:=a'
     simp only at k1 k3 hes har ⊢
     obtain⟨z,t,l,b⟩:=x
     simp only at *
     have hi:((l.length:Int)-1).toNat=l.length-1:=by omega
     cases b
     ·refine gI oD Tryz.func175 Tryz.results175 ?_
      (repeat' first|refine wPA (aI @aY (aI @hi (aI @hg @hes))) (aI h1 (aI h2 (aI k1 (aI k2 (aI k3 k4))))) ?_|refine cF hso hfl ?_|refine tS ?_ ?_<;>intro hc|fail)
      all_goals exact rE [13]
     ·refine gI oD Tryz.func175 Tryz.results175 ?_
      (repeat' first|refine wPA (aI @aY (aI @hi (aI @hg @hes))) (aI h1 (aI h2 (aI k1 (aI k2 (aI k3 k4))))) ?_|refine cF hso hfl ?_|refine tS ?_ ?_<;>intro hc|fail)
      all_goals exact rE [13]
  ·rw[if_pos (by omega)]
   refine Good.fzt (vs:=[.agg [vi 0,vi 0,nls,vb false],vi (eF k w)]) ?_ rfl ⟨aaZ,aA _,trivial⟩
   refine gI oD Tryz.func175 Tryz.results175 ?_
   exact wRA trivial (aI h1 h2) ah
 ·rw[if_pos (by omega)]
  refine Good.fzt (vs:=[.agg [vi 0,vi 0,nls,vb false],vi (vTp x)]) ?_ rfl ⟨aaZ,aA _,trivial⟩
  refine gI oD Tryz.func175 Tryz.results175 ?_
  exact wRA trivial h1 ah
def o9(x:En):List En→List En
 | []=>[x]
 | y::l=>if kl x.1 y.1=true then x::y::l else y::o9 x l
theorem Gn(x y:En)(l:List En):o9 x (y::l)=if kl x.1 y.1=true then x::y::l else y::o9 x l:=rfl
theorem Lj(x:En)(l:List En):(o9 x l).length=l.length+1:=by
 induction l with
 | nil=>rfl
 | cons y l ih=>unfold o9;split<;>simp [ih]
theorem aa0(x z:En)(l:List En):z∈o9 x l↔z=x∨z∈l:=by
 induction l with
 | nil=>simp [o9]
 | cons y l ih =>
  unfold o9
  split
  ·simp
  ·simp only[List.mem_cons,ih]
   constructor
   ·rintro (h|h|h)<;>simp [h]
   ·rintro (h|h|h)<;>simp [h]
def uX(x:En)(d:Bool)(l:List En):List En:=if d=true then l else o9 x l
theorem Gp(l:List En)(x:En)(hn:l.length≤1000000):Gxx 215 [fzv l,.agg [vs x.1,vi x.2.1,vi x.2.2]] (.sl (.own 0 59) 3 (ev (o9 x l))):=by
 have hel:=aY l
 refine gI oW Tryz.func215 Tryz.results215 ?_
 refine wS trivial trivial ?_
 refine aK (fun s:Nat × Bool × List En=>mkA [(0,fzv l),(3,.ref 0 0),(5,.sl (.own 0 59) 3 (ev s.2.2)),(6,vb s.2.1),(7,vi s.1)] [(0,(59,[vs x.1,vi x.2.1,vi x.2.2]))] 1 (fun _ => .top)) (fun s=>s.1≤l.length∧s.2.2.length≤s.1+1∧(s.2.2.length=s.1∨s.2.1=true)∧s.2.2++uX x s.2.1 (l.drop s.1)=o9 x l) (fun s=>l.length-s.1) (0,false,[]) [] [0] ?_ ⟨Nat.zero_le _,Nat.zero_le _,.inl rfl,rfl⟩ ?_
 ·exact kE
  all_goals first|exact gK rfl|skip
 ·rintro⟨i,d,o⟩ ⟨hi,ho1,ho2,ho⟩
  simp only at hi ho1 ho2 ho
  have hol:=aY o
  rcases Nat.lt_or_ge i l.length with hlt|hge
  ·rw[mD l i ([],0,0) hlt] at ho
   have hg:=jr l i hlt
   generalize l.getD i ([],0,0)=y at *
   obtain⟨yk,yc,ye⟩:=y
   obtain⟨xk,xc,xe⟩:=x
   simp only at hg ho ⊢
   have s1:=sW o xk xc xe
   have s2:=sW o yk yc ye
   have s3:=sW (o++[(xk,xc,xe)]) yk yc ye
   have l3:(ev (o++[(xk,xc,xe)])).length=o.length+1:=by rw[aY];simp
   have l4:(o++[(xk,xc,xe)]).length=o.length+1:=by simp
   generalize hm1:o++[(xk,xc,xe)]=o1 at *
   cases d
   ·cases hk:kl xk yk
    ·have e1:uX (xk,xc,xe) false ((yk,yc,ye)::l.drop (i+1))=(yk,yc,ye)::o9 (xk,xc,xe) (l.drop (i+1)):=by unfold uX;rw[Gn];simp [hk]
     rw[e1] at ho
     refine wS (aI @pgv (aI @rP (aI @hg (aI @hk @s2)))) trivial ?_
     refine bC (i+1,false,o++[(yk,yc,ye)]) [0] [0] ⟨hlt,by simp only[List.length_append,List.length_cons,List.length_nil];omega,.inl (by simp only[List.length_append,List.length_cons,List.length_nil];rcases ho2 with h|h;omega;cases h),by rw[←ho];simp [uX]⟩ (by show l.length-(i+1)<l.length-i;omega) ?_
     exact kE
    ·have e1:uX (xk,xc,xe) false ((yk,yc,ye)::l.drop (i+1))=(xk,xc,xe)::(yk,yc,ye)::(l.drop (i+1)):=by unfold uX;rw[Gn];simp [hk]
     rw[e1] at ho
     refine wS (aI @pgv (aI @rP (aI @hg (aI @hk (aI @s1 (aI @s3 @l3)))))) trivial ?_
     refine bC (i+1,true,o1++[(yk,yc,ye)]) [0] [0] ⟨hlt,(by show (o1++[((yk,yc,ye):En)]).length≤i+1+1;rw[List.length_append,l4];simp only[List.length_cons,List.length_nil];rcases ho2 with h|h;omega;cases h),.inr rfl,by rw[←ho,←hm1];simp [uX]⟩ (by show l.length-(i+1)<l.length-i;omega) ?_
     exact kE
   ·have e1:uX (xk,xc,xe) true ((yk,yc,ye)::l.drop (i+1))=(yk,yc,ye)::(l.drop (i+1)):=by unfold uX;simp
    rw[e1] at ho
    refine wS (aI @pgv (aI @rP (aI @hg @s2))) trivial ?_
    refine bC (i+1,true,o++[(yk,yc,ye)]) [0] [0] ⟨hlt,by simp only[List.length_append,List.length_cons,List.length_nil];omega,.inr rfl,by rw[←ho];simp [uX]⟩ (by show l.length-(i+1)<l.length-i;omega) ?_
    exact kE
  ·have:i=l.length:=by omega
   subst this
   rw[List.drop_length] at ho
   cases d
   ·have ho':o++[x]=o9 x l:=ho
    have s1:=sW o x.1 x.2.1 x.2.2
    have ho2':ev (o++[(x.1,x.2.1,x.2.2)])=ev (o9 x l):=congrArg ev ho'
    exact wR (aI @aY (aI @s1 @ho2')) trivial (ids [0])
   ·have ho':o=o9 x l:=by rw[←ho];simp [uX]
    subst ho'
    exact wR @aY trivial (ids [0])
def qw(d:Int):List En→List En
 | []=>[]
 | y::l=>if y.2.1 > d then (y.1,y.2.1-d,0)::qw d l else qw d l
theorem Gq(d:Int)(y:En)(l:List En):qw d (y::l)=if y.2.1 > d then (y.1,y.2.1-d,0)::qw d l else qw d l:=rfl
theorem Lm(d:Int)(l:List En):(qw d l).length≤l.length:=by
 induction l with
 | nil=>exact Nat.le_refl _
 | cons y l ih=>unfold qw;split<;>simp only[List.length_cons]<;>omega
def cin(l:List En):Prop:=∀e∈l,1≤e.2.1∧e.2.1≤1099511627776
theorem afv{l:List En}(h:cin l){i:Nat}(hi:i<l.length):1≤(l.getD i ([],0,0)).2.1∧(l.getD i ([],0,0)).2.1≤1099511627776:=by
 have:l.getD i ([],0,0)=l[i]:=by simp [List.getD,hi]
 rw[this];exact h _ (List.getElem_mem hi)
theorem Vw(l:List En)(d:Int)(hl:cin l)(hd:1≤d∧d≤1099511627776)(hn:l.length≤1000000):Gxx 216 [fzv l,vi d] (.sl (.own 0 59) 3 (ev (qw d l))):=by
 have hel:=aY l
 refine gI oW Tryz.func216 Tryz.results216 ?_
 refine wS trivial trivial ?_
 refine aK (fun s:Nat × List En=>mkA [(0,fzv l),(1,vi d),(5,.sl (.own 0 59) 3 (ev s.2)),(6,vi s.1)] [] 1 (fun _ => .top)) (fun s=>s.1≤l.length∧s.2.length≤s.1∧s.2++qw d (l.drop s.1)=qw d l) (fun s=>l.length-s.1) (0,[]) [] [] ?_ ⟨Nat.zero_le _,Nat.zero_le _,rfl⟩ ?_
 ·exact kE
  all_goals first|exact gK rfl|skip
 ·rintro⟨i,o⟩ ⟨hi,ho1,ho⟩
  simp only at hi ho1 ho
  have hol:=aY o
  rcases Nat.lt_or_ge i l.length with hlt|hge
  ·rw[mD l i ([],0,0) hlt] at ho
   have hg:=jr l i hlt
   have hc:=afv hl hlt
   generalize l.getD i ([],0,0)=y at *
   obtain⟨yk,yc,ye⟩:=y
   simp only at hg hc
   rw[Gq] at ho
   simp only at ho
   have s1:=sW o yk (yc-d) 0
   by_cases hy:yc > d
   ·rw[if_pos hy] at ho
    refine wS (aI @aY (aI @hg @s1)) trivial ?_
    refine bC (i+1,o++[(yk,yc-d,0)]) [0] [] ⟨hlt,by simp only[List.length_append,List.length_cons,List.length_nil];omega,by rw[←ho];simp⟩ (by show l.length-(i+1)<l.length-i;omega) ?_
    exact kE
   ·rw[if_neg hy] at ho
    refine wS (aI @aY @hg) trivial ?_
    refine bC (i+1,o) [0] [] ⟨hlt,by simp only;omega,ho⟩ (by show l.length-(i+1)<l.length-i;omega) ?_
    exact kE
  ·have:i=l.length:=by omega
   subst this
   rw[List.drop_length] at ho
   have ho':o=qw d l:=by rw[←ho];simp [qw]
   subst ho'
   exact wR @aY trivial (ids [0])
def leK(a b:List Nat):Bool:=kl a b||decide (a=b)
def yX(l:List En)(i:Nat):Int :=
 if fH (l.getD i eD).1=false then 7
 else if ¬((1≤(l.getD i eD).2.1∧(l.getD i eD).2.1≤1099511627776)∧(l.getD i eD).2.2=0) then 5
 else if 0<i∧leK (l.getD i eD).1 (l.getD (i-1) eD).1=true then 19 else 0
def vFq(t:Fq):Int:=if ¬((1≤t.z∧t.z≤32)∧(0≤t.t∧t.t≤1099511627776)∧(0≤t.l∧t.l≤1099511627776)) then 5 else if (t.e.length:Int) > t.z then 11 else tC (yX t.e) t.e.length 0
theorem lm(x:Fq)(ho:octE x.e)(hn:x.e.length≤1000000):Gxx 159 [.agg (fqF x)] (vi (vFq x)):=by
 obtain⟨z,t,lo,l,b⟩:=x
 simp only at ho hn
 unfold vFq
 simp only
 have hel:=aY l
 by_cases c1:(1≤z∧z≤32)∧(0≤t∧t≤1099511627776)∧(0≤lo∧lo≤1099511627776)
 ·rw[if_neg (fun h=>h c1)]
  have k1:=aU z 1 32 c1.1
  have k2:=aU t 0 1099511627776 c1.2.1
  have k2':=aU lo 0 1099511627776 c1.2.2
  by_cases c2:(l.length:Int) > z
  ·rw[if_pos c2]
   refine gI oW Tryz.func159 Tryz.results159 ?_
   exact wR @aY (aI k1 (aI k2 k2')) ah
  ·rw[if_neg c2]
   refine gI oW Tryz.func159 Tryz.results159 ?_
   refine wS @aY (aI k1 (aI k2 k2')) ?_
   generalize hE:tC (yX l) l.length 0=E
   refine aK (fun i:Nat=>mkA [(1,.ref 0 0),(3,vi i)] [(0,(88,fqF ⟨z,t,lo,l,b⟩))] 1 (fun _ => .top)) (fun i=>i≤l.length∧tC (yX l) (l.length-i) i=E) (fun i=>l.length-i) 0 [] [0] ?_ ⟨Nat.zero_le _,hE⟩ ?_
   ·exact kE
   ·rintro i ⟨hi,he⟩
    rcases Nat.lt_or_ge i l.length with hlt|hge
    ·have hg:=jr l i hlt
     have hox:=lu ho i
     have hoy:=lu ho (i-1)
     rw[show l.length-i=(l.length-(i+1))+1 by omega] at he
     have k3:=uH (l.getD i eD).1
     have et:yX l i=if fH (l.getD i eD).1=false then 7 else if ¬((1≤(l.getD i eD).2.1∧(l.getD i eD).2.1≤1099511627776)∧(l.getD i eD).2.2=0) then 5 else if 0<i∧leK (l.getD i eD).1 (l.getD (i-1) eD).1=true then 19 else 0:=rfl
     generalize hxx:l.getD i eD=x at *
     obtain⟨xk,xc,xe⟩:=x
     simp only at hox k3 et hg
     have ext:∀v:Int,v≠0→yX l i=v→v=E:=fun v h0 h1=>by rw[D7 _ _ _ (by omega)] at he;omega
     cases q1:fH xk
     ·rw[q1] at k3 et
      have:=ext 7 (by omega) (by rw[et];rfl)
      subst this
      exact wR (aI @aY @hg) k3 ah
     ·rw[q1] at k3 et
      rw[if_neg (by simp)] at et
      by_cases q2:(1≤xc∧xc≤1099511627776)∧xe=0
      ·rw[if_neg (fun h=>h q2)] at et
       have k5:=aU xc 1 1099511627776 q2.1
       have q0:=q2.2
       subst q0
       by_cases q4:0<i
       ·have hg1:=jr l (i-1) (by omega)
        have hi1:((i:Int)-1).toNat=i-1:=by omega
        generalize l.getD (i-1) eD=y at *
        have hd:=sJ hox hoy
        have hle:(kl xk y.1||decide (sB xk=sB y.1))=leK xk y.1:=by rw[hd];rfl
        cases q5:leK xk y.1
        ·rw[if_neg (by rw[q5];simp)] at et
         rw[q5] at hle
         rw[uV _ _ _ et] at he
         refine wS (aI @pgv (aI @rP (aI @hle (aI @hg (aI @hi1 @hg1))))) (aI k3 k5) ?_
         exact bE (i+1) [] [0] ⟨hlt,he⟩
        ·rw[if_pos ⟨q4,q5⟩] at et
         rw[q5] at hle
         have:=ext 19 (by omega) et
         subst this
         exact wR (aI @pgv (aI @rP (aI @hle (aI @hg (aI @hi1 @hg1))))) (aI k3 k5) ah
       ·rw[if_neg (by omega)] at et
        rw[uV _ _ _ et] at he
        refine wS (aI @pgv @hg) (aI k3 k5) ?_
        exact bE (i+1) [] [0] ⟨hlt,he⟩
      ·rw[if_pos q2] at et
       have:=ext 5 (by omega) et
       subst this
       by_cases q6:1≤xc∧xc≤1099511627776
       ·have k5:=aU xc 1 1099511627776 q6
        have q7:xe≠0:=fun h=>q2 ⟨q6,h⟩
        exact wR (aI @aY @hg) (aI k3 k5) ah
       ·have k5:=fC xc 1 1099511627776
        rw[jY q6] at k5
        exact wR (aI @aY @hg) (aI k3 k5) ah
    ·have:i=l.length:=by omega
     subst this
     rw[Nat.sub_self] at he
     have he0:0=E:=he
     subst he0
     exact wR @aY trivial ah
 ·rw[if_pos c1]
  by_cases c2:1≤z∧z≤32
  ·have k1:=aU z 1 32 c2
   by_cases c3:0≤t∧t≤1099511627776
   ·have k2:=aU t 0 1099511627776 c3
    have k2':=fC lo 0 1099511627776
    rw[jY (by omega)] at k2'
    refine gI oW Tryz.func159 Tryz.results159 ?_
    exact wR trivial (aI k1 (aI k2 k2')) ah
   ·have k2:=fC t 0 1099511627776
    rw[jY c3] at k2
    refine gI oW Tryz.func159 Tryz.results159 ?_
    exact wR trivial (aI k1 k2) ah
  ·have k1:=fC z 1 32
   rw[jY c2] at k1
   refine gI oW Tryz.func159 Tryz.results159 ?_
   exact wR trivial k1 ah
def jB(w:Int)(l:List En):Int:=l.foldl (fun m e=>min m e.2.1) w
theorem RJ(l:List En):∀w,jB w l≤w:=by
 induction l with
 | nil=>intro w;exact Int.le_refl _
 | cons e l ih=>intro w;have:=ih (min w e.2.1);simp only[jB,List.foldl_cons] at *;omega
theorem RN(l:List En)(h:cin l):∀w,1≤w→1≤jB w l:=by
 induction l with
 | nil=>intro w hw;exact hw
 | cons e l ih =>
  intro w hw
  have h1:=h e (by simp)
  have:=ih (fun e he=>h e (by simp [he])) (min w e.2.1) (by omega)
  simpa only[jB,List.foldl_cons] using this
theorem Vx(w:Int)(l:List En)(i:Nat)(h:i<l.length):jB w (l.take (i+1))=min (jB w (l.take i)) (l.getD i ([],0,0)).2.1:=by
 rw[List.take_succ_eq_append_getElem h]
 unfold jB
 rw[List.foldl_append]
 simp [List.getD,h]
def mF(t:Fq)(k:List Nat)(w:Int):List En × Int × Bool :=
 if 0≤iG t.e k then (t.e.set (iG t.e k).toNat ((t.e.getD (iG t.e k).toNat eD).1,(fK (t.e.getD (iG t.e k).toNat eD).2.1 w).1,(t.e.getD (iG t.e k).toNat eD).2.2),t.l,(fK (t.e.getD (iG t.e k).toNat eD).2.1 w).2)
 else if (t.e.length:Int)<t.z then (o9 (k,w,0) t.e,t.l,false)
 else (if w > jB w t.e then o9 (k,w-jB w t.e,0) (qw (jB w t.e) t.e) else qw (jB w t.e) t.e,(fK t.l (jB w t.e)).1,(fK t.l (jB w t.e)).2)
def yY(t:Fq)(k:List Nat)(w:Int):Fq × Int :=
 if vFq t≠0 then (Fq.o,vFq t) else if eF k w≠0 then (Fq.o,eF k w) else (⟨t.z,(fK t.t w).1,(mF t k w).2.1,(mF t k w).1,t.b||(fK t.t w).2||(mF t k w).2.2⟩,0)
theorem yZ{l:List En}{i:Nat}(h:yX l i=0):fH (l.getD i eD).1=true∧(1≤(l.getD i eD).2.1∧(l.getD i eD).2.1≤1099511627776)∧(l.getD i eD).2.2=0:=by
 unfold yX at h
 split at h
 ·cases h
 ·rename_i h1
  split at h
  ·cases h
  ·rename_i h2
   have h2:=Classical.byContradiction h2
   exact⟨by simpa using h1,h2.1,h2.2⟩
theorem IC{t:Fq}(h:vFq t=0):(1≤t.z∧t.z≤32)∧(0≤t.t∧t.t≤1099511627776)∧(0≤t.l∧t.l≤1099511627776)∧(t.e.length:Int)≤t.z∧∀i,i<t.e.length→yX t.e i=0:=by
 unfold vFq at h
 split at h
 ·cases h
 ·rename_i h1
  split at h
  ·cases h
  ·rename_i h2
   have h1:=Classical.byContradiction h1
   exact⟨h1.1,h1.2.1,h1.2.2,by omega,fun i hi=>D8 _ _ _ h i (Nat.zero_le _) (by omega)⟩
theorem ajA{l:List En}(h:∀i,i<l.length→yX l i=0):cin l:=by
 intro e he
 obtain⟨i,hi,rfl⟩:=List.getElem_of_mem he
 have:=(yZ (h i hi)).2.1
 simpa [List.getD,hi] using this
theorem aa1:wkV (.agg [vi 0,vi 0,vi 0,nls,vb false]) (.agg (fqF Fq.o)) := .inr ⟨_,_,rfl,rfl,⟨.inl rfl,.inl rfl,.inl rfl,oq _ _,.inl rfl,trivial⟩⟩
theorem zf(x:Fq)(k:List Nat)(w:Int)(ho:oct k)(hx:octE x.e)(hn:x.e.length≤1000000):Gxx 176 [.agg (fqF x),.agg [vs k,vi w]] (.tup [.agg (fqF (yY x k w).1),vi (yY x k w).2]):=by
 have h1:=lm x hx hn
 have h2:=bZ k w
 unfold yY
 by_cases c1:vFq x=0
 ·rw[if_neg (by omega)]
  rw[c1] at h1
  by_cases c2:eF k w=0
  ·rw[if_neg (by omega)]
   rw[c2] at h2
   obtain⟨i1,i2,i2',i3,i4⟩:=IC c1
   have hcin:=ajA i4
   obtain⟨j1,j2⟩:=rJ c2
   have hw:W64 w:=by unfold W64;omega
   have k1:=tH x.t w (by unfold W64;omega) hw
   have k2:=Iz x.e k hx ho (by omega)
   have hfr:=D5 x.e k
   refine Good.fzt (vs:=[.agg [vi x.z,vi (fK x.t w).1,vi (mF x k w).2.1,.sl (.own 0 59) 3 (ev (mF x k w).1),vb (x.b||(fK x.t w).2||(mF x k w).2.2)],vi 0]) ?_ rfl ⟨aA _,aA _,trivial⟩
   have hel:=aY x.e
   by_cases q1:0≤iG x.e k
   ·have ei:mF x k w=(x.e.set (iG x.e k).toNat ((x.e.getD (iG x.e k).toNat eD).1,(fK (x.e.getD (iG x.e k).toNat eD).2.1 w).1,(x.e.getD (iG x.e k).toNat eD).2.2),x.l,(fK (x.e.getD (iG x.e k).toNat eD).2.1 w).2):=if_pos q1
    rw[ei]
    have hlt:(iG x.e k).toNat<x.e.length:=by omega
    have hg:=jr x.e (iG x.e k).toNat hlt
    have her:=yZ (i4 _ hlt)
    have k3:=tH (x.e.getD (iG x.e k).toNat eD).2.1 w (by unfold W64;omega) hw
    generalize x.e.getD (iG x.e k).toNat eD=y at *
    obtain⟨yk,yc,ye⟩:=y
    simp only at hg her k3 ⊢
    have hes:=DI x.e (iG x.e k).toNat yk (fK yc w).1 ye
    generalize hes2:x.e.set (iG x.e k).toNat (yk,(fK yc w).1,ye)=e2 at *
    generalize iG x.e k=fi at *
    generalize fK x.t w=a at *
    generalize fK yc w=a' at *
    obtain⟨a1,a2⟩:=a
    obtain⟨b1,b2⟩:=a'
    simp only at k1 k3 hes ⊢
    obtain⟨z,t,lo,l,b⟩:=x
    simp only at *
    refine gI oD Tryz.func176 Tryz.results176 ?_
    exact wRA (aI @aY (aI @hg @hes)) (aI h1 (aI h2 (aI k1 (aI k2 k3)))) (ids [11])
   ·by_cases q2:(x.e.length:Int)<x.z
    ·have ei:mF x k w=(o9 (k,w,0) x.e,x.l,false):=by unfold mF;rw[if_neg q1,if_pos q2]
     rw[ei]
     have hso:=Gp x.e (k,w,0) hn
     have hfl:=rQ 0 59 3 (o9 (k,w,0) x.e)
     generalize o9 (k,w,0) x.e=e2 at *
     generalize iG x.e k=fi at *
     generalize fK x.t w=a at *
     obtain⟨a1,a2⟩:=a
     simp only at k1 hso ⊢
     obtain⟨z,t,lo,l,b⟩:=x
     simp only at *
     refine gI oD Tryz.func176 Tryz.results176 ?_
     (repeat' first|refine wPA @aY (aI h1 (aI h2 (aI k1 k2))) ?_|refine cF hso hfl ?_|refine tS ?_ ?_<;>intro hc|fail)
     all_goals exact rE [15]
    ·have ei:mF x k w=(if w > jB w x.e then o9 (k,w-jB w x.e,0) (qw (jB w x.e) x.e) else qw (jB w x.e) x.e,(fK x.l (jB w x.e)).1,(fK x.l (jB w x.e)).2):=by unfold mF;rw[if_neg q1,if_neg q2]
     rw[ei]
     have hmle:=RJ x.e w
     have hmge:=RN x.e hcin w (by omega)
     have hlo:=Vw x.e (jB w x.e) hcin (by omega) hn
     have hlf:=rQ 0 59 3 (qw (jB w x.e) x.e)
     have hll:=Lm (jB w x.e) x.e
     have hso:=Gp (qw (jB w x.e) x.e) (k,w-jB w x.e,0) (by omega)
     have hfl:=rQ 0 59 3 (o9 (k,w-jB w x.e,0) (qw (jB w x.e) x.e))
     have k3:=tH x.l (jB w x.e) (by unfold W64;omega) (by unfold W64;omega)
     have hmt:=fun i (hi:i<x.e.length)=>Vx w x.e i hi
     have hm0:jB w (x.e.take 0)=w:=by simp [jB]
     have hmN:jB w (x.e.take x.e.length)=jB w x.e:=by rw[List.take_length]
     have hmle2:=fun i=>RJ (x.e.take i) w
     have hmge2:=fun i=>RN (x.e.take i) (fun e he=>hcin e (List.mem_of_mem_take he)) w (by omega)
     generalize o9 (k,w-jB w x.e,0) (qw (jB w x.e) x.e)=e3 at *
     generalize qw (jB w x.e) x.e=e2 at *
     generalize iG x.e k=fi at *
     generalize fK x.t w=a at *
     generalize fK x.l (jB w x.e)=a' at *
     obtain⟨a1,a2⟩:=a
     obtain⟨b1,b2⟩:=a'
     simp only at k1 k3 hso ⊢
     obtain⟨z,t,lo,l,b⟩:=x
     simp only at *
     cases b
     ·refine gI oD Tryz.func176 Tryz.results176 ?_
      refine wSA @aY (aI h1 (aI h2 (aI k1 k2))) ?_
      refine aK (fun i:Nat=>mkA [(3,.ref 0 0),(4,.ref 1 0),(8,.ref 2 0),(12,vi (jB w (l.take i))),(13,vi i)] [(0,(64,[vs k,vi w])),(1,(88,[vi 0,vi 0,vi 0,nls,vb false])),(2,(88,[vi z,vi a1,vi lo,.sl (.own 0 59) 3 (ev l),vb a2]))] 3 (fun _ => .top)) (fun i=>i≤l.length) (fun i=>l.length-i) 0 [11] [1,2,13] ?_ (Nat.zero_le _) ?_
      ·(refine iy ?_ ?_ (kD _ _ _) (by decide) (by decide) (by decide) (by decide);(repeat' (first|exact trivial|refine gJ _ _ rfl rfl ?_ ?_));all_goals (try simp only[pgs,pgl,pgx,pgf,pgw,fQ,ig,fU,iq,dB,eY,fJ,pgn,simprocAttr]);all_goals (try (repeat' (first|apply aI)));all_goals (try (first|exact trivial|exact gB (by omega)|exact gq rfl|exact aW rfl rfl|exact je rfl)))
       all_goals first|exact gB (by rw[hm0])|skip
      ·intro i hi
       replace hi:i≤l.length:=hi
       rcases Nat.lt_or_ge i l.length with hlt|hge
       ·have hg:=jr l i hlt
        have hmi:=hmt i hlt
        generalize l.getD i ([],0,0)=y at *
        obtain⟨yk,yc,ye⟩:=y
        simp only at hg hmi
        refine wSA (aI @aY @hg) trivial ?_
        exact bE (i+1) [0] [0,1,2] hlt
       ·have:i=l.length:=by omega
        subst this
        rw[hmN]
        by_cases q3:w > jB w l
        ·rw[if_pos q3]
         (repeat' first|refine wPA @aY k3 ?_|refine cF hlo hlf ?_|refine cF hso hfl ?_|refine tS ?_ ?_<;>intro hc|fail)
         all_goals exact rE [4]
        ·rw[if_neg q3]
         (repeat' first|refine wPA @aY k3 ?_|refine cF hlo hlf ?_|refine tS ?_ ?_<;>intro hc|fail)
         all_goals exact rE [3]
     ·refine gI oD Tryz.func176 Tryz.results176 ?_
      refine wSA @aY (aI h1 (aI h2 (aI k1 k2))) ?_
      refine aK (fun i:Nat=>mkA [(3,.ref 0 0),(4,.ref 1 0),(8,.ref 2 0),(12,vi (jB w (l.take i))),(13,vi i)] [(0,(64,[vs k,vi w])),(1,(88,[vi 0,vi 0,vi 0,nls,vb false])),(2,(88,[vi z,vi a1,vi lo,.sl (.own 0 59) 3 (ev l),vb true]))] 3 (fun _ => .top)) (fun i=>i≤l.length) (fun i=>l.length-i) 0 [11] [1,2,13] ?_ (Nat.zero_le _) ?_
      ·(refine iy ?_ ?_ (kD _ _ _) (by decide) (by decide) (by decide) (by decide);(repeat' (first|exact trivial|refine gJ _ _ rfl rfl ?_ ?_));all_goals (try simp only[pgs,pgl,pgx,pgf,pgw,fQ,ig,fU,iq,dB,eY,fJ,pgn,simprocAttr]);all_goals (try (repeat' (first|apply aI)));all_goals (try (first|exact trivial|exact gB (by omega)|exact gq rfl|exact aW rfl rfl|exact je rfl)))
       all_goals first|exact gB (by rw[hm0])|skip
      ·intro i hi
       replace hi:i≤l.length:=hi
       rcases Nat.lt_or_ge i l.length with hlt|hge
       ·have hg:=jr l i hlt
        have hmi:=hmt i hlt
        generalize l.getD i ([],0,0)=y at *
        obtain⟨yk,yc,ye⟩:=y
        simp only at hg hmi
        refine wSA (aI @aY @hg) trivial ?_
        exact bE (i+1) [0] [0,1,2] hlt
       ·have:i=l.length:=by omega
        subst this
        rw[hmN]
        by_cases q3:w > jB w l
        ·rw[if_pos q3]
         (repeat' first|refine wPA @aY k3 ?_|refine cF hlo hlf ?_|refine cF hso hfl ?_|refine tS ?_ ?_<;>intro hc|fail)
         all_goals exact rE [4]
        ·rw[if_neg q3]
         (repeat' first|refine wPA @aY k3 ?_|refine cF hlo hlf ?_|refine tS ?_ ?_<;>intro hc|fail)
         all_goals exact rE [3]
  ·rw[if_pos (by omega)]
   refine Good.fzt (vs:=[.agg [vi 0,vi 0,vi 0,nls,vb false],vi (eF k w)]) ?_ rfl ⟨aa1,aA _,trivial⟩
   refine gI oD Tryz.func176 Tryz.results176 ?_
   exact wRA trivial (aI h1 h2) ah
 ·rw[if_pos (by omega)]
  refine Good.fzt (vs:=[.agg [vi 0,vi 0,vi 0,nls,vb false],vi (vFq x)]) ?_ rfl ⟨aa1,aA _,trivial⟩
  refine gI oD Tryz.func176 Tryz.results176 ?_
  exact wRA trivial h1 ah
theorem svS(l:List (List Nat))(x:List Nat):sv l++[V.c (.string (sB x))]=sv (l++[x]):=by simp [sv]
theorem aa2(l:List (List Nat))(i:Nat)(k:List Nat):(sv l).set i (vs k)=sv (l.set i k):=by simp [sv,List.map_set]
theorem RP(l:List (List Nat))(n:Nat):(sv l).drop n=sv (l.drop n):=by simp [sv,List.map_drop]
theorem D9(l:List (List Nat))(hn:l.length≤1000000):Gxx 241 [fzs l] (.sl (.own 0 9) 1 (sv (srt kl l))):=by
 have hel:=au l
 refine gI oW Tryz.func241 Tryz.results241 ?_
 refine wS trivial trivial ?_
 refine aK (fun x:Nat × List (List Nat)=>mkA [(0,fzs l),(3,.sl (.own 0 9) 1 (sv x.2.reverse)),(4,vi x.1)] [] 1 (fun _ => .top)) (fun x=>x.1≤l.length∧x.2.length=x.1∧Ac kl x.2 (l.drop x.1)=Ac kl [] l) (fun x=>l.length-x.1) (0,[]) [] [] ?_ ⟨Nat.zero_le _,rfl,rfl⟩ ?_
 ·exact kE
  all_goals first|exact gK rfl|skip
 ·rintro⟨i,acc⟩ ⟨hi,ha,hs⟩
  simp only at hi ha hs
  have hal:(sv acc.reverse).length=i:=by rw[au,List.length_reverse,ha]
  rcases Nat.lt_or_ge i l.length with hlt|hge
  ·rw[mD l i [] hlt] at hs
   have hg:=iK l i hlt
   generalize l.getD i []=x at *
   have hsn:sv acc.reverse++[vs x]=sv (mov acc x []):=by rw[svS];unfold mov;rfl
   have hml:(sv (mov acc x [])).length=i+1:=by rw[au,BR,ha];rfl
   (repeat' (first|(simp (disch:=first|exact dqz|fail) only[pgz,simprocAttr,hg,au,hsn,hml,hal])|((with_reducible first|apply di|apply bK|apply eX)<;>intro hc<;>(try simp only[hc])<;>(try simp only[pgd] at hc))|(with_reducible refine cK ?_)))
   refine aK (fun y:List (List Nat) × List (List Nat)=>mkA [(0,fzs l),(3,.sl (.own 0 9) 1 (sv (mov y.1 x y.2))),(4,vi i),(5,vi y.1.length)] [] 1 (fun _ => .top)) (fun y=>y.1.length+y.2.length=i∧(qV kl x y.1).reverse++y.2=(qV kl x acc).reverse) (fun y=>y.1.length) (acc,[]) [0] [] ?_ ⟨by simp [ha],by simp⟩ ?_
   ·(refine iy ?_ ?_ (kD _ _ _) (by decide) (by decide) (by decide) (by decide);(repeat' (first|exact trivial|refine gJ _ _ rfl rfl ?_ ?_));all_goals (try simp only[pgs,pgl,pgx,pgf,pgw,fQ,ig,fU,iq,dB,eY,fJ,pgn,simprocAttr]);all_goals (try (repeat' (first|apply aI)));all_goals (try (first|exact trivial|exact gB (by omega)|exact gq rfl|exact aW rfl rfl|exact je rfl)))
    all_goals exact gB (by omega)
   ·rintro⟨p,t⟩ ⟨hp1,hp2⟩
    simp only at hp1 hp2
    have hmp:=BR p x t
    have hmp2:(sv (mov p x t)).length=i+1:=by rw[au,hmp];omega
    cases p with
    | nil =>
     rw[BU kl [] x t (.inl rfl)] at hp2
     refine wS @hmp2 trivial ?_
     refine bC (i+1,qV kl x acc) [0] [] ⟨hlt,by simp only;rw[uU,ha],by simp only;rw[←hs];rfl⟩ (by show l.length-(i+1)<l.length-i;omega) ?_
     refine kL ?_
     all_goals exact aW rfl (by rw[hp2])
    | cons y p =>
     have g1:=iK (mov (y::p) x t) (p.length+1) (by rw[hmp];simp only[List.length_cons];omega)
     have g2:=iK (mov (y::p) x t) p.length (by rw[hmp];simp only[List.length_cons];omega)
     have m1:(mov (y::p) x t).getD (p.length+1) []=x:=aaW (y::p) x t _
     rw[m1] at g1
     rw[RI] at g2
     have hi1:(((y::p).length:Nat):Int)=(p.length:Int)+1:=by simp
     have hi2:((p.length:Int)+1).toNat=p.length+1:=by omega
     have hi3:((p.length:Int)+1-1)=(p.length:Int):=by omega
     cases hbf:kl x y
     ·rw[BU kl (y::p) x t (.inr ⟨y,p,rfl,hbf⟩)] at hp2
      refine wS (aI @hi1 (aI @hi2 (aI @hi3 (aI @hmp2 (aI @g1 (aI @g2 (aI @rP @hbf))))))) trivial ?_
      refine bC (i+1,qV kl x acc) [0] [] ⟨hlt,by simp only;rw[uU,ha],by simp only;rw[←hs];rfl⟩ (by show l.length-(i+1)<l.length-i;omega) ?_
      refine kL ?_
      all_goals exact aW rfl (by rw[hp2])
     ·rw[aaX kl y p x t hbf] at hp2
      have hsw:=Lh y p x t
      have hs1:(sv (mov (y::p) x t)).set (p.length+1) (vs y)=sv ((mov (y::p) x t).set (p.length+1) y):=aa2 _ _ _
      have hs2:(sv ((mov (y::p) x t).set (p.length+1) y)).set p.length (vs x)=sv (mov p x (y::t)):=by
       rw[aa2]
       exact congrArg sv hsw
      have hl1:(sv ((mov (y::p) x t).set (p.length+1) y)).length=i+1:=by rw[au,List.length_set,hmp];simp only[List.length_cons] at hp1 ⊢;omega
      have hg3:(sv ((mov (y::p) x t).set (p.length+1) y))[p.length]?=some (vs y):=by rw[←hs1,List.getElem?_set_ne (by omega),g2]
      generalize (mov (y::p) x t).set (p.length+1) y=mm at hs1 hs2 hl1 hg3
      refine wS (aI @hi1 (aI @hi2 (aI @hi3 (aI @hmp2 (aI @g1 (aI @g2 (aI @hs1 (aI @hs2 (aI @hl1 (aI @hg3 (aI @rP @hbf))))))))))) trivial ?_
      refine bC (p,y::t) [0] [] ⟨by simp only[List.length_cons] at hp1 ⊢;omega,hp2⟩ (by show p.length<(y::p).length;simp) ?_
      refine kL ?_
      all_goals (simp only[pgo,hs1,hs2];first|exact trivial|exact aW rfl rfl)
  ·have:i=l.length:=by omega
   subst this
   rw[List.drop_length] at hs
   have hs':acc=Ac kl [] l:=hs
   refine wS @au trivial ?_
   (refine rT [0] ?_;first|rfl|simp only[pgo,simprocAttr]|skip)
   all_goals (unfold srt;rw[hs'];rfl)
theorem Lp(n:Int):Gxx 217 [vi n] (vb (decide (0≤n∧n≤1073741824))):=by
 by_cases h1:0≤n
 ·by_cases h2:n≤1073741824
  ·rw[decide_eq_true ⟨h1,h2⟩]
   refine gI oW Tryz.func217 Tryz.results217 ?_
   exact wR trivial trivial ah
  ·rw[decide_eq_false (by omega)]
   refine gI oW Tryz.func217 Tryz.results217 ?_
   exact wR trivial trivial ah
 ·rw[decide_eq_false (by omega)]
  refine gI oW Tryz.func217 Tryz.results217 ?_
  exact wR trivial trivial ah
end Go.Proofs.YtjiolbcdfgclaaaGreatDoor
