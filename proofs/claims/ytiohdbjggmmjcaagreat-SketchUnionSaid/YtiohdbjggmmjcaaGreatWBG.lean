/-
  Merged texts.
-/
import Derived.Test.YtiohdbjggmmjcaaGreatWAY
import Derived.Test.YtiohdbjggmmjcaaGreatWBC
import Derived.Test.YtiohdbjggmmjcaaGreatWBA
import Derived.Test.YtiohdbjggmmjcaaGreatWAW
import Derived.Test.YtiohdbjggmmjcaaGreatWAT
import Derived.Test.YtiohdbjggmmjcaaGreatWBF
set_option linter.unusedVariables false
set_option linter.unusedSimpArgs false
set_option linter.unusedSectionVars false
set_option linter.defProp false
set_option maxRecDepth 100000
set_option maxHeartbeats 8000000
namespace Go.Proofs.YtiohdbjggmmjcaaGreat
open Go Go.Pg
theorem qC(e:Nat→V)(bx:Bxx)(n:Nat)(h:Nat→V)(b:Nat)(a c:Int)(z t lo:Int)(en:V)(sa:Bool)(ha:W64 a)(hc:W64 c)(hb:bx b=some (36,[vi z,vi t,vi lo,en,vb sa])) :
  Gxz 82 [.ref b 0,vi a,vi c] ⟨e,bx,n,h⟩ ⟨e,upd bx b (some (36,[vi z,vi t,vi lo,en,vb (sa||(aO a c).2)])),n,h⟩ (vi (aO a c).1):=by
 have k1:Gxx 72 [vi a,vi c,vi 1099511627776] (.tup [vi (aO a c).1,vb (aO a c).2]):=BV a c 1099511627776 (by decide) ha hc
 generalize aO a c=r at *
 obtain⟨r1,r2⟩:=r
 simp only at k1 ⊢
 cases sa<;>cases r2
 all_goals
  refine gZ oW Tryz.func82 Tryz.results82 ?_
  (repeat' (first|(simp (disch:=first|exact dqz|fail) only[pgz,simprocAttr,oq,jK,gU,hb])|((with_reducible show bU _ _ _ _ _ _);refine cU k1 ?_)|(refine tS ?_ ?_<;>intro hc)|(with_reducible refine cK ?_)))
  refine Fz (aW _ _ _) ?_
  rw[jk,jl]
def GG(k:List Nat):Nat→List En→Nat
 | i,[]=>i
 | i,y::l=>if kl y.1 k=true then GG k (i+1) l else i
def CP(l:List En)(k:List Nat):Nat:=GG k 0 l
theorem ai5(k:List Nat):∀(l:List En) (i:Nat),i≤GG k i l∧GG k i l≤i+l.length
 | [],i=>⟨Nat.le_refl _,Nat.le_refl _⟩
 | y::l,i=>by
  unfold GG
  have:=ai5 k l (i+1)
  split
  ·simp only[List.length_cons];omega
  ·simp only[List.length_cons];omega
theorem FP(l:List En)(k:List Nat)(hl:l.length≤1000000)(ho:octE l)(hk:oct k):Gxx 83 [fzv l,vs k] (.tup [vi (CP l k),vb (decide (CP l k<l.length∧(l.getD (CP l k) eD).1=k))]):=by
 have hel:=aG l
 refine gI (eu [] mix) Tryz.func83 Tryz.results83 ?_
 (repeat' (first|(simp (disch:=first|exact dqz|fail) only[pgz,simprocAttr,pgE,pgj,iC,hel])|(refine tE ?_ ?_<;>intro hc)|refine xK ?_|fail))
 refine sO (ι:=Nat) (fun i=>⟨iP [(0,fzv l),(1,vs k),(6,vi i)],fun _=>none,0,fun _ => .top⟩) (fun i=>i≤l.length∧CP l k=GG k i (l.drop i)) (fun i=>l.length-i) 0 ?_ ⟨Nat.zero_le _,rfl⟩ ?_
 ·refine gK (gp ?_) (fun c => .inl rfl) (Nat.le_refl _)
  ((try simp only[bu,jm,cO,cu,pgo,simprocAttr,and_true,true_and]);try (repeat' (first|exact trivial|rfl|apply aI)))
 ·rintro i ⟨hi,he⟩
  have hi:i≤l.length:=hi
  have he:CP l k=GG k i (l.drop i):=he
  rcases Nat.lt_or_ge i l.length with hlt|hge
  ·have hg:=eY l i hlt
   have hox:=fV ho i
   have hgd:l.getD i eD=l.getD i ([],0,0):=rfl
   rw[BC l i hlt] at he
   have hlt2:((i:Int)<(l.length:Int))=True:=eq_true (by omega)
   cases hkl:kl (l.getD i ([],0,0)).1 k
   ·have hr:CP l k=i:=by rw[he];unfold GG;rw[hkl];rfl
    rw[hr,hgd]
    generalize l.getD i ([],0,0)=x at *
    have hd:=uO hox hk
    have hres:decide (i<l.length∧x.1=k)=decide (x.1=k):=by simp [hlt]
    rw[hres]
    (repeat' (first|(simp (disch:=first|exact dqz|fail) only[pgz,simprocAttr,pgE,pgj,iC,hel,hlt2,hg,kH,hkl,hd])|(refine tE ?_ ?_<;>intro hc)|(with_reducible refine bH ?_)|(refine kw _ _ _ _ _ ?_)|(with_reducible refine cK ?_)))
    (refine rT [] ?_;first|rfl|simp only[pgo,simprocAttr]|skip)
   ·have hr:CP l k=GG k (i+1) (l.drop (i+1)):=by
     rw[he]
     show (if kl (l.getD i ([],0,0)).1 k=true then _ else _)=_
     rw[hkl];exact if_pos rfl
    generalize l.getD i ([],0,0)=x at *
    (repeat' (first|(simp (disch:=first|exact dqz|fail) only[pgz,simprocAttr,pgE,pgj,iC,hel,hlt2,hg,kH,hkl])|(refine tE ?_ ?_<;>intro hc)|(with_reducible refine bH ?_)|(refine kw _ _ _ _ _ ?_)|(with_reducible refine cK ?_)))
    refine lY (i+1) ⟨hlt,hr⟩ (by show l.length-(i+1)<l.length-i;omega) (gK (gp ?_) (fun c => .inl rfl) (Nat.le_refl _))
    ((try simp only[bu,jm,cO,cu,pgo,simprocAttr,and_true,true_and]);try (repeat' (first|exact trivial|rfl|apply aI)))
  ·have:i=l.length:=by omega
   subst this
   rw[List.drop_length] at he
   have hr:CP l k=l.length:=he
   rw[hr]
   have hlt2:((l.length:Int)<(l.length:Int))=False:=eq_false (by omega)
   have hres:decide (l.length<l.length∧(l.getD l.length eD).1=k)=false:=by simp
   rw[hres]
   (repeat' (first|(simp (disch:=first|exact dqz|fail) only[pgz,simprocAttr,pgE,pgj,iC,hel,hlt2])|(refine tE ?_ ?_<;>intro hc)|(with_reducible refine bH ?_)|(refine kw _ _ _ _ _ ?_)|(with_reducible refine cK ?_)))
   (refine rT [] ?_;first|rfl|simp only[pgo,simprocAttr]|skip)
theorem Eh(l:List En)(d:Int)(hl:cin l)(h0:∀y∈l,y.2.2=0)(hd:1≤d∧d≤1099511627776)(hn:l.length≤1000000):Gxx 84 [fzv l,vi d] (.sl (.own 0 119) 3 (ev (iU d l))):=by
 have hel:=aG l
 refine gI oW Tryz.func84 Tryz.results84 ?_
 (repeat' (first|(simp (disch:=first|exact dqz|fail) only[pgz,simprocAttr,hel])|(refine tS ?_ ?_<;>intro hc)|(with_reducible refine cK ?_)))
 refine df (fun s:Nat × List En=>mkA [(1,vi d),(5,.sl (.own 0 119) 3 (ev s.2)),(8,fzv l),(9,vi l.length),(10,vi s.1)] [] 1 (fun _ => .top)) (fun s=>s.1≤l.length∧s.2.length≤s.1∧s.2++iU d (l.drop s.1)=iU d l) (fun s=>l.length-s.1) (0,[]) [] [] ?_ ⟨Nat.zero_le _,Nat.le_refl _,rfl⟩ ?_
 ·(refine dN ?_ ?_ (gu _ _ _) (by decide) (by decide) (by decide) (by decide);(repeat' (first|exact trivial|refine dI _ _ rfl rfl ?_ ?_));all_goals (try simp only[pgs,pgl,pgx,pgf,pgw,di,dL,dm,dM,qc,iO,fO,pgn,simprocAttr]);all_goals (try (repeat' (first|apply aI)));all_goals (try (first|exact trivial|exact dE (by omega)|exact eH rfl|exact bP rfl rfl|exact jq rfl)))
  all_goals first|exact gG rfl|skip
 ·rintro⟨i,o⟩ ⟨hi,ho1,ho⟩
  simp only at hi ho1 ho
  have hol:=aG o
  rcases Nat.lt_or_ge i l.length with hlt|hge
  ·rw[iR l i ([],0,0) hlt] at ho
   have hg:=eY l i hlt
   have hc:=OT hl hlt
   have hz:(l.getD i ([],0,0)).2.2=0:=by
    rw[List.getD_eq_getElem?_getD,List.getElem?_eq_getElem hlt];exact h0 _ (List.getElem_mem hlt)
   have hlt2:((i:Int)<(l.length:Int))=True:=eq_true (by omega)
   generalize l.getD i ([],0,0)=y at *
   obtain⟨yk,yc,ye⟩:=y
   simp only at hg hc hz
   subst hz
   rw[pU] at ho
   simp only at ho
   have s1:=mr o yk (yc-d) 0
   by_cases hy:yc > d
   ·rw[if_pos hy] at ho
    have hy':(yc > d)=True:=eq_true hy
    (repeat' (first|(simp (disch:=first|exact dqz|fail) only[pgz,simprocAttr,aG,hel,hlt2,hg,s1,hy'])|(refine tS ?_ ?_<;>intro hc)|(with_reducible refine cK ?_)))
    (refine dh ((i+1,o++[(yk,yc-d,0)])) [0] [] (⟨hlt,by simp only[List.length_append,List.length_cons,List.length_nil];omega,by rw[←ho];simp⟩) (by first|omega|(simp only[List.length_cons];omega)) ?_;(refine dN ?_ ?_ (gu _ _ _) (by decide) (by decide) (by decide) (by decide);(repeat' (first|exact trivial|refine dI _ _ rfl rfl ?_ ?_));all_goals (try simp only[pgs,pgl,pgx,pgf,pgw,di,dL,dm,dM,qc,iO,fO,pgn,simprocAttr]);all_goals (try (repeat' (first|apply aI)));all_goals (try (first|exact trivial|exact dE (by omega)|exact eH rfl|exact bP rfl rfl|exact jq rfl))))
   ·rw[if_neg hy] at ho
    have hy':(yc > d)=False:=eq_false hy
    (repeat' (first|(simp (disch:=first|exact dqz|fail) only[pgz,simprocAttr,aG,hel,hlt2,hg,hy'])|(refine tS ?_ ?_<;>intro hc)|(with_reducible refine cK ?_)))
    (refine dh ((i+1,o)) [0] [] (⟨hlt,by simp only;omega,ho⟩) (by first|omega|(simp only[List.length_cons];omega)) ?_;(refine dN ?_ ?_ (gu _ _ _) (by decide) (by decide) (by decide) (by decide);(repeat' (first|exact trivial|refine dI _ _ rfl rfl ?_ ?_));all_goals (try simp only[pgs,pgl,pgx,pgf,pgw,di,dL,dm,dM,qc,iO,fO,pgn,simprocAttr]);all_goals (try (repeat' (first|apply aI)));all_goals (try (first|exact trivial|exact dE (by omega)|exact eH rfl|exact bP rfl rfl|exact jq rfl))))
  ·have:i=l.length:=by omega
   subst this
   rw[List.drop_length] at ho
   have ho:o=iU d l:=by rw[←ho];simp [iU]
   subst ho
   (repeat' (first|(simp (disch:=first|exact dqz|fail) only[pgz,simprocAttr,hel])|(refine tS ?_ ?_<;>intro hc)|(with_reducible refine cK ?_)))
   (refine rT [0] ?_;first|rfl|simp only[pgo,simprocAttr]|skip)
theorem afp{a b:List Nat}(ha:oct a)(hb:oct b)(h:u8 a=u8 b):a=b:=by
 refine EZ ha hb ?_
 have:∀x:List Nat,(⟨(u8 x).toArray⟩:ByteArray)=sB x:=fun x=>by
  show (⟨(sB x).data.toList.toArray⟩:ByteArray)=sB x
  rw[Array.toArray_toList]
 rw[←this a,←this b,h]
theorem adc{a b:List Nat}(ha:oct a)(hb:oct b)(hne:a≠b):kl a b = !kl b a:=by
 rw[Cb,Cb]
 by_cases h:u8 b<u8 a
 ·have h2:¬u8 a<u8 b:=fun k=>List.lt_irrefl _ (List.lt_trans h k)
  simp [h,h2]
 ·have h2:u8 a<u8 b:=Classical.byContradiction fun k=>hne (afp ha hb (List.le_antisymm (List.not_lt.1 h) (List.not_lt.1 k)))
  simp [h,h2]
theorem ajQ(x:En)(hx:oct x.1):∀(l:List En) (i:Nat),octE l→(∀y∈l,y.1≠x.1)→tH x l=l.take (GG x.1 i l-i)++x::l.drop (GG x.1 i l-i)
 | [],i,_,_=>by simp [tH,GG]
 | y::l,i,ho,hn=>by
  have hy:=ho y (List.mem_cons_self ..)
  have hk:=adc hx hy (fun h=>hn y (List.mem_cons_self ..) h.symm)
  rw[xR,hk]
  have hp:GG x.1 i (y::l)=if kl y.1 x.1=true then GG x.1 (i+1) l else i:=rfl
  rw[hp]
  cases h:kl y.1 x.1
  ·simp
  ·have ih:=ajQ x hx l (i+1) (fun z hz=>ho z (List.mem_cons_of_mem _ hz)) (fun z hz=>hn z (List.mem_cons_of_mem _ hz))
   have hle:=(ai5 x.1 l (i+1)).1
   have e1:GG x.1 (i+1) l-i=(GG x.1 (i+1) l-(i+1))+1:=by omega
   simp only[if_true,Bool.not_true,Bool.false_eq_true,if_false]
   rw[e1,List.take_succ_cons,List.drop_succ_cons,ih]
   rfl
theorem CS(k:List Nat):∀(l:List En) (i:Nat),0≤jd k i l→∃z∈l,z.1=k
 | [],i,h=>by unfold jd at h;omega
 | y::l,i,h=>by
  by_cases hy:y.1=k
  ·exact⟨y,List.mem_cons_self ..,hy⟩
  ·have e:jd k i (y::l)=jd k (i+1) l:=if_neg hy
   rw[e] at h
   obtain⟨z,hz,hk⟩:=CS k l (i+1) h
   exact⟨z,List.mem_cons_of_mem _ hz,hk⟩
theorem aeO(k:List Nat):∀(l:List En) (i:Nat),0≤jd k i l→(l.getD ((jd k i l).toNat-i) eD).1=k
 | [],i,h=>by unfold jd at h;omega
 | y::l,i,h=>by
  by_cases hy:y.1=k
  ·have e:jd k i (y::l)=i:=if_pos hy
   rw[e]
   have:((i:Int).toNat-i)=0:=by omega
   rw[this];exact hy
  ·have e:jd k i (y::l)=jd k (i+1) l:=if_neg hy
   rw[e] at h ⊢
   have h1:=aeO k l (i+1) h
   have h2:=Jg k l (i+1)
   have h3:(jd k (i+1) l).toNat-i=((jd k (i+1) l).toNat-(i+1))+1:=by omega
   rw[h3]
   exact h1
theorem afq(a:List Nat):kl a a=false:=by
 rw[Cb];simp [List.lt_irrefl]
theorem ai8(k:List Nat):∀(l:List En) (i:Nat),(l.Pairwise fun a b=>kl a.1 b.1=true)→0≤jd k i l→(GG k i l:Int)=jd k i l
 | [],i,_,h=>by unfold jd at h;omega
 | y::l,i,hs,h=>by
  rw[List.pairwise_cons] at hs
  have hp:GG k i (y::l)=if kl y.1 k=true then GG k (i+1) l else i:=rfl
  by_cases hy:y.1=k
  ·have e:jd k i (y::l)=i:=if_pos hy
   rw[e,hp,hy,afq];rfl
  ·have e:jd k i (y::l)=jd k (i+1) l:=if_neg hy
   rw[e] at h ⊢
   obtain⟨z,hz,hk⟩:=CS k l (i+1) h
   have h1:=hs.1 z hz
   rw[hk] at h1
   rw[hp,if_pos h1]
   exact ai8 k l (i+1) hs.2 h
theorem TP(k:List Nat)(l:List En)(hs:l.Pairwise fun a b=>kl a.1 b.1=true):decide (CP l k<l.length∧(l.getD (CP l k) eD).1=k)=decide (0≤bi l k):=by
 have hfr:=lQ l k
 by_cases h:0≤bi l k
 ·have e:=ai8 k l 0 hs h
  have e2:CP l k=(bi l k).toNat:=by
   have:(CP l k:Int)=bi l k:=e
   omega
  have hlt:CP l k<l.length:=by omega
  have hk:(l.getD (CP l k) eD).1=k:=by rw[e2];exact aeO k l 0 h
  rw[decide_eq_true h,decide_eq_true ⟨hlt,hk⟩]
 ·rw[decide_eq_false h,decide_eq_false]
  rintro⟨h1,h2⟩
  refine wX k l 0 (by have:bi l k=jd k 0 l:=rfl;omega) (l.getD (CP l k) eD) ?_ h2
  rw[List.getD_eq_getElem?_getD,List.getElem?_eq_getElem h1];exact List.getElem_mem h1
theorem agY{a b c:List Nat}(h1:kl a b=true)(h2:kl b c=true):kl a c=true:=by
 rw[Cb,decide_eq_true_eq] at *
 exact List.lt_trans h1 h2
theorem mV{x:Fq}(ho:octE x.e)(h:vFq x=0):x.e.Pairwise fun a b=>kl a.1 b.1=true:=by
 have adj:∀i,i+1<x.e.length→kl (x.e.getD i eD).1 (x.e.getD (i+1) eD).1=true:=fun i hi=>by
  have h1:=(jW h).2.2.2.2 (i+1) hi
  unfold oC at h1
  split at h1
  ·cases h1
  ·split at h1
   ·cases h1
   ·split at h1
    ·cases h1
    ·rename_i h3
     have h4:¬leK (x.e.getD (i+1) eD).1 (x.e.getD i eD).1=true:=fun k=>h3 ⟨by omega,k⟩
     unfold leK at h4
     rw[Bool.or_eq_true,decide_eq_true_eq] at h4
     rw[adc (fV ho i) (fV ho (i+1)) (fun k=>h4 (.inr k.symm))]
     cases hk:kl (x.e.getD (i+1) eD).1 (x.e.getD i eD).1
     ·rfl
     ·exact absurd (.inl hk) h4
 have all:∀d i,i+d+1<x.e.length→kl (x.e.getD i eD).1 (x.e.getD (i+d+1) eD).1=true:=by
  intro d
  induction d with
  | zero=>intro i hi;exact adj i hi
  | succ d ih=>intro i hi;exact agY (ih i (by omega)) (adj (i+d+1) (by omega))
 rw[List.pairwise_iff_getElem]
 intro i j hi hj hij
 have:=all (j-i-1) i (by omega)
 rw[show i+(j-i-1)+1=j by omega] at this
 simpa [List.getD,hi,hj] using this
theorem akp(x:Fq)(k:List Nat)(w:Int)(ho:oct k)(hx:octE x.e)(c1:vFq x=0)(c2:bT k w=0)(q1:0≤bi x.e k) :
  Gxx 29 [.agg (fqF x),.agg [vs k,vi w]] (.tup [.agg [vi x.z,vi (aO x.t w).1,vi (dQ x k w).2.1,.sl (.own 0 119) 3 (ev (dQ x k w).1),vb (x.b||(aO x.t w).2||(dQ x k w).2.2)],vi 0]):=by
 have h1:=Ec x hx (by have:=(jW c1).2.2.2.1;have:=(jW c1).1;omega)
 have h2:=bz k w
 rw[c1] at h1
 rw[c2] at h2
 obtain⟨i1,i2,i2',i3,i4⟩:=jW c1
 obtain⟨j1,j2⟩:=fU c2
 have hw:W64 w:=by unfold W64;omega
 have hwt:W64 x.t:=by unfold W64;omega
 have hfr:=lQ x.e k
 have hel:=aG x.e
 have hpl:=FP x.e k (by omega) hx ho
 rw[TP k x.e (mV hx c1),decide_eq_true q1] at hpl
 have hpc:(CP x.e k:Int)=bi x.e k:=ai8 k x.e 0 (mV hx c1) q1
 rw[hpc] at hpl
 have hlt:(bi x.e k).toNat<x.e.length:=by omega
 have hg:=eY x.e (bi x.e k).toNat hlt
 have her:=sF (i4 _ hlt)
 have ei:dQ x k w=(x.e.set (bi x.e k).toNat ((x.e.getD (bi x.e k).toNat eD).1,(aO (x.e.getD (bi x.e k).toNat eD).2.1 w).1,(x.e.getD (bi x.e k).toNat eD).2.2),x.l,(aO (x.e.getD (bi x.e k).toNat eD).2.1 w).2):=if_pos q1
 rw[ei]
 have hwy:W64 (x.e.getD (bi x.e k).toNat eD).2.1:=by unfold W64;omega
 generalize x.e.getD (bi x.e k).toNat eD=y at *
 obtain⟨yk,yc,ye⟩:=y
 simp only at hg her hwy ⊢
 have hes:=o6 x.e (bi x.e k).toNat yk (aO yc w).1 ye
 generalize hfi:bi x.e k=fi at *
 have hzt:=fun (e:Nat→V) (bx:Bxx) (n:Nat) (h:Nat→V) (en:V) (hb:bx 0=some (36,[vi x.z,vi x.t,vi x.l,en,vb x.b]))=>qC e bx n h 0 x.t w x.z x.t x.l en x.b hwt hw hb
 have hzy:=fun (e:Nat→V) (bx:Bxx) (n:Nat) (h:Nat→V) (t':Int) (en:V) (sa:Bool) (hb:bx 0=some (36,[vi x.z,vi t',vi x.l,en,vb sa]))=>qC e bx n h 0 yc w x.z t' x.l en sa hwy hw hb
 clear ei
 obtain⟨z,t,lo,l,b⟩:=x
 simp only at *
 refine gI (eu [] mix) Tryz.func29 Tryz.results29 ?_
 (repeat' (first|(simp (disch:=first|exact dqz|fail) only[pgz,simprocAttr,pgE,pgj,iC,hel])|(refine tC ?_;first|refine cU h1 ?_|refine cU h2 ?_|refine dZ _ (hzt _ _ _ _ _ (by first|rfl|simp [upd])) rfl ?_|refine cU hpl ?_)|(refine tE ?_ ?_<;>intro hc)|refine xK ?_|fail))
 have hnd:([48,49,50,51,52,53,54,55,56,57,58,59]:List Nat).Nodup:=by decide
 refine Pv mix 12 [(48,.ref 0 3),(49,.sl (.own 4 119) 3 (ev l)),(50,vi fi),(51,.ref 0 3),(52,.sl (.own 4 119) 3 (ev l)),(53,vi fi),(54,.el (.own 4 119) 3 (ev l) fi.toNat 0),(55,.el (.own 4 119) 3 (ev l) fi.toNat 1),(56,vi yc),(57,.ref 1 1),(58,vi w),(59,vi (aO yc w).1)] 11 0 (36,[vi z,vi (aO t w).1,vi lo,.sl (.own 4 119) 3 (ev l),vb (b||(aO t w).2||(aO yc w).2)]) (by decide) (by decide) (by decide) ?_ ?_
 ·intro S i o ho hi hS he
  rcases (by omega:i=0∨i=1∨i=2∨i=3∨i=4∨i=5∨i=6∨i=7∨i=8∨i=9∨i=10∨i=11) with rfl|rfl|rfl|rfl|rfl|rfl|rfl|rfl|rfl|rfl|rfl|rfl
  all_goals (simp only[List.getElem?_cons_zero,List.getElem?_cons_succ,Option.some.injEq] at ho;subst ho)
  ·(repeat' (first|(simp (disch:=first|exact dqz|fail) only[pgz,simprocAttr,hS,hel,aC,aQ])|(refine tS ?_ ?_<;>intro hc)|(with_reducible refine cK ?_)))
   exact bI 0 rfl hnd (by rw[bV (by decide)]) rfl
  ·have s0:=he 0 (by decide)
   cases h11:S 11
   ·(repeat' (first|(simp (disch:=first|exact dqz|fail) only[pgz,simprocAttr,hS,s0,h11,aC,aQ])|(refine tS ?_ ?_<;>intro hc)|(with_reducible refine cK ?_)))
    exact bI 1 rfl hnd (by rw[bV (by decide)];simp only[h11];rfl) rfl
   ·(repeat' (first|(simp (disch:=first|exact dqz|fail) only[pgz,simprocAttr,hS,s0,h11,aC,aQ])|(refine tS ?_ ?_<;>intro hc)|(with_reducible refine cK ?_)))
    exact bI 1 rfl hnd (by rw[bV (by decide)];simp only[h11];rfl) rfl
  ·(repeat' (first|(simp (disch:=first|exact dqz|fail) only[pgz,simprocAttr,hS,hel,aC,aQ])|(refine tS ?_ ?_<;>intro hc)|(with_reducible refine cK ?_)))
   exact bI 2 rfl hnd (by rw[bV (by decide)]) rfl
  ·(repeat' (first|(simp (disch:=first|exact dqz|fail) only[pgz,simprocAttr,hS,hel,aC,aQ])|(refine tS ?_ ?_<;>intro hc)|(with_reducible refine cK ?_)))
   exact bI 3 rfl hnd (by rw[bV (by decide)]) rfl
  ·have s3:=he 3 (by decide)
   cases h11:S 11
   ·(repeat' (first|(simp (disch:=first|exact dqz|fail) only[pgz,simprocAttr,hS,s3,h11,aC,aQ])|(refine tS ?_ ?_<;>intro hc)|(with_reducible refine cK ?_)))
    exact bI 4 rfl hnd (by rw[bV (by decide)];simp only[h11];rfl) rfl
   ·(repeat' (first|(simp (disch:=first|exact dqz|fail) only[pgz,simprocAttr,hS,s3,h11,aC,aQ])|(refine tS ?_ ?_<;>intro hc)|(with_reducible refine cK ?_)))
    exact bI 4 rfl hnd (by rw[bV (by decide)];simp only[h11];rfl) rfl
  ·(repeat' (first|(simp (disch:=first|exact dqz|fail) only[pgz,simprocAttr,hS,hel,aC,aQ])|(refine tS ?_ ?_<;>intro hc)|(with_reducible refine cK ?_)))
   exact bI 5 rfl hnd (by rw[bV (by decide)]) rfl
  ·have s4:=he 4 (by decide)
   have s5:=he 5 (by decide)
   (repeat' (first|(simp (disch:=first|exact dqz|fail) only[pgz,simprocAttr,hS,s4,s5,hel,aC,aQ])|(refine tS ?_ ?_<;>intro hc)|(with_reducible refine cK ?_)))
   exact bI 6 rfl hnd (by rw[bV (by decide)]) rfl
  ·have s6:=he 6 (by decide)
   (repeat' (first|(simp (disch:=first|exact dqz|fail) only[pgz,simprocAttr,hS,s6,hel,aC,aQ])|(refine tS ?_ ?_<;>intro hc)|(with_reducible refine cK ?_)))
   exact bI 7 rfl hnd (by rw[bV (by decide)]) rfl
  ·have s7:=he 7 (by decide)
   (repeat' (first|(simp (disch:=first|exact dqz|fail) only[pgz,simprocAttr,hS,s7,hg,hel,aC,aQ])|(refine tS ?_ ?_<;>intro hc)|(with_reducible refine cK ?_)))
   exact bI 8 rfl hnd (by rw[bV (by decide)]) rfl
  ·(repeat' (first|(simp (disch:=first|exact dqz|fail) only[pgz,simprocAttr,hS,hel,aC,aQ])|(refine tS ?_ ?_<;>intro hc)|(with_reducible refine cK ?_)))
   exact bI 9 rfl hnd (by rw[bV (by decide)]) rfl
  ·have s9:=he 9 (by decide)
   cases h11:S 11
   ·(repeat' (first|(simp (disch:=first|exact dqz|fail) only[pgz,simprocAttr,hS,s9,h11,aC,aQ])|(refine tS ?_ ?_<;>intro hc)|(with_reducible refine cK ?_)))
    exact bI 10 rfl hnd (by rw[bV (by decide)];simp only[h11];rfl) rfl
   ·(repeat' (first|(simp (disch:=first|exact dqz|fail) only[pgz,simprocAttr,hS,s9,h11,aC,aQ])|(refine tS ?_ ?_<;>intro hc)|(with_reducible refine cK ?_)))
    exact bI 10 rfl hnd (by rw[bV (by decide)];simp only[h11];rfl) rfl
  ·have s8:=he 8 (by decide)
   have s10:=he 10 (by decide)
   (repeat' (first|(simp (disch:=first|exact dqz|fail) only[pgz,simprocAttr,hS,s8,s10,aC,aQ])|(refine tS ?_ ?_<;>intro hc)|(with_reducible refine cK ?_)))
   (try simp only[hS,Bool.false_eq_true,if_false])
   refine cZ (hzy _ _ _ _ (aO t w).1 (.sl (.own 4 119) 3 (ev l)) (b||(aO t w).2) (by first|rfl|simp [upd])) ?_ (by simp only[List.map_cons,List.map_nil,pgo,simprocAttr,s8,s10,aC,aQ])
   refine bI (T:=[(48,.ref 0 3),(49,.sl (.own 4 119) 3 (ev l)),(50,vi fi),(51,.ref 0 3),(52,.sl (.own 4 119) 3 (ev l)),(53,vi fi),(54,.el (.own 4 119) 3 (ev l) fi.toNat 0),(55,.el (.own 4 119) 3 (ev l) fi.toNat 1),(56,vi yc),(57,.ref 1 1),(58,vi w),(59,vi (aO yc w).1)]) 11 rfl hnd ?_ rfl
   simp only[Ad,if_true]
 ·intro S hall
  have s0:=hall 0 (by decide) (by decide)
  have s1:=hall 1 (by decide) (by decide)
  have s2:=hall 2 (by decide) (by decide)
  have s3:=hall 3 (by decide) (by decide)
  have s4:=hall 4 (by decide) (by decide)
  have s5:=hall 5 (by decide) (by decide)
  have s6:=hall 6 (by decide) (by decide)
  have s7:=hall 7 (by decide) (by decide)
  have s8:=hall 8 (by decide) (by decide)
  have s9:=hall 9 (by decide) (by decide)
  have s10:=hall 10 (by decide) (by decide)
  have s11:=hall 11 (by decide) (by decide)
  simp only[List.drop_succ_cons,List.drop_zero,List.map_cons,List.map_nil]
  (repeat' (first|(simp (disch:=first|exact dqz|fail) only[pgz,simprocAttr,s0,s1,s2,s3,s4,s5,s6,s7,s8,s9,s10,s11,aC,aQ,pgE,pgj,iC,hel,hg,hes])|(refine tE ?_ ?_<;>intro hc)|refine xK ?_|fail))
  refine bZ [4] (.tup [.agg [vi z,vi (aO t w).1,vi lo,.sl (.own 4 119) 3 (ev (l.set fi.toNat (yk,(aO yc w).1,ye))),vb (b||(aO t w).2||(aO yc w).2)],vi 0]) (by simp (disch:=first|assumption|omega) only[pgr,pgo,tyf,simprocAttr,aC,aQ];first|rfl|skip) (by decide) (by simp only[pgo,simprocAttr]) ?_
  first|rfl|simp only[pgo,simprocAttr]|skip
theorem aj7(x:Fq)(k:List Nat)(w:Int)(ho:oct k)(hx:octE x.e)(c1:vFq x=0)(c2:bT k w=0)(q1:¬0≤bi x.e k)(q2:¬(x.e.length:Int)<x.z)(q3:¬w > dJ w x.e) :
  Gxx 29 [.agg (fqF x),.agg [vs k,vi w]] (.tup [.agg [vi x.z,vi (aO x.t w).1,vi (dQ x k w).2.1,.sl (.own 0 119) 3 (ev (dQ x k w).1),vb (x.b||(aO x.t w).2||(dQ x k w).2.2)],vi 0]):=by
 have h1:=Ec x hx (by have:=(jW c1).2.2.2.1;have:=(jW c1).1;omega)
 have h2:=bz k w
 rw[c1] at h1
 rw[c2] at h2
 obtain⟨i1,i2,i2',i3,i4⟩:=jW c1
 obtain⟨j1,j2⟩:=fU c2
 have hw:W64 w:=by unfold W64;omega
 have hwt:W64 x.t:=by unfold W64;omega
 have hcin:=MX i4
 have hel:=aG x.e
 have hpl:=FP x.e k (by omega) hx ho
 rw[TP k x.e (mV hx c1),decide_eq_false q1] at hpl
 have hmle:=zX x.e w
 have hmge:=zY x.e hcin w (by omega)
 have hweq:dJ w x.e=w:=by omega
 have h0:∀y∈x.e,y.2.2=0:=fun y hy=>by
  obtain⟨i,hi,rfl⟩:=List.mem_iff_getElem.1 hy
  have:=(sF (i4 i hi)).2.2
  simpa [List.getD,hi] using this
 have hlo:=Eh x.e (dJ w x.e) hcin h0 (by omega) (by omega)
 have ei:dQ x k w=(iU (dJ w x.e) x.e,(aO x.l (dJ w x.e)).1,(aO x.l (dJ w x.e)).2):=by unfold dQ;rw[if_neg q1,if_neg q2,if_neg q3]
 rw[ei]
 have hzt:=fun (e:Nat→V) (bx:Bxx) (n:Nat) (h:Nat→V) (en:V) (hb:bx 0=some (36,[vi x.z,vi x.t,vi x.l,en,vb x.b]))=>qC e bx n h 0 x.t w x.z x.t x.l en x.b hwt hw hb
 have hzl:=fun (e:Nat→V) (bx:Bxx) (n:Nat) (h:Nat→V) (t':Int) (en:V) (sa:Bool) (hb:bx 0=some (36,[vi x.z,vi t',vi x.l,en,vb sa]))=>qC e bx n h 0 x.l (dJ w x.e) x.z t' x.l en sa (by unfold W64;omega) (by unfold W64;omega) hb
 have hmt:=fun i (hi:i<x.e.length)=>xU w x.e i hi
 have hm0:dJ w (x.e.take 0)=w:=rfl
 have hmn:dJ w (x.e.take x.e.length)=dJ w x.e:=by rw[List.take_length]
 clear ei
 obtain⟨z,t,lo,l,b⟩:=x
 simp only at *
 have hzz:((l.length:Int)=z)=True:=eq_true (by omega)
 refine gI (eu [] mix) Tryz.func29 Tryz.results29 ?_
 (repeat' (first|(simp (disch:=first|exact dqz|fail) only[pgz,simprocAttr,pgE,pgj,iC,hel,hzz])|(refine tC ?_;first|refine cU h1 ?_|refine cU h2 ?_|refine dZ _ (hzt _ _ _ _ _ (by first|rfl|simp [upd])) rfl ?_|refine cU hpl ?_)|(refine tE ?_ ?_<;>intro hc)|refine xK ?_|fail))
 refine sO (ι:=Nat) (fun i=>⟨iP [(2,.ref 0 0),(3,.ref 1 0),(4,.ref 2 0),(10,vi w),(11,vi (dJ w (l.take i))),(73,.sl (.own 4 119) 3 (ev l)),(74,vi l.length),(75,vi i)],upd (upd (upd (fun _=>none) 0 (some (36,[vi z,vi (aO t w).1,vi lo,.sl (.own 4 119) 3 (ev l),vb (b||(aO t w).2)]))) 1 (some (45,[vs k,vi w]))) 2 (some (36,[y0,y0,y0,yn,yf])),5+i,fun _ => .top⟩) (fun i=>i≤l.length) (fun i=>l.length-i) 0 ?_ (Nat.zero_le _) ?_
 ·refine gK (gp ?_) (fun c => .inl ?_) (Nat.le_refl _)
  ·exact eE
  ·by_cases k0:c=0
   ·subst k0;rfl
   ·by_cases k1:c=1
    ·subst k1;rfl
    ·by_cases k2:c=2
     ·subst k2;rfl
     ·simp [upd,k0,k1,k2]
 ·rintro i hi
  have hi:i≤l.length:=hi
  rcases Nat.lt_or_ge i l.length with hlt|hge
  ·have hg:=eY l i hlt
   have hmi:=hmt i hlt
   have hlt2:((i:Int)<(l.length:Int))=True:=eq_true (by omega)
   generalize l.getD i ([],0,0)=y at *
   (repeat' (first|(simp (disch:=first|exact dqz|fail) only[pgz,simprocAttr,pgE,pgj,iC,hel,hlt2,hg,mmF])|(refine tE ?_ ?_<;>intro hc)|refine xK ?_|fail))
   refine lY (i+1) hlt (by show l.length-(i+1)<l.length-i;omega) (gK (gp ?_) (fun c => ?_) (by show _≤5+(i+1);omega))
   ·((try simp only[bu,jm,cO,cu,pgo,simprocAttr,and_true,true_and]);try (repeat' (first|exact trivial|rfl|apply aI)))
    all_goals (first|exact congrArg vi hmi.symm|skip)
   ·by_cases kc:c=5+i
    ·right;subst kc;simp [upd,show ¬5+i=0 by omega,show ¬5+i=1 by omega,show ¬5+i=2 by omega]
    ·left;simp [upd,kc]
  ·have hil:i=l.length:=by omega
   subst hil
   rw[hmn]
   have hlt2:((l.length:Int)<(l.length:Int))=False:=eq_false (by omega)
   have hle0:(w-dJ w l > 0)=False:=eq_false (by omega)
   (repeat' (first|(simp (disch:=first|exact dqz|fail) only[pgz,simprocAttr,pgE,pgj,iC,hel,hlt2,hle0,id_eq])|(refine tC ?_;first|refine cG [4] hlo ?_|refine dZ _ (hzl _ _ _ _ _ _ _ (by first|rfl|simp [upd])) rfl ?_)|(refine tE ?_ ?_<;>intro hc)|refine xK ?_|fail))
   refine bZ [5+l.length] (.tup [.agg [vi z,vi (aO t w).1,vi (aO lo (dJ w l)).1,.sl (.own (5+l.length) 119) 3 (ev (iU (dJ w l) l)),vb (b||(aO t w).2||(aO lo (dJ w l)).2)],vi 0]) (by simp (disch:=first|assumption|omega) only[pgr,pgo,tyf,simprocAttr,id_eq];first|rfl|skip) (by simp) (by simp only[pgo,simprocAttr];first|rfl|simp) ?_
   simp [V.map,V.mapL,nz,pgo]
end Go.Proofs.YtiohdbjggmmjcaaGreat
