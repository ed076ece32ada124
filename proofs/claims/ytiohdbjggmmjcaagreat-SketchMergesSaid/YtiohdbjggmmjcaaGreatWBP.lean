/-
  Texts of this claim, merged; own names are short.
-/
import Derived.Test.YtiohdbjggmmjcaaGreatWBO
set_option linter.unusedVariables false
set_option linter.unusedSimpArgs false
set_option linter.unusedSectionVars false
set_option linter.defProp false
set_option maxRecDepth 100000
set_option maxHeartbeats 8000000
namespace Go.Proofs.YtiohdbjggmmjcaaGreat
open Go Go.Pg
def ddE(l:List En):Nat→List En
 | 0=>[]
 | i+1=>if 0≤bi (ddE l i) (l.getD i ([],0,0)).1 then ddE l i else ddE l i++[l.getD i ([],0,0)]
theorem ags(l:List En):∀i,(ddE l i).length≤i
 | 0=>Nat.le_refl _
 | i+1=>by
  have:=ags l i
  unfold ddE
  split
  ·omega
  ·simp only[List.length_append,List.length_cons,List.length_nil];omega
theorem Zm(f:En→En)(hf:∀z,(f z).1=z.1)(k:List Nat):∀(l:List En) (i:Nat),jd k i (l.map f)=jd k i l
 | [],_=>rfl
 | y::l,i=>by
  show (if (f y).1=k then _ else jd k (i+1) (l.map f))=(if y.1=k then _ else jd k (i+1) l)
  rw[hf,Zm f hf k l]
theorem aiz(f:En→En)(hf:∀z,(f z).1=z.1)(k:List Nat)(l:List En):bi (l.map f) k=bi l k:=Zm f hf k l 0
theorem O3{l:List En}{k:List Nat}(h:0≤bi l k):∃z∈l,z.1=k:=CS k l 0 h
theorem agt{l:List En}{k:List Nat}{z:En}(hz:z∈l)(hk:z.1=k):0≤bi l k:=Classical.byContradiction fun h=>wX k l 0 (by have:bi l k=jd k 0 l:=rfl;omega) z hz hk
theorem Zn(l m:List En)(hd:l.Pairwise fun a b=>a.1≠b.1):∀i,i≤l.length→ddE (l++m) i=l.take i
 | 0,_=>by simp [ddE]
 | i+1,h=>by
  have ih:=Zn l m hd i (by omega)
  have hg:(l++m).getD i ([],0,0)=l.getD i ([],0,0):=by
   rw[List.getD_eq_getElem?_getD,List.getD_eq_getElem?_getD,List.getElem?_append_left (by omega)]
  have hge:l.getD i ([],0,0)=l[i]'(by omega):=by rw[List.getD_eq_getElem?_getD,List.getElem?_eq_getElem (by omega)];rfl
  unfold ddE
  rw[ih,hg,if_neg,sJ l i (by omega)]
  intro hc
  obtain⟨z,hz,hk⟩:=O3 hc
  obtain⟨j,hj,rfl⟩:=List.mem_iff_getElem.1 hz
  rw[List.length_take] at hj
  rw[List.getElem_take,hge] at hk
  exact List.pairwise_iff_getElem.1 hd j i (by omega) (by omega) (by omega) hk
theorem agu{x y:Tp}(hx:vTp x=0)(hy:vTp y=0):∀j,j≤y.e.length→ddE (x.e++y.e) (x.e.length+j)=oO x y j
 | 0,_=>by rw[Nat.add_zero,Zn _ _ (afo hx) _ (Nat.le_refl _),List.take_length,aim]
 | j+1,h=>by
  have ih:=agu hx hy j (by omega)
  have hg:(x.e++y.e).getD (x.e.length+j) ([],0,0)=y.e.getD j ([],0,0):=by
   rw[List.getD_eq_getElem?_getD,List.getD_eq_getElem?_getD,List.getElem?_append_right (by omega),Nat.add_sub_cancel_left]
  have hge:y.e.getD j ([],0,0)=y.e[j]'(by omega):=by rw[List.getD_eq_getElem?_getD,List.getElem?_eq_getElem (by omega)];rfl
  have e0:ddE (x.e++y.e) (x.e.length+(j+1))=if 0≤bi (ddE (x.e++y.e) (x.e.length+j)) ((x.e++y.e).getD (x.e.length+j) ([],0,0)).1 then ddE (x.e++y.e) (x.e.length+j) else ddE (x.e++y.e) (x.e.length+j)++[(x.e++y.e).getD (x.e.length+j) ([],0,0)]:=rfl
  rw[e0,ih,hg]
  by_cases q:bi x.e (y.e.getD j ([],0,0)).1<0
  ·rw[if_neg,Zh x y j (by omega) q]
   intro hc
   obtain⟨z,hz,hk⟩:=O3 hc
   unfold oO at hz
   rcases List.mem_append.1 hz with hz|hz
   ·have:=agt hz hk;omega
   ·have hz:=(List.mem_filter.1 hz).1
    obtain⟨i,hi,rfl⟩:=List.mem_iff_getElem.1 hz
    rw[List.length_take] at hi
    rw[List.getElem_take,hge] at hk
    exact List.pairwise_iff_getElem.1 (afo hy) i j (by omega) (by omega) (by omega) hk
  ·rw[if_pos,aft x y j (by omega) q]
   obtain⟨z,hz,hk⟩:=O3 (l:=x.e) (k:=(y.e.getD j ([],0,0)).1) (by omega)
   exact agt (List.mem_append_left _ hz) hk
theorem aiN(l:List En)(n:Nat)(P:En→Prop)(h:∀z∈l,P z)(hn:n≤l.length):∀z∈ddE l n,P z:=by
 induction n with
 | zero=>intro z hz;cases hz
 | succ n ih =>
  intro z hz
  unfold ddE at hz
  split at hz
  ·exact ih (by omega) z hz
  ·rcases List.mem_append.1 hz with hz|hz
   ·exact ih (by omega) z hz
   ·rw[List.mem_singleton.1 hz];exact h _ (nJ _ _ _ (by omega))
def fpE(x y:Tp)(z:En):En:=wV (SC x y z.1)
theorem agv(x y:Tp)(z:En):(fpE x y z).1=z.1:=rfl
theorem agw(x y:Tp)(m:List En):m.map (fpE x y)=nM (tJ x y m):=by
 unfold nM tJ
 rw[List.map_map];rfl
theorem ai5(L:List En)(z:Int)(hz:1≤z)(hl:L.length≤1000000):slV Tryz.prog 32 (.sl .fz 3 (ev L)) none (some (.c (.int .i64 (min z (L.length:Int)))))=some (fzv (L.take z.toNat)):=by
 have hel:=aG L
 rw[EU]
 simp only[bdV,Option.bind_some,aiX,aiY]
 rw[if_pos ⟨trivial,by omega,by omega,by rw[hel];omega⟩]
 have e1:(ev L).take (min z (L.length:Int)).toNat=ev (L.take z.toNat):=by
  unfold ev
  rw[←List.map_take]
  congr 1
  rcases Int.le_total z L.length with h|h
  ·rw[Int.min_eq_left h]
  ·rw[Int.min_eq_right h,Int.toNat_natCast,List.take_of_length_le (Nat.le_refl _),List.take_of_length_le (by omega)]
 simp only[Int.toNat_natCast,List.drop_zero,e1]
theorem X3(x y:Tp)(hx:octE x.e)(hy:octE y.e)(c1:vTp x=0)(c2:vTp y=0)(cz:x.z=y.z) :
  Pg.Good Tryz.prog 57 [.agg (tpF x),.agg (tpF y)] (.tup [.agg [vi x.z,vi (aO x.t y.t).1,fzv ((srt bfE (nM (tJ x y (oO x y y.e.length)))).take x.z.toNat),vb (x.b||y.b||(aO x.t y.t).2||yw x y (oO x y y.e.length))],vi 0]):=by
 obtain⟨i1,i2,i3,i4⟩:=kK c1
 obtain⟨j1,j2,j3,j4⟩:=kK c2
 have h1:=rZ x hx (by omega)
 have h2:=rZ y hy (by omega)
 rw[c1] at h1
 rw[c2] at h2
 have hw:=Nj c1
 have hw':=Nj c2
 have h3:=qw x.t y.t (by unfold W64;omega) (by unfold W64;omega)
 have hmel:=agu c1 c2 y.e.length (Nat.le_refl _)
 have hoc:octE (x.e++y.e):=fun z hz=>by rcases List.mem_append.1 hz with h|h;exact hx z h;exact hy z h
 have hky:∀z∈x.e++y.e,iQ z.1=true:=fun z hz=>by
  rcases List.mem_append.1 hz with h|h
  ·obtain⟨i,hi,rfl⟩:=List.mem_iff_getElem.1 h
   have:=(su (i4 i hi)).1
   simpa [List.getD,hi] using this
  ·obtain⟨i,hi,rfl⟩:=List.mem_iff_getElem.1 h
   have:=(su (j4 i hi)).1
   simpa [List.getD,hi] using this
 have hf1:=fun (k:List Nat) (ho:oct k) (hk:iQ k=true)=>NU x k ho hx c1 hk
 have hf2:=fun (k:List Nat) (ho:oct k) (hk:iQ k=true)=>NU y k ho hy c2 hk
 have hel1:=aG x.e
 have hel2:=aG y.e
 have hal:ev x.e++ev y.e=ev (x.e++y.e):=by simp [ev]
 have hzz:(x.z=y.z)=True:=eq_true cz
 have hAl:(x.e++y.e).length=x.e.length+y.e.length:=List.length_append
 have hk1:=GU x
 generalize haT:aO x.t y.t=aT at *
 obtain⟨T,s1⟩:=aT
 rw[←hmel,←agw]
 have hfp:=agv x y
 have hfe:∀z,fpE x y z=(z.1,(SC x y z.1).2.1,min (SC x y z.1).2.2 ((SC x y z.1).2.1-1)):=fun _=>rfl
 have hpe:∀k,SC x y k=(k,(aO (lZ x k).1.2.1 (lZ y k).1.2.1).1,(aO (lZ x k).1.2.2 (lZ y k).1.2.2).1):=fun _=>rfl
 have hpf:∀k,prF x y k=((aO (lZ x k).1.2.1 (lZ y k).1.2.1).2||(aO (lZ x k).1.2.2 (lZ y k).1.2.2).2):=fun _=>rfl
 have hmf:∀s i,((s||yw x y (ddE (x.e++y.e) i))||prF x y ((x.e++y.e).getD i ([],0,0)).1)=(s||yw x y (ddE (x.e++y.e) i++[(x.e++y.e).getD i ([],0,0)])):=fun s i=>GV x y s _ _
 generalize fpE x y=FP at *
 generalize SC x y=PE at *
 generalize prF x y=PF at *
 obtain⟨MF,hMF⟩:∃MF,MF=yw x y:=⟨_,rfl⟩
 rw[←hMF] at hmf ⊢
 have hMF0:MF []=false:=by rw[hMF];rfl
 clear hMF hmel
 generalize lZ x=FX at *
 generalize lZ y=FY at *
 generalize hA:x.e++y.e=A at *
 obtain⟨z,t,l,b⟩:=x
 obtain⟨z2,t2,l2,b2⟩:=y
 simp only at *
 obtain⟨sA,hsA⟩:∃sA,sA=(b||b2||s1):=⟨_,rfl⟩
 rw[←hsA]
 obtain⟨bv,hbv⟩:∃bv,bv=b:=⟨_,rfl⟩
 obtain⟨bv2,hbv2⟩:∃bv,bv=b2:=⟨_,rfl⟩
 have hdA:=ags A
 have hds:∀i,i≤A.length→octE ((ddE A i).map FP):=fun i hi z hz=>by
  obtain⟨u,hu,rfl⟩:=List.mem_map.1 hz
  rw[hfp]
  exact aiN A i (fun z=>oct z.1) hoc hi u hu
 have hfd:=fun (i:Nat) (hi:i≤A.length) (k:List Nat) (ho:oct k)=>FI ((ddE A i).map FP) k (hds i hi) ho (by have:=hdA i;rw[List.length_map];omega)
 have hAe:=aG A
 rw[←hAl]
 rw[←hbv] at hf1
 rw[←hbv2] at hf2
 rcases (by cases b<;>cases b2<;>simp:b=true∨(b=false∧b2=true)∨(b=false∧b2=false)) with hb|⟨hb,hb'⟩|⟨hb,hb'⟩
 all_goals
  subst hb
  try subst hb'
  refine gI oG Tryz.func57 Tryz.results57 ?_
  (repeat' (first|(simp (disch:=first|exact dqz|fail) only[pgz,simprocAttr,hel1,hel2,hzz,hal,pga,pgG])|((with_reducible show bU _ _ _ _ _ _);first|refine cU h1 ?_|refine cU h2 ?_|refine cU h3 ?_)|((with_reducible show rO _ _ _ _ _ _ _);first|refine cA h1 ?_|refine cA h2 ?_|refine cA h3 ?_)|(refine tS ?_ ?_<;>intro hc)|(with_reducible refine cKA ?_)|((with_reducible show wu _ _ _ _ _);first|refine zO (by decide +kernel) ?_|refine zQ (by decide +kernel) ?_|refine abu (by decide +kernel) ?_|refine abv (by decide +kernel) ?_)|(with_reducible refine cK ?_)))
  refine df (fun i:Nat=>mkA [(2,.ref 0 0),(3,.ref 1 0),(4,.ref 2 0),(10,.ref 3 0),(11,.sl (.own 0 119) 3 (ev A)),(12,.sl (.own 1 119) 3 (ev ((ddE A i).map FP))),(13,vi i)] [(0,(34,tpF ⟨z,t,l,bv⟩)),(1,(34,tpF ⟨z2,t2,l2,bv2⟩)),(2,(34,[vi 0,vi 0,nls,vb false])),(3,(34,[vi z,vi T,nls,vb (sA||MF (ddE A i))]))] 4 (fun _ => .top)) (fun i=>i≤A.length) (fun i=>A.length-i) 0 [4] [0,1,2,3] ?_ (Nat.zero_le _) ?_
  ·(refine dN ?_ ?_ (gu _ _ _) (by decide) (by decide) (by decide) (by decide);(repeat' (first|exact trivial|refine dI _ _ rfl rfl ?_ ?_));all_goals (try simp only[pgs,pgl,pgx,pgf,pgw,di,dL,dm,dM,fA,iO,fO,pgn,simprocAttr]);all_goals (try (repeat' (first|apply aI)));all_goals (try (first|exact trivial|exact dE (by omega)|exact eH rfl|exact bP rfl rfl|exact jq rfl)))
   all_goals first|(exact gG rfl)|(exact eH (by rw[hbv]))|(exact eH (by rw[hbv2]))|(exact eH (by rw[hsA];simp [ddE,hMF0]))|skip
  ·intro i hi
   replace hi:i≤A.length:=hi
   have hdl:(ev ((ddE A i).map FP)).length≤64:=by have:=hdA i;rw[aG,List.length_map];omega
   rcases Nat.lt_or_ge i A.length with hlt|hge
   ·have hg:=eY A i hlt
    have hok:=fV hoc i
    have hkk:=hky (A.getD i ([],0,0)) (nJ _ _ _ hlt)
    have k1:=hfd i hi _ hok
    rw[aiz FP hfp] at k1
    have k2:=hf1 _ hok hkk
    have k3:=hf2 _ hok hkk
    have w1:=hw (A.getD i ([],0,0)).1
    have w2:=hw' (A.getD i ([],0,0)).1
    have k4:=qw _ _ w1.1 w2.1
    have k5:=qw _ _ w1.2 w2.2
    have ha:=pR (FX (A.getD i ([],0,0)).1).1.2.1 (FY (A.getD i ([],0,0)).1).1.2.1
    have hm1:=hmf sA i
    have hkx:=hk1 (A.getD i ([],0,0)).1
    have hE:=mr ((ddE A i).map FP) (A.getD i ([],0,0)).1 (PE (A.getD i ([],0,0)).1).2.1 (min (PE (A.getD i ([],0,0)).1).2.2 ((PE (A.getD i ([],0,0)).1).2.1-1))
    rw[←hfe] at hE
    have hEm:(ddE A i).map FP++[FP (A.getD i ([],0,0))]=(ddE A i++[A.getD i ([],0,0)]).map FP:=by simp
    rw[hEm] at hE
    rw[hpe] at hE
    rw[hpf] at hm1
    have hdn:ddE A (i+1)=if 0≤bi (ddE A i) (A.getD i ([],0,0)).1 then ddE A i else ddE A i++[A.getD i ([],0,0)]:=rfl
    have hlt2:((i:Int)<(A.length:Int))=True:=eq_true (by omega)
    by_cases q:0≤bi (ddE A i) (A.getD i ([],0,0)).1
    ·rw[if_pos q] at hdn
     have hq:(bi (ddE A i) (A.getD i ([],0,0)).1≥0)=True:=eq_true q
     generalize bi (ddE A i) (A.getD i ([],0,0)).1=fi at *
     generalize A.getD i ([],0,0)=en at *
     (repeat' (first|(simp (disch:=first|exact dqz|fail) only[pgz,simprocAttr,hAe,hlt2,hg,hq,pga,pgG])|((with_reducible show bU _ _ _ _ _ _);first|refine cU k1 ?_|refine cU k2 ?_|refine cU k3 ?_|refine cU k4 ?_|refine cU k5 ?_)|((with_reducible show rO _ _ _ _ _ _ _);first|refine cA k1 ?_|refine cA k2 ?_|refine cA k3 ?_|refine cA k4 ?_|refine cA k5 ?_)|(refine tS ?_ ?_<;>intro hc)|(with_reducible refine cKA ?_)|((with_reducible show wu _ _ _ _ _);first|refine zO (by decide +kernel) ?_|refine zQ (by decide +kernel) ?_|refine abu (by decide +kernel) ?_|refine abv (by decide +kernel) ?_)|(with_reducible refine cK ?_)))
     (refine dh (i+1) [0,1] [0,1,2,3] (hlt) (by first|omega|(simp only[List.length_cons];omega)) ?_;(refine dN ?_ ?_ (gu _ _ _) (by decide) (by decide) (by decide) (by decide);(repeat' (first|exact trivial|refine dI _ _ rfl rfl ?_ ?_));all_goals (try simp only[pgs,pgl,pgx,pgf,pgw,di,dL,dm,dM,fA,iO,fO,pgn,simprocAttr]);all_goals (try (repeat' (first|apply aI)));all_goals (try (first|exact trivial|exact dE (by omega)|exact eH rfl|exact bP rfl rfl|exact jq rfl))))
     all_goals first|(exact bP rfl (by rw[hdn]))|(exact eH (by rw[hdn]))|skip
    ·rw[if_neg q] at hdn
     have hq:(bi (ddE A i) (A.getD i ([],0,0)).1≥0)=False:=eq_false q
     rw[←hdn] at hE hm1
     generalize bi (ddE A i) (A.getD i ([],0,0)).1=fi at *
     generalize A.getD i ([],0,0)=en at *
     generalize (sA||MF (ddE A i))=fb at *
     generalize FX en.1=fx at *
     generalize FY en.1=fy at *
     obtain⟨⟨xk,xc,xe⟩,x2⟩:=fx
     obtain⟨⟨yk,yc,ye⟩,y2⟩:=fy
     simp only at k2 k3 k4 k5 hE hm1 hkx
     subst hkx
     generalize aO xc yc=a at *
     generalize aO xe ye=c at *
     obtain⟨a1,a2⟩:=a
     obtain⟨d1,d2⟩:=c
     simp only at k4 k5 hE hm1 ha
     rcases (by cases fb<;>cases a2<;>simp:fb=true∨(fb=false∧a2=true)∨(fb=false∧a2=false)) with hb|⟨hb,hb'⟩|⟨hb,hb'⟩
     all_goals
      subst hb
      try subst hb'
      (repeat' (first|(simp (disch:=first|exact dqz|fail) only[pgz,simprocAttr,mmF,hAe,hlt2,hg,hq,hE,pga,pgG])|((with_reducible show bU _ _ _ _ _ _);first|refine cU k1 ?_|refine cU k2 ?_|refine cU k3 ?_|refine cU k4 ?_|refine cU k5 ?_)|((with_reducible show rO _ _ _ _ _ _ _);first|refine cA k1 ?_|refine cA k2 ?_|refine cA k3 ?_|refine cA k4 ?_|refine cA k5 ?_)|(refine tS ?_ ?_<;>intro hc)|(with_reducible refine cKA ?_)|((with_reducible show wu _ _ _ _ _);first|refine zO (by decide +kernel) ?_|refine zQ (by decide +kernel) ?_|refine abu (by decide +kernel) ?_|refine abv (by decide +kernel) ?_)|(with_reducible refine cK ?_)))
      (refine dh (i+1) [0,1] [0,1,2,3] (hlt) (by first|omega|(simp only[List.length_cons];omega)) ?_;(refine dN ?_ ?_ (gu _ _ _) (by decide) (by decide) (by decide) (by decide);(repeat' (first|exact trivial|refine dI _ _ rfl rfl ?_ ?_));all_goals (try simp only[pgs,pgl,pgx,pgf,pgw,di,dL,dm,dM,fA,iO,fO,pgn,simprocAttr]);all_goals (try (repeat' (first|apply aI)));all_goals (try (first|exact trivial|exact dE (by omega)|exact eH rfl|exact bP rfl rfl|exact jq rfl))))
      all_goals first|(exact eH (by rw[←hm1];rfl))|(exact eH (by rw[←hm1];simp))|skip
   ·have:i=A.length:=by omega
    subst this
    have hso:Pg.Good Tryz.prog 108 [fzv ((ddE A A.length).map FP)] (fzv (srt bfE ((ddE A A.length).map FP))):=Good.fzr (BD ((ddE A A.length).map FP) (by have:=hdA A.length;rw[List.length_map];omega)) rfl (.inl (.inl rfl))
    have hlt2:((A.length:Int)<(A.length:Int))=False:=eq_false (by omega)
    have hsl:(srt bfE ((ddE A A.length).map FP)).length≤64:=by have:=hdA A.length;rw[wI,List.length_map];omega
    generalize srt bfE ((ddE A A.length).map FP)=L at *
    have hLe:=aG L
    have hmc:min (L.length:Int) z=min z (L.length:Int):=Int.min_comm _ _
    have hcu:=ai5 L z i1.1 (by omega)
    (repeat' (first|(simp (disch:=first|exact dqz|fail) only[pgz,simprocAttr,hAe,hlt2,hLe,hmc,hcu,pga,pgG,id_eq.{1}])|((with_reducible show bU _ _ _ _ _ _);first|refine cU h1 ?_|refine cG [1] hso ?_)|((with_reducible show rO _ _ _ _ _ _ _);first|refine cA h1 ?_)|(refine tS ?_ ?_<;>intro hc)|(with_reducible refine cKA ?_)|((with_reducible show wu _ _ _ _ _);first|refine zO (by decide +kernel) ?_|refine zQ (by decide +kernel) ?_|refine abu (by decide +kernel) ?_|refine abv (by decide +kernel) ?_)|(with_reducible refine cK ?_)))
    (refine rT [] ?_;first|rfl|simp only[pgo,simprocAttr]|skip)
theorem Zo(x y:Tp)(hx:octE x.e)(hy:octE y.e)(hxn:x.e.length≤1000000)(hyn:y.e.length≤1000000):Pg.Good Tryz.prog 57 [.agg (tpF x),.agg (tpF y)] (.tup [.agg (tpF (sZ x y).1),vi (sZ x y).2]):=by
 have h1:=rZ x hx hxn
 have h2:=rZ y hy hyn
 by_cases c1:vTp x=0
 ·by_cases c2:vTp y=0
  ·by_cases c3:x.z=y.z
   ·unfold sZ
    rw[if_neg (fun h=>h c1),if_neg (fun h=>h c2),if_neg (fun h=>h c3)]
    exact Good.fzt (X3 x y hx hy c1 c2 c3) rfl ⟨aH _,aH _,trivial⟩
   ·unfold sZ
    rw[if_neg (fun h=>h c1),if_neg (fun h=>h c2),if_pos c3]
    rw[c1] at h1
    rw[c2] at h2
    refine Good.fzt (vs:=[.agg [vi 0,vi 0,nls,vb false],vi 10]) ?_ rfl ⟨FK,aH _,trivial⟩
    have c3':(x.z=y.z)=False:=eq_false c3
    obtain⟨z,t,l,b⟩:=x
    obtain⟨z2,t2,l2,b2⟩:=y
    simp only at *
    refine gI oG Tryz.func57 Tryz.results57 ?_
    (repeat' (first|(simp (disch:=first|exact dqz|fail) only[pgz,simprocAttr,c3',pga,pgG])|((with_reducible show bU _ _ _ _ _ _);first|refine cU h1 ?_|refine cU h2 ?_)|((with_reducible show rO _ _ _ _ _ _ _);first|refine cA h1 ?_|refine cA h2 ?_)|(refine tS ?_ ?_<;>intro hc)|(with_reducible refine cKA ?_)|((with_reducible show wu _ _ _ _ _);first|refine zO (by decide +kernel) ?_|refine zQ (by decide +kernel) ?_|refine abu (by decide +kernel) ?_|refine abv (by decide +kernel) ?_)|(with_reducible refine cK ?_)))
    (refine rT [] ?_;first|rfl|simp only[pgo,simprocAttr]|skip)
  ·unfold sZ
   rw[if_neg (fun h=>h c1),if_pos c2]
   rw[c1] at h1
   refine Good.fzt (vs:=[.agg [vi 0,vi 0,nls,vb false],vi (vTp y)]) ?_ rfl ⟨FK,aH _,trivial⟩
   have c2':(vTp y=0)=False:=eq_false c2
   generalize vTp y=v at *
   obtain⟨z,t,l,b⟩:=x
   obtain⟨z2,t2,l2,b2⟩:=y
   simp only at *
   refine gI oG Tryz.func57 Tryz.results57 ?_
   (repeat' (first|(simp (disch:=first|exact dqz|fail) only[pgz,simprocAttr,c2',pga,pgG])|((with_reducible show bU _ _ _ _ _ _);first|refine cU h1 ?_|refine cU h2 ?_)|((with_reducible show rO _ _ _ _ _ _ _);first|refine cA h1 ?_|refine cA h2 ?_)|(refine tS ?_ ?_<;>intro hc)|(with_reducible refine cKA ?_)|((with_reducible show wu _ _ _ _ _);first|refine zO (by decide +kernel) ?_|refine zQ (by decide +kernel) ?_|refine abu (by decide +kernel) ?_|refine abv (by decide +kernel) ?_)|(with_reducible refine cK ?_)))
   (refine rT [] ?_;first|rfl|simp only[pgo,simprocAttr]|skip)
 ·unfold sZ
  rw[if_pos c1]
  refine Good.fzt (vs:=[.agg [vi 0,vi 0,nls,vb false],vi (vTp x)]) ?_ rfl ⟨FK,aH _,trivial⟩
  have c1':(vTp x=0)=False:=eq_false c1
  generalize vTp x=v at *
  obtain⟨z,t,l,b⟩:=x
  obtain⟨z2,t2,l2,b2⟩:=y
  simp only at *
  refine gI oG Tryz.func57 Tryz.results57 ?_
  (repeat' (first|(simp (disch:=first|exact dqz|fail) only[pgz,simprocAttr,c1',pga,pgG])|((with_reducible show bU _ _ _ _ _ _);refine cU h1 ?_)|((with_reducible show rO _ _ _ _ _ _ _);first|refine cA h1 ?_)|(refine tS ?_ ?_<;>intro hc)|(with_reducible refine cKA ?_)|((with_reducible show wu _ _ _ _ _);first|refine zO (by decide +kernel) ?_|refine zQ (by decide +kernel) ?_|refine abu (by decide +kernel) ?_|refine abv (by decide +kernel) ?_)|(with_reducible refine cK ?_)))
  (refine rT [] ?_;first|rfl|simp only[pgo,simprocAttr]|skip)
end Go.Proofs.YtiohdbjggmmjcaaGreat
