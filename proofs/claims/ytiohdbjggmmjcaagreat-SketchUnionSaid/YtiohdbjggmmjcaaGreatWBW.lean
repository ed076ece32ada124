/-
  Merged texts.
-/
import Derived.Test.YtiohdbjggmmjcaaGreatWBV
set_option linter.unusedVariables false
set_option linter.unusedSimpArgs false
set_option linter.unusedSectionVars false
set_option linter.defProp false
set_option maxRecDepth 100000
set_option maxHeartbeats 8000000
namespace Go.Proofs.YtiohdbjggmmjcaaGreat
open Go Go.Pg
theorem alB(n:Nat):1≤wB n∧wB n≤4294967295:=by unfold wB;(repeat' split)<;>omega
theorem ai3(l:List Int)(n:Nat):aih (kU l n):=fun i hi=>by
 have hm:=nJ (kU l n) i ([],0) hi
 generalize (kU l n).getD i ([],0)=x at *
 obtain⟨j,_,rfl⟩:=List.mem_map.1 hm
 have h1:=OJ (atN l j:Nat)
 have h2:=alB (atN l j)
 have h3:1≤(Ry (atN l j:Nat)).length:=by
  unfold Ry
  split
  ·exact (by decide:1≤3)
  ·exact (by decide:∀q,q<12→1≤(rQ.getD q []).length) _ (Nat.mod_lt _ (by decide))
 refine⟨h1.1, ?_⟩
 unfold bT zi
 rw[if_pos ⟨h3,by have:=h1.2;simp only;omega⟩,if_pos h2]
theorem Zg(l m:List Int)(n:Int)(hl:l.length≤9223372036854775807)(hm:m.length≤9223372036854775807):Gxx 5 [fzi l,fzi m,vi n] (vb true):=by
 obtain⟨a,ha,hab⟩:∃a:Nat,bits .and .i64 n 65535=(a:Int)∧a<65536:=⟨_,ac8 _,by omega⟩
 have hp:=Y7 a (by omega)
 have hs:=Y6 a
 have hv:=Gy a
 have hA:=aeM (wW a) hs hv l hl
 have hB:=aeM (wW a) hs hv m hm
 have okA:=aiG (wW a) hs hv l
 have okB:=aiG (wW a) hs hv m
 have a1:=acB m 1 hm (by omega)
 have b1:=Gx m 1
 have hI:=acC (m.drop (min m.length 2)) (atN m 1%8) (by rw[List.length_drop];omega) (by omega)
 have hi1:=ai3 (l.drop (min l.length 2)) (atN l 1%8)
 have hi2:=ai3 (m.drop (min m.length 2)) (atN m 1%8)
 have n1:=uY (l.drop (min l.length 2)) (atN l 1%8)
 have n2:=uY (m.drop (min m.length 2)) (atN m 1%8)
 have hU:=ake hs hv hi1 hi2 (by omega) (by omega) (lD (atN l 9)) (lD (atN m 9))
 have fA:=FX hs hv hi1 (lD (atN l 9)) (by omega) _ (Nat.le_refl _)
 have eA:(mg (wW a) (kU (l.drop (min l.length 2)) (atN l 1%8)) (lD (atN l 9)) (kU (l.drop (min l.length 2)) (atN l 1%8)).length).1=acO (wW a) l:=by rw[n1];rfl
 have eB:(mg (wW a) (kU (m.drop (min m.length 2)) (atN m 1%8)) (lD (atN m 9)) (kU (m.drop (min m.length 2)) (atN m 1%8)).length).1=acO (wW a) m:=by rw[n2];rfl
 rw[eA,eB] at hU
 have hT:=GH hi1 _ (Nat.le_refl _)
 have fv:=fA.v
 have fq:=fA.q
 have ft:=fA.t
 rw[eA] at fv fq ft
 have hG:=Y8 okA fq fv ft ⟨hT.1,by omega⟩ hi2 (by omega)
 have hM:=Good.wk (args':=[.agg (skF (acO (wW a) l)),.agg (skF (acO (wW a) m)),nls,vi 0]) (Dv _ _ okA okB [] 0 EY) ⟨aH _,aH _,.inl (o5 _ _),aH _,trivial⟩
 have okM:=GM _ _ okA okB [] 0
 have hmn:=min2 m.length
 have hdr:=acD m (min m.length 2)
 have hil:=aZ m
 generalize kU (m.drop (min m.length 2)) (atN m 1%8)=its at *
 generalize PE (kU (l.drop (min l.length 2)) (atN l 1%8)) (kU (l.drop (min l.length 2)) (atN l 1%8)).length=T at *
 have hTb:T≤100000000000:=by omega
 clear fA eA eB hi1 n1 fv fq ft hT
 generalize acO (wW a) l=A at *
 generalize acO (wW a) m=B at *
 generalize wW a=p at *
 obtain⟨hU1,hU2,hU3⟩:=hU
 rw[hU1] at hM
 generalize (oL A B [] 0).2.1=cat at *
 generalize (oL A B [] 0).1=M at *
 have e0:NQ A its 0=(A,0):=rfl
 have es:∀i,NQ A its (i+1)=((bg (NQ A its i).1 (its.getD i ([],0)).1 (its.getD i ([],0)).2 [] (NQ A its i).2).1,(bg (NQ A its i).1 (its.getD i ([],0)).1 (its.getD i ([],0)).2 [] (NQ A its i).2).2.1):=fun _=>rfl
 generalize NQ A its=F at *
 have itl:=OA its
 have kv:=jo M okM
 obtain⟨pk,pz,pd,ps⟩:=p
 simp only at hv hU2 hU3
 refine gI oD Tryz.func5 Tryz.results5 ?_
 (repeat' (first|(simp (disch:=first|exact dqz|fail) only[pgz,simprocAttr,pga,pgv,mmF,ha,hil,hmn,hdr,anB,itl,beq_self_eq_true])|((with_reducible show bU _ _ _ _ _ _);first|refine cU hp ?_|refine cU hA ?_|refine cU hB ?_|refine cU hM ?_|refine cU a1 ?_|refine cU hI ?_)|((with_reducible show rO _ _ _ _ _ _ _);first|refine cA hp ?_|refine cA hA ?_|refine cA hB ?_|refine cA hM ?_|refine cA a1 ?_|refine cA hI ?_)|(refine tS ?_ ?_<;>intro hc)|(with_reducible refine cKA ?_)|((with_reducible show wu _ _ _ _ _);first|refine zO (by decide +kernel) ?_|refine zQ (by decide +kernel) ?_)|(with_reducible refine cK ?_)))
 refine df (fun i:Nat=>mkA [(7,.ref 0 0),(10,.ref 1 0),(13,.ref 2 0),(14,fzt its),(15,vb true),(16,vi (F i).2),(17,vi i)] [(0,(25,pmF ⟨pk,pz,pd,ps⟩)),(1,(41,skF M)),(2,(41,skF (F i).1))] 3 (fun _ => .top)) (fun i=>i≤its.length) (fun i=>its.length-i) 0 [] [0,11,12] ?_ (Nat.zero_le _) ?_
 ·rw[e0]
  (refine dN ?_ ?_ (gu _ _ _) (by decide) (by decide) (by decide) (by decide);(repeat' (first|exact trivial|refine dI _ _ rfl rfl ?_ ?_));all_goals (try simp only[pgs,pgl,pgx,pgf,pgw,di,dL,dm,dM,qc,iO,fO,pgn,simprocAttr]);all_goals (try (repeat' (first|apply aI)));all_goals (try (first|exact trivial|exact dE (by omega)|exact eH rfl|exact bP rfl rfl|exact jq rfl)))
 ·intro i hi
  replace hi:i≤its.length:=hi
  rcases Nat.lt_or_ge i its.length with hlt|hge
  ·have hg:=abw its i hlt
   have hx:=hi2 i hlt
   have hes:=es i
   have G:=hG i (by omega)
   have Gs:=(G.step hx.1 hx.2 [] (by omega) (by have:=GH hi2 (i+1) hlt;have e:PE its (i+1)=PE its i+(its.getD i ([],0)).2:=rfl;omega)).2
   generalize its.getD i ([],0)=x at *
   have h2:=Good.wk (args':=[.agg (skF (F i).1),.agg [vs x.1,vi x.2],nls,vi (F i).2]) (ajN (F i).1 G.ok x.1 x.2 [] (F i).2 hx.1 EY) ⟨aH _,aH _,.inl (o5 _ _),aH _,trivial⟩
   have e1:=congrArg Prod.fst hes
   have e2:=congrArg Prod.snd hes
   simp only at e1 e2
   rw[←e1,←e2,Gs] at h2
   clear G Gs hes
   generalize F i=G at *
   obtain⟨g,a⟩:=G
   (repeat' (first|(simp (disch:=first|exact dqz|fail) only[pgz,simprocAttr,pga,itl,hg,beq_self_eq_true])|((with_reducible show bU _ _ _ _ _ _);refine cU h2 ?_)|((with_reducible show rO _ _ _ _ _ _ _);first|refine cA h2 ?_)|(refine tS ?_ ?_<;>intro hc)|(with_reducible refine cKA ?_)|((with_reducible show wu _ _ _ _ _);first|refine zO (by decide +kernel) ?_|refine zQ (by decide +kernel) ?_)|(with_reducible refine cK ?_)))
   (refine dh (i+1) [] [0,1,2] (hlt) (by first|omega|(simp only[List.length_cons];omega)) ?_;(refine dN ?_ ?_ (gu _ _ _) (by decide) (by decide) (by decide) (by decide);(repeat' (first|exact trivial|refine dI _ _ rfl rfl ?_ ?_));all_goals (try simp only[pgs,pgl,pgx,pgf,pgw,di,dL,dm,dM,qc,iO,fO,pgn,simprocAttr]);all_goals (try (repeat' (first|apply aI)));all_goals (try (first|exact trivial|exact dE (by omega)|exact eH rfl|exact bP rfl rfl|exact jq rfl))))
  ·have:i=its.length:=by omega
   subst this
   have G:=hG _ (Nat.le_refl _)
   have g1:=G.ok
   clear G hG es e0
   generalize F its.length=G at *
   obtain⟨g,ga⟩:=G
   simp only at hU2 hU3 g1
   have k3:=jM g g g1 g1
   rw[qG] at k3
   rcases Jd hv with rfl|rfl|rfl|rfl|rfl|rfl
   any_goals
    rw[hU2 (by decide)]
    (repeat' (first|(simp (disch:=first|exact dqz|fail) only[pgz,simprocAttr,pga,itl,beq_self_eq_true])|((with_reducible show bU _ _ _ _ _ _);first|refine cU k3 ?_|refine cU Aj ?_)|((with_reducible show rO _ _ _ _ _ _ _);first|refine cA k3 ?_|refine cA Aj ?_)|(refine tS ?_ ?_<;>intro hc)|(with_reducible refine cKA ?_)|((with_reducible show wu _ _ _ _ _);first|refine zO (by decide +kernel) ?_|refine zQ (by decide +kernel) ?_)|(with_reducible refine cK ?_)))
    (refine rT [] ?_;first|rfl|simp only[pgo,simprocAttr]|skip)
   all_goals
    obtain⟨u0,u1,u2,u3⟩:=hU3 (by decide)
    rw[u0] at kv
    simp only[skF,u1,u2,u3] at kv
    (repeat' (first|(simp (disch:=first|exact dqz|fail) only[pgz,simprocAttr,pga,itl,u1,u2,u3,beq_self_eq_true])|((with_reducible show bU _ _ _ _ _ _);first|refine cU kv ?_|refine cU Aj ?_)|((with_reducible show rO _ _ _ _ _ _ _);first|refine cA kv ?_|refine cA Aj ?_)|(refine tS ?_ ?_<;>intro hc)|(with_reducible refine cKA ?_)|((with_reducible show wu _ _ _ _ _);first|refine zO (by decide +kernel) ?_|refine zQ (by decide +kernel) ?_)|(with_reducible refine cK ?_)))
    (refine rT [] ?_;first|rfl|simp only[pgo,simprocAttr]|skip)
end Go.Proofs.YtiohdbjggmmjcaaGreat
