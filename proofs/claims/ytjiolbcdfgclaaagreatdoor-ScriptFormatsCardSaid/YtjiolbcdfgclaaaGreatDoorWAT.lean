/-
  Texts of this claim, merged; own names are short.
-/
import Derived.Test.YtjiolbcdfgclaaaGreatDoorWAS
import Derived.Test.YtjiolbcdfgclaaaGreatDoorWAQ
set_option linter.unusedVariables false
set_option linter.unusedSimpArgs false
set_option linter.unusedSectionVars false
set_option linter.defProp false
set_option maxRecDepth 100000
set_option maxHeartbeats 8000000
namespace Go.Proofs.YtjiolbcdfgclaaaGreatDoor
open Go Go.Pg
theorem aoa(n:Nat):Int.fdiv (n:Int) (2^min 1 IntKind.i64.bits)=((n / 2:Nat):Int):=by
 show Int.fdiv (n:Int) ((2:Nat):Int)=_
 rw[Int.fdiv_eq_ediv_of_nonneg _ (Int.natCast_nonneg _),Int.natCast_ediv]
theorem aob(n:Nat):Int.fdiv (n:Int) (2^min 3 IntKind.i64.bits)=((n / 8:Nat):Int):=by
 show Int.fdiv (n:Int) ((8:Nat):Int)=_
 rw[Int.fdiv_eq_ediv_of_nonneg _ (Int.natCast_nonneg _),Int.natCast_ediv]
theorem aoc(n:Nat):Int.fdiv (n:Int) (2^min 4 IntKind.i64.bits)=((n / 16:Nat):Int):=by
 show Int.fdiv (n:Int) ((16:Nat):Int)=_
 rw[Int.fdiv_eq_ediv_of_nonneg _ (Int.natCast_nonneg _),Int.natCast_ediv]
theorem aod(n:Nat):Int.fdiv (n:Int) (2^min 5 IntKind.i64.bits)=((n / 32:Nat):Int):=by
 show Int.fdiv (n:Int) ((32:Nat):Int)=_
 rw[Int.fdiv_eq_ediv_of_nonneg _ (Int.natCast_nonneg _),Int.natCast_ediv]
theorem aoe(n:Nat):Int.fdiv (n:Int) (2^min 6 IntKind.i64.bits)=((n / 64:Nat):Int):=by
 show Int.fdiv (n:Int) ((64:Nat):Int)=_
 rw[Int.fdiv_eq_ediv_of_nonneg _ (Int.natCast_nonneg _),Int.natCast_ediv]
theorem aof(n:Nat):Int.fdiv (n:Int) (2^min 7 IntKind.i64.bits)=((n / 128:Nat):Int):=by
 show Int.fdiv (n:Int) ((128:Nat):Int)=_
 rw[Int.fdiv_eq_ediv_of_nonneg _ (Int.natCast_nonneg _),Int.natCast_ediv]
theorem aog(n:Nat):Int.fdiv (n:Int) (2^min 8 IntKind.i64.bits)=((n / 256:Nat):Int):=by
 show Int.fdiv (n:Int) ((256:Nat):Int)=_
 rw[Int.fdiv_eq_ediv_of_nonneg _ (Int.natCast_nonneg _),Int.natCast_ediv]
theorem aoh(n:Nat):Int.fdiv (n:Int) (2^min 9 IntKind.i64.bits)=((n / 512:Nat):Int):=by
 show Int.fdiv (n:Int) ((512:Nat):Int)=_
 rw[Int.fdiv_eq_ediv_of_nonneg _ (Int.natCast_nonneg _),Int.natCast_ediv]
theorem al2(n:Nat):Int.fdiv (n:Int) (2^min 10 IntKind.i64.bits)=((n / 1024:Nat):Int):=by
 show Int.fdiv (n:Int) ((1024:Nat):Int)=_
 rw[Int.fdiv_eq_ediv_of_nonneg _ (Int.natCast_nonneg _),Int.natCast_ediv]
theorem al3(n:Nat):Int.fdiv (n:Int) (2^min 11 IntKind.i64.bits)=((n / 2048:Nat):Int):=by
 show Int.fdiv (n:Int) ((2048:Nat):Int)=_
 rw[Int.fdiv_eq_ediv_of_nonneg _ (Int.natCast_nonneg _),Int.natCast_ediv]
theorem al4(n:Nat):Int.fdiv (n:Int) (2^min 12 IntKind.i64.bits)=((n / 4096:Nat):Int):=by
 show Int.fdiv (n:Int) ((4096:Nat):Int)=_
 rw[Int.fdiv_eq_ediv_of_nonneg _ (Int.natCast_nonneg _),Int.natCast_ediv]
theorem aoi(n:Nat):bits .and .i64 (n:Int) 1=((n%2:Nat):Int):=Eq.trans (show _=(n:Int)%2 from jH (n:Int) 1 (by decide)) rfl
theorem aoj(n:Nat):bits .and .i64 (n:Int) 3=((n%4:Nat):Int):=Eq.trans (show _=(n:Int)%4 from jH (n:Int) 2 (by decide)) rfl
theorem aok(n:Nat):bits .and .i64 (n:Int) 7=((n%8:Nat):Int):=Eq.trans (show _=(n:Int)%8 from jH (n:Int) 3 (by decide)) rfl
theorem aol(n:Nat):bits .and .i64 (n:Int) 15=((n%16:Nat):Int):=Eq.trans (show _=(n:Int)%16 from jH (n:Int) 4 (by decide)) rfl
theorem aom(n:Nat):bits .and .i64 (n:Int) 31=((n%32:Nat):Int):=Eq.trans (show _=(n:Int)%32 from jH (n:Int) 5 (by decide)) rfl
theorem aon(n:Nat):bits .and .i64 (n:Int) 63=((n%64:Nat):Int):=Eq.trans (show _=(n:Int)%64 from jH (n:Int) 6 (by decide)) rfl
theorem al5(n:Nat):bits .and .i64 (n:Int) 65535=((n%65536:Nat):Int):=Eq.trans (show _=(n:Int)%65536 from jH (n:Int) 16 (by decide)) rfl
theorem al6(n:Nat):bits .and .i64 (n:Int) 16777215=((n%16777216:Nat):Int):=Eq.trans (show _=(n:Int)%16777216 from jH (n:Int) 24 (by decide)) rfl
def shB:=aI @aoa (aI @aob (aI @aoc (aI @aod (aI @aoe (aI @aof (aI @aog (aI @aoh (aI @al2 (aI @al3 (@al4))))))))))
def anB:=aI @aoi (aI @aoj (aI @aok (aI @aol (aI @aom (aI @aon (aI @al5 (@al6)))))))
theorem tmN(a b:Nat):Int.tmod (a:Int) (b:Int)=((a%b:Nat):Int):=rfl
theorem tdN(a b:Nat):Int.tdiv (a:Int) (b:Int)=((a / b:Nat):Int):=rfl
def atN(l:List Int)(i:Nat):Nat:=if l.length=0 then i%65536 else (l.getD (i%l.length) 0%65536).toNat+i / l.length
theorem dU(l:List Int)(i:Nat):atN l i≤65535+i:=by
 unfold atN
 split
 ·omega
 ·have:=Nat.div_le_self i l.length
  omega
theorem al7(n:Int):bits .and .i64 n 65535=(((n%65536).toNat:Nat):Int):=by rw[afG];omega
theorem jT(l:List Int)(i:Nat)(hl:l.length≤9223372036854775807)(hi:i≤1000000):Gxx 31 [fzi l,vi i] (vi (atN l i:Nat)):=by
 have hil:=bP l
 unfold atN
 by_cases h:l.length=0
 ·rw[if_pos h]
  refine gI oW Tryz.func31 Tryz.results31 ?_
  exact wR (aI @hil @anB) trivial ah
 ·rw[if_neg h]
  have hlt:i%l.length<l.length:=Nat.mod_lt _ (by omega)
  have hg:=mg l (i%l.length) hlt
  have e1:=tmN i l.length
  have e2:=tdN i l.length
  have e3:=al7 (l.getD (i%l.length) 0)
  have hdl:=Nat.div_le_self i l.length
  have hb:(l.getD (i%l.length) 0%65536).toNat<65536:=by omega
  generalize (l.getD (i%l.length) 0%65536).toNat=x at *
  generalize l.getD (i%l.length) 0=y at *
  generalize i%l.length=j at *
  generalize i / l.length=k at *
  refine gI oW Tryz.func31 Tryz.results31 ?_
  exact wR (aI @hil (aI @e1 (aI @e2 (aI @hg @e3)))) trivial ah
def wB(n:Nat):Int:=if n / 4096%16=14 then 1+((n%65536*65537%4294967295:Nat):Int) else if n / 4096%16=15 then 4294967295-((n%4:Nat):Int) else 1+((n / 16%8:Nat):Int)
def Gx(n:Nat):List Nat × Int:=(wC n,wB n)
theorem al8(n:Nat):1≤wB n∧wB n≤4294967295:=by unfold wB;(repeat' split)<;>omega
theorem tmW(a:Nat):Int.tmod ((a:Int)*65537) 4294967295=((a*65537%4294967295:Nat):Int):=rfl
theorem ajO(n:Nat)(hn:n≤1000000000):Gxx 68 [vi n] (.agg [vs (Gx n).1,vi (Gx n).2]):=by
 have hk:=abb (n:Int)
 have e:=tmW (n%65536)
 unfold Gx wB
 simp only
 by_cases h1:n / 4096%16=14
 ·rw[if_pos h1]
  refine gI oW Tryz.func68 Tryz.results68 ?_
  exact wR (aI @shB (aI @anB @e)) hk ah
 ·rw[if_neg h1]
  by_cases h2:n / 4096%16=15
  ·rw[if_pos h2]
   refine gI oW Tryz.func68 Tryz.results68 ?_
   exact wR (aI @shB (aI @anB @e)) hk ah
  ·rw[if_neg h2]
   refine gI oW Tryz.func68 Tryz.results68 ?_
   exact wR (aI @shB (aI @anB @e)) hk ah
def fE(l:List Int)(n:Nat):List (List Nat × Int):=(List.range n).map fun i=>Gx (atN l i)
theorem tN(l:List Int)(n:Nat):(fE l n).length=n:=by simp [fE]
theorem MG(l:List Int)(n:Nat):itv (fE l n)++[V.agg [vs (Gx (atN l n)).1,vi (Gx (atN l n)).2]]=itv (fE l (n+1)):=by simp [fE,itv,List.range_succ]
theorem SE(l:List Int)(n:Nat)(hl:l.length≤9223372036854775807)(hn:n≤1000):Gxx 35 [fzi l,vi n] (fzt (fE l n)):=by
 refine Good.fzr (r := .sl (.own 0 64) 2 (itv (fE l n))) ?_ rfl (aA _)
 refine gI oW Tryz.func35 Tryz.results35 ?_
 refine wS trivial trivial ?_
 refine aK (fun i:Nat=>mkA [(0,fzi l),(1,vi n),(5,.sl (.own 0 64) 2 (itv (fE l i))),(6,vi i)] [] 1 (fun _ => .top)) (fun i=>i≤n) (fun i=>n-i) 0 [] [] ?_ (Nat.zero_le _) ?_
 ·exact kE
  all_goals exact gK rfl
 ·intro i hi
  replace hi:i≤n:=hi
  have hil:=aB (fE l i)
  have hib:=tN l i
  rcases Nat.lt_or_ge i n with hlt|hge
  ·have h1:=jT l i hl (by omega)
   have h2:=ajO (atN l i) (by have:=dU l i;omega)
   have hnx:=MG l i
   generalize atN l i=a at *
   refine wS (aI @hil (aI @hib @hnx)) (aI h1 h2) ?_
   exact bE (i+1) [0] [] hlt
  ·have:i=n:=by omega
   subst this
   exact wR trivial trivial (ids [0])
def iO(n:Nat):Pm :=
 if n%6=0 then ⟨1,0,0,0⟩ else if n%6=1 then ⟨2,1+((n / 16%4:Nat):Int),1+((n / 8%2:Nat):Int),((n / 256%4:Nat):Int)⟩ else if n%6=2 then ⟨3,2+((n / 8%2:Nat):Int),0,((n / 256%4:Nat):Int)⟩
 else if n%6=3 then ⟨4,1+((n / 8%4:Nat):Int),0,0⟩ else if n%6=4 then ⟨5,1+((n / 8%4:Nat):Int),0,0⟩ else ⟨6,2+2*((n / 8%2:Nat):Int),0,0⟩
theorem SG(n:Nat):vp (iO n).k (iO n).z (iO n).d (iO n).s=0:=by
 unfold iO
 (repeat' split)<;>simp [vp]<;>omega
theorem PS(n:Nat):0≤(iO n).s∧(iO n).s<18446744073709551616:=by
 unfold iO
 (repeat' split)<;>simp<;>omega
theorem tm6(n:Nat):Int.tmod (n:Int) 6=((n%6:Nat):Int):=rfl
theorem gQ(n:Nat)(hn:n≤1000000000):Gxx 33 [vi n] (.agg (pmF (iO n))):=by
 have e:=tm6 n
 have hlt:n%6<6:=Nat.mod_lt _ (by omega)
 unfold iO
 rcases (show n%6=0∨n%6=1∨n%6=2∨n%6=3∨n%6=4∨n%6=5 by omega) with h|h|h|h|h|h
 all_goals
  simp only[h] at e ⊢
  refine gI oW Tryz.func33 Tryz.results33 ?_
  exact wR (aI @shB (aI @anB @e)) trivial ah
abbrev Qy:=Int × List Nat × Int × Int × Int
abbrev qyF(q:Qy):List V:=[vi q.1,vs q.2.1,vi q.2.2.1,vi q.2.2.2.1,vi q.2.2.2.2]
def dA(n:Nat):Qy :=
 if n%7=0 then (1,[],0,0,0) else if n%7=1 then (2,wC ((n / 8:Nat):Int),0,0,0) else if n%7=2 then (3,[],0,0,0) else if n%7=3 then (4,[],0,0,0)
 else if n%7=4 then (5,[],((n / 8%8:Nat):Int),0,0) else if n%7=5 then (6,wC ((n / 8:Nat):Int),0,0,0) else (7,[],0,((n / 8%4:Nat):Int),3+((n / 32%4:Nat):Int))
theorem tm7(n:Nat):Int.tmod (n:Int) 7=((n%7:Nat):Int):=rfl
theorem ja(n:Nat)(hn:n≤1000000000):Gxx 34 [vi n] (.agg (qyF (dA n))):=by
 have e:=tm7 n
 have hk:=abb ((n / 8:Nat):Int)
 unfold dA
 rcases (show n%7=0∨n%7=1∨n%7=2∨n%7=3∨n%7=4∨n%7=5∨n%7=6 by omega) with h|h|h|h|h|h|h
 all_goals
  simp only[h] at e ⊢
  refine gI oW Tryz.func34 Tryz.results34 ?_
  exact wR (aI @shB (aI @anB (aI @e @ai))) hk ah
def al9:List Nat:=[48,49,50,51,52,53,54,55,56,57,48,49,50,51,52,53,54,55,56,57,48,49,50,51,52,53,54,55,56,57,48,49,50,51]
def aqL:List (List Nat):=[[],[120],al9]
def uj(n:Nat):Qy :=
 if n / 512%16=0 then (((n / 16%16:Nat):Int)-3,(dA n).2.1,(dA n).2.2.1,(dA n).2.2.2.1,(dA n).2.2.2.2)
 else if n / 512%16=1 then ((dA n).1,aqL.getD (n / 16%3) [],(dA n).2.2.1,(dA n).2.2.2.1,(dA n).2.2.2.2)
 else if n / 512%16=2 then ((dA n).1,(dA n).2.1,((n / 16%64:Nat):Int)-2,(dA n).2.2.2.1,(dA n).2.2.2.2)
 else if n / 512%16=3 then ((dA n).1,(dA n).2.1,(dA n).2.2.1,((n / 16%8:Nat):Int)-1,((n / 128%4:Nat):Int))
 else if n / 512%16=4 then ((dA n).1,(dA n).2.1,(dA n).2.2.1,(dA n).2.2.2.1,1000000+((n / 16%2:Nat):Int)) else dA n
theorem tm3(n:Nat):Int.tmod (n:Int) 3=((n%3:Nat):Int):=rfl
theorem ama(e:Nat→V)(b:Nat→Option (TypeId × List V))(n:Nat)(h:Nat→V):bV Tryz.prog ⟨e,b,n,h⟩ 23 3 [(0,V.c (.string ⟨#[]⟩)),(1,V.c (.string ⟨#[120]⟩)),(2,V.c (.string ⟨#[48,49,50,51,52,53,54,55,56,57,48,49,50,51,52,53,54,55,56,57,48,49,50,51,52,53,54,55,56,57,48,49,50,51]⟩))]=some (.sl (.own n 9) 1 (sv aqL),⟨e,b,n+1,h⟩):=by
 rw[eG,qQ,Option.bind_some,x8,Option.bind_some,xZ,Option.bind_some]
 rfl
theorem PT(n:Nat)(hn:n≤1000000000):Gxx 30 [vi n] (.agg (qyF (uj n))):=by
 have hq:=ja n hn
 have e:=tm3 (n / 16)
 have hlt:n / 16%3<3:=Nat.mod_lt _ (by omega)
 have hg:=iK aqL (n / 16%3) hlt
 have hql:aqL.length=3:=rfl
 have hqs:=au aqL
 unfold uj
 generalize dA n=q at *
 obtain⟨k,key,c,nu,de⟩:=q
 simp only at *
 rcases (show n / 512%16=0∨n / 512%16=1∨n / 512%16=2∨n / 512%16=3∨n / 512%16=4∨(n / 512%16≠0∧n / 512%16≠1∧n / 512%16≠2∧n / 512%16≠3∧n / 512%16≠4) by omega) with h|h|h|h|h|h
 all_goals
  simp only[h,Nat.reduceEqDiff,reduceIte]
  refine gI oW Tryz.func30 Tryz.results30 ?_
  exact wR' (aI @ama (aI @shB (aI @anB (aI @e (aI @hg (aI @hqs @hql)))))) hq ah
def ae(n:Nat):List Nat:=[97+n%16777216%3]
def nmL:List (List Nat):=[[97],[98],[99]]
theorem amb(e:Nat→V)(b:Nat→Option (TypeId × List V))(n:Nat)(h:Nat→V):bV Tryz.prog ⟨e,b,n,h⟩ 23 3 [(0,V.c (.string ⟨#[97]⟩)),(1,V.c (.string ⟨#[98]⟩)),(2,V.c (.string ⟨#[99]⟩))]=some (.sl (.own n 9) 1 (sv nmL),⟨e,b,n+1,h⟩):=by
 rw[eG,qQ,Option.bind_some,x8,Option.bind_some,xZ,Option.bind_some]
 rfl
theorem afY(k:Nat)(h:k<3):nmL.getD k []=[97+k]:=by
 have:k=0∨k=1∨k=2:=by omega
 rcases this with rfl|rfl|rfl<;>rfl
theorem aQ(n:Nat)(hn:n≤1000000000):Gxx 32 [vi n] (vs (ae n)):=by
 have e:=tm3 (n%16777216)
 have hlt:n%16777216%3<3:=Nat.mod_lt _ (by omega)
 have hg:=iK nmL (n%16777216%3) hlt
 rw[afY _ hlt] at hg
 have hql:nmL.length=3:=rfl
 have hqs:=au nmL
 unfold ae
 refine gI oW Tryz.func32 Tryz.results32 ?_
 exact wR' (aI @amb (aI @anB (aI @e (aI @hg (aI @hqs @hql))))) trivial ah
def qj(p:Pm)(its:List (List Nat × Int))(co:List Nat):Nat→Sk × Int
 | 0=>(nX p,0)
 | i+1=>((fA (qj p its co i).1 (its.getD i ([],0)).1 (its.getD i ([],0)).2 co (qj p its co i).2).1,(fA (qj p its co i).1 (its.getD i ([],0)).1 (its.getD i ([],0)).2 co (qj p its co i).2).2.1)
theorem MH(p:Pm)(hs:0≤p.s∧p.s<18446744073709551616)(hv:vp p.k p.z p.d p.s=0)(its:List (List Nat × Int))(ho:∀x∈its,oct x.1)(co:List Nat)(i:Nat):(qj p its co i).1.Ok:=by
 induction i with
 | zero=>exact abN p hs hv
 | succ i ih =>
  refine abO _ ih _ _ _ _ ?_
  rcases Nat.lt_or_ge i its.length with h|h
  ·exact ho _ (jS _ _ _ h)
  ·rw[List.getD,List.getElem?_eq_none h];exact dV
theorem ajP(p:Pm)(hs:0≤p.s∧p.s<18446744073709551616)(hv:vp p.k p.z p.d p.s=0)(its:List (List Nat × Int))(hn:its.length≤1000000)(ho:∀x∈its,oct x.1)(co:List Nat)(hco:oct co) :
  Gxx 71 [.agg (pmF p),fzt its,fzb co] (.agg (skF (qj p its co its.length).1)):=by
 have h1:=afX p hv
 have hil:=aB its
 have hok:=MH p hs hv its ho co
 have e0:qj p its co 0=(nX p,0):=rfl
 have es:∀i,qj p its co (i+1)=((fA (qj p its co i).1 (its.getD i ([],0)).1 (its.getD i ([],0)).2 co (qj p its co i).2).1,(fA (qj p its co i).1 (its.getD i ([],0)).1 (its.getD i ([],0)).2 co (qj p its co i).2).2.1):=fun _=>rfl
 generalize qj p its co=F at *
 obtain⟨pk,pz,pd,ps⟩:=p
 refine gI oW Tryz.func71 Tryz.results71 ?_
 refine wS trivial h1 ?_
 refine aK (fun i:Nat=>mkA [(1,fzt its),(2,fzb co),(6,.ref 0 0),(7,.ref 1 0),(9,vi (F i).2),(10,vi i)] [(0,(93,skC Sk.o nls nls nls nls nls)),(1,(93,skF (F i).1))] 2 (fun _ => .top)) (fun i=>i≤its.length) (fun i=>its.length-i) 0 [] [1,2] ?_ (Nat.zero_le _) ?_
 ·rw[e0]
  exact kE
 ·intro i hi
  replace hi:i≤its.length:=hi
  rcases Nat.lt_or_ge i its.length with hlt|hge
  ·have hg:=sS its i hlt
   have hox:=ho _ (jS its i ([],0) hlt)
   have hes:=es i
   have hoki:=hok i
   generalize its.getD i ([],0)=x at *
   have h2:=PR (F i).1 hoki x.1 x.2 co (F i).2 hox hco
   have e1:=congrArg Prod.fst hes
   have e2:=congrArg Prod.snd hes
   simp only at e1 e2
   rw[←e1,←e2] at h2
   generalize F i=G at *
   obtain⟨g,a⟩:=G
   refine wS (aI @hil @hg) h2 ?_
   exact bE (i+1) [] [0,1] hlt
  ·have:i=its.length:=by omega
   subst this
   exact wR @hil trivial ah
def um(s:Sk):List Nat:=if s.p.k=1 then Ei s.tl else if s.p.k=2 then Ej s.cm else if s.p.k=3 then Em s.ll else if s.p.k=4 then Eo s.tp else if s.p.k=5 then Ep s.fq else Es s.rk
def jk(s:Sk):List Nat:=if vSk s≠0 then [] else zh 83 (aO s.p.k.toNat++um s)
theorem vG{s:Sk}(h:vSk s=0):vp s.p.k s.p.z s.p.d s.p.s=0∧kY s=0:=by
 unfold vSk at h
 split at h
 ·rename_i h1;exact absurd h h1
 ·rename_i h1
  split at h
  ·rename_i h2;exact absurd h h2
  ·rename_i h2;exact⟨Classical.byContradiction h1,Classical.byContradiction h2⟩
theorem EG{α:Type}(f:α→List Nat)(l:List α)(h:∀x∈l,oct (f x)):oct (l.flatMap f):=by
 intro b hb
 obtain⟨x,hx,hb⟩:=List.mem_flatMap.1 hb
 exact h x hx b hb
theorem lN(s:Sk)(ok:s.Ok)(h:vSk s=0):oct (um s)∧(um s).length≤100000:=by
 obtain⟨h1,h2⟩:=vG h
 unfold um
 unfold kY at h2
 have U:=fun n=>aS n
 split
 ·unfold Ei
  refine⟨bM (bM (bH _) (bH _)) (rV _), ?_⟩
  have:=U s.tl.t.toNat;have:=U s.tl.i.toNat;have:=jU s.tl.b
  simp only[List.length_append];omega
 ·rename_i q1
  rw[if_neg q1] at h2
  split
  ·rename_i q2
   rw[if_pos q2] at h2
   obtain⟨i1,i2,i3,i4⟩:=PL h2
   have hm:=zY i1 i2
   unfold Ej
   refine⟨bM (bM (bM (bM (bH _) (bH _)) (Ag _)) (EG _ _ fun _ _=>bH _)) (rV _), ?_⟩
   have:=U s.cm.d.toNat;have:=U s.cm.z.toNat;have:=jU s.cm.b;have:=lV s.cm.s
   have h9:=Aq (fun n:Int=>aO n.toNat) 9 s.cm.c (fun x _=>U _)
   have h8:s.cm.c.length≤512:=by omega
   have h7:(lM s.cm.c).length≤s.cm.c.length*9:=h9
   simp only[List.length_append];omega
  ·rename_i q2
   rw[if_neg q2] at h2
   split
   ·rename_i q3
    rw[if_pos q3] at h2
    obtain⟨i1,i2,i3⟩:=PM h2
    have hp:=(Aj i1).2.1
    unfold Em
    refine⟨bM (bM (bH _) (Ag _)) (fun b hb=>by obtain⟨x,_,rfl⟩:=List.mem_map.1 hb;exact abf _), ?_⟩
    have:=U s.ll.p.toNat;have:=lV s.ll.s
    simp only[List.length_append,List.length_map];omega
   ·rename_i q3
    rw[if_neg q3] at h2
    split
    ·rename_i q4
     rw[if_pos q4] at h2
     obtain⟨i1,i2,i3,i4⟩:=IA h2
     unfold Eo
     refine⟨bM (bM (bM (bM (bH _) (bH _)) (rV _)) (bH _)) (EG _ _ fun e he=>bM (bM (Ah (ok.to e he)) (bH _)) (bH _)), ?_⟩
     have:=U s.tp.z.toNat;have:=U s.tp.t.toNat;have:=jU s.tp.b;have:=U s.tp.e.length
     have h9:=Aq Am 59 s.tp.e (fun x hx=>by
      obtain⟨j,hj,he⟩:=qh eD hx
      refine L9 x ?_
      have:=(yV (i4 j hj)).1
      rw[kV,he] at this
      exact this.2)
     have h8:s.tp.e.length≤32:=by omega
     simp only[List.length_append];omega
    ·rename_i q4
     rw[if_neg q4] at h2
     split
     ·rename_i q5
      rw[if_pos q5] at h2
      obtain⟨i1,i2,i2',i3,i4⟩:=IC h2
      unfold Ep
      refine⟨bM (bM (bM (bM (bM (bH _) (bH _)) (bH _)) (rV _)) (bH _)) (EG _ _ fun e he=>bM (Ah (ok.fo e he)) (bH _)), ?_⟩
      have:=U s.fq.z.toNat;have:=U s.fq.t.toNat;have:=U s.fq.l.toNat;have:=jU s.fq.b;have:=U s.fq.e.length
      have h9:=Aq Ap 50 s.fq.e (fun x hx=>by
       obtain⟨j,hj,he⟩:=qh eD hx
       refine Mc x ?_
       have:=(yZ (i4 j hj)).1
       rw[kV,he] at this
       exact this.2)
      have h8:s.fq.e.length≤32:=by omega
      simp only[List.length_append];omega
     ·rename_i q5
      rw[if_neg q5] at h2
      have hkeys:=Me h2
      obtain⟨i1,i2,i2',i3,i4⟩:=IG h2
      unfold Es
      refine⟨bM (bM (bM (bM (bM (bH _) (bH _)) (bH _)) (rV _)) (bH _)) (EG _ _ fun l hl=>bM (bH _) (EG _ _ fun k hk=>Ah (ok.ro l hl k hk))), ?_⟩
      have:=U s.rk.z.toNat;have:=U s.rk.t.toNat;have:=U s.rk.l.toNat;have:=jU s.rk.b;have:=U s.rk.v.length
      have h9:=Aq vC 1280 s.rk.v (fun l hl=>by obtain⟨j,hj,he⟩:=qh [] hl;rw[←he];exact Md _ (hkeys j hj) (i4 j))
      simp only[List.length_append];omega
theorem MI(s:Sk)(ok:s.Ok):oct (jk s)∧(jk s).length≤100100:=by
 unfold jk
 split
 ·exact⟨dV,Nat.zero_le _⟩
 ·rename_i h
  obtain⟨h1,h2⟩:=lN s ok (Classical.byContradiction h)
  have h3:=aS s.p.k.toNat
  refine⟨LK (by decide) (bM (bH _) h1), ?_⟩
  have:=LJ 83 (aO s.p.k.toNat++um s)
  rw[List.length_append] at this
  omega
theorem afZ:wkV nls (fzb []) := .inl (oq _ _)
theorem MJ(s:Sk)(ok:s.Ok)(h:vSk s≠0):Gxx 69 [.agg (skF s)] (.tup [fzb (jk s),vi (vSk s)]):=by
 have h1:=dW s ok
 have e:jk s=[]:=if_pos h
 rw[e]
 refine Good.fzt (vs:=[nls,vi (vSk s)]) ?_ rfl ⟨afZ,aA _,trivial⟩
 generalize vSk s=v at *
 clear ok e
 obtain⟨⟨pk,pz,pd,ps⟩,⟨t1,t2,t3⟩,⟨c1,c2,c3,c4,c5⟩,⟨l1,l2,l3⟩,⟨e1,e2,e3,e4⟩,⟨f1,f2,f3,f4,f5⟩,⟨r1,r2,r3,r4,r5⟩⟩:=s
 refine gI oW Tryz.func69 Tryz.results69 ?_
 exact wR trivial h1 ah
theorem I5(s:Sk)(ok:s.Ok)(h:vSk s=0)(hk:s.p.k=1):Gxx 69 [.agg (skF s)] (.tup [fzb (jk s),vi (vSk s)]):=by
 have h1:=dW s ok
 rw[h] at h1 ⊢
 obtain⟨_,hp⟩:=vG h
 have hbo:=lN s ok h
 have eb:um s=Ei s.tl:=by simp [um,hk]
 have ep:kY s=0:=hp
 unfold kY at hp
 simp only[hk,Int.reduceEq,reduceIte] at hp
 have e:jk s=zh 83 (aO (1:Int).toNat++Ei s.tl):=by unfold jk;rw[if_neg (by omega),hk,eb]
 rw[e]
 rw[eb] at hbo
 have h2:=Et s.tl hp
 have h3:=kW (1:Int) ⟨by decide,by decide⟩
 have ul:=aS (1:Int).toNat
 have uo:=bH (1:Int).toNat
 generalize Ei s.tl=B at *
 generalize aO (1:Int).toNat=u at *
 have h4:=qg 83 (u++B) (by decide) (bM uo hbo.1) (by rw[List.length_append];omega)
 have q1:=ax u
 have q2:=ax B
 have q3:=dP u B
 clear ok e eb ep h hp
 obtain⟨⟨pk,pz,pd,ps⟩,⟨t1,t2,t3⟩,⟨c1,c2,c3,c4,c5⟩,⟨l1,l2,l3⟩,⟨e1,e2,e3,e4⟩,⟨f1,f2,f3,f4,f5⟩,⟨r1,r2,r3,r4,r5⟩⟩:=s
 simp only at *
 subst hk
 refine gI oW Tryz.func69 Tryz.results69 ?_
 (repeat' first|refine wP (aI @q1 (aI @q2 (aI @q3 @id_eq.{1}))) (aI h1 (aI h2 h3)) ?_|refine cG [1] h4 ?_|refine tS ?_ ?_<;>intro hc|fail)
 exact rE []
theorem I7(s:Sk)(ok:s.Ok)(h:vSk s=0)(hk:s.p.k=2):Gxx 69 [.agg (skF s)] (.tup [fzb (jk s),vi (vSk s)]):=by
 have h1:=dW s ok
 rw[h] at h1 ⊢
 obtain⟨_,hp⟩:=vG h
 have hbo:=lN s ok h
 have eb:um s=Ej s.cm:=by simp [um,hk]
 have ep:kY s=0:=hp
 unfold kY at hp
 simp only[hk,Int.reduceEq,reduceIte] at hp
 have e:jk s=zh 83 (aO (2:Int).toNat++Ej s.cm):=by unfold jk;rw[if_neg (by omega),hk,eb]
 rw[e]
 rw[eb] at hbo
 have h2:=zl s.cm hp ok.cs
 have h3:=kW (2:Int) ⟨by decide,by decide⟩
 have ul:=aS (2:Int).toNat
 have uo:=bH (2:Int).toNat
 generalize Ej s.cm=B at *
 generalize aO (2:Int).toNat=u at *
 have h4:=qg 83 (u++B) (by decide) (bM uo hbo.1) (by rw[List.length_append];omega)
 have q1:=ax u
 have q2:=ax B
 have q3:=dP u B
 clear ok e eb ep h hp
 obtain⟨⟨pk,pz,pd,ps⟩,⟨t1,t2,t3⟩,⟨c1,c2,c3,c4,c5⟩,⟨l1,l2,l3⟩,⟨e1,e2,e3,e4⟩,⟨f1,f2,f3,f4,f5⟩,⟨r1,r2,r3,r4,r5⟩⟩:=s
 simp only at *
 subst hk
 refine gI oW Tryz.func69 Tryz.results69 ?_
 (repeat' first|refine wP (aI @q1 (aI @q2 (aI @q3 @id_eq.{1}))) (aI h1 (aI h2 h3)) ?_|refine cG [1] h4 ?_|refine tS ?_ ?_<;>intro hc|fail)
 exact rE []
theorem I8(s:Sk)(ok:s.Ok)(h:vSk s=0)(hk:s.p.k=3):Gxx 69 [.agg (skF s)] (.tup [fzb (jk s),vi (vSk s)]):=by
 have h1:=dW s ok
 rw[h] at h1 ⊢
 obtain⟨_,hp⟩:=vG h
 have hbo:=lN s ok h
 have eb:um s=Em s.ll:=by simp [um,hk]
 have ep:kY s=0:=hp
 unfold kY at hp
 simp only[hk,Int.reduceEq,reduceIte] at hp
 have e:jk s=zh 83 (aO (3:Int).toNat++Em s.ll):=by unfold jk;rw[if_neg (by omega),hk,eb]
 rw[e]
 rw[eb] at hbo
 have h2:=BC s.ll hp ok.ls ok.ln
 have h3:=kW (3:Int) ⟨by decide,by decide⟩
 have ul:=aS (3:Int).toNat
 have uo:=bH (3:Int).toNat
 generalize Em s.ll=B at *
 generalize aO (3:Int).toNat=u at *
 have h4:=qg 83 (u++B) (by decide) (bM uo hbo.1) (by rw[List.length_append];omega)
 have q1:=ax u
 have q2:=ax B
 have q3:=dP u B
 clear ok e eb ep h hp
 obtain⟨⟨pk,pz,pd,ps⟩,⟨t1,t2,t3⟩,⟨c1,c2,c3,c4,c5⟩,⟨l1,l2,l3⟩,⟨e1,e2,e3,e4⟩,⟨f1,f2,f3,f4,f5⟩,⟨r1,r2,r3,r4,r5⟩⟩:=s
 simp only at *
 subst hk
 refine gI oW Tryz.func69 Tryz.results69 ?_
 (repeat' first|refine wP (aI @q1 (aI @q2 (aI @q3 @id_eq.{1}))) (aI h1 (aI h2 h3)) ?_|refine cG [1] h4 ?_|refine tS ?_ ?_<;>intro hc|fail)
 exact rE []
theorem I9(s:Sk)(ok:s.Ok)(h:vSk s=0)(hk:s.p.k=4):Gxx 69 [.agg (skF s)] (.tup [fzb (jk s),vi (vSk s)]):=by
 have h1:=dW s ok
 rw[h] at h1 ⊢
 obtain⟨_,hp⟩:=vG h
 have hbo:=lN s ok h
 have eb:um s=Eo s.tp:=by simp [um,hk]
 have ep:kY s=0:=hp
 unfold kY at hp
 simp only[hk,Int.reduceEq,reduceIte] at hp
 have e:jk s=zh 83 (aO (4:Int).toNat++Eo s.tp):=by unfold jk;rw[if_neg (by omega),hk,eb]
 rw[e]
 rw[eb] at hbo
 have h2:=IQ s.tp hp ok.to ok.tn
 have h3:=kW (4:Int) ⟨by decide,by decide⟩
 have ul:=aS (4:Int).toNat
 have uo:=bH (4:Int).toNat
 generalize Eo s.tp=B at *
 generalize aO (4:Int).toNat=u at *
 have h4:=qg 83 (u++B) (by decide) (bM uo hbo.1) (by rw[List.length_append];omega)
 have q1:=ax u
 have q2:=ax B
 have q3:=dP u B
 clear ok e eb ep h hp
 obtain⟨⟨pk,pz,pd,ps⟩,⟨t1,t2,t3⟩,⟨c1,c2,c3,c4,c5⟩,⟨l1,l2,l3⟩,⟨e1,e2,e3,e4⟩,⟨f1,f2,f3,f4,f5⟩,⟨r1,r2,r3,r4,r5⟩⟩:=s
 simp only at *
 subst hk
 refine gI oW Tryz.func69 Tryz.results69 ?_
 (repeat' first|refine wP (aI @q1 (aI @q2 (aI @q3 @id_eq.{1}))) (aI h1 (aI h2 h3)) ?_|refine cG [1] h4 ?_|refine tS ?_ ?_<;>intro hc|fail)
 exact rE []
theorem Ja(s:Sk)(ok:s.Ok)(h:vSk s=0)(hk:s.p.k=5):Gxx 69 [.agg (skF s)] (.tup [fzb (jk s),vi (vSk s)]):=by
 have h1:=dW s ok
 rw[h] at h1 ⊢
 obtain⟨_,hp⟩:=vG h
 have hbo:=lN s ok h
 have eb:um s=Ep s.fq:=by simp [um,hk]
 have ep:kY s=0:=hp
 unfold kY at hp
 simp only[hk,Int.reduceEq,reduceIte] at hp
 have e:jk s=zh 83 (aO (5:Int).toNat++Ep s.fq):=by unfold jk;rw[if_neg (by omega),hk,eb]
 rw[e]
 rw[eb] at hbo
 have h2:=zo s.fq hp ok.fo ok.fn
 have h3:=kW (5:Int) ⟨by decide,by decide⟩
 have ul:=aS (5:Int).toNat
 have uo:=bH (5:Int).toNat
 generalize Ep s.fq=B at *
 generalize aO (5:Int).toNat=u at *
 have h4:=qg 83 (u++B) (by decide) (bM uo hbo.1) (by rw[List.length_append];omega)
 have q1:=ax u
 have q2:=ax B
 have q3:=dP u B
 clear ok e eb ep h hp
 obtain⟨⟨pk,pz,pd,ps⟩,⟨t1,t2,t3⟩,⟨c1,c2,c3,c4,c5⟩,⟨l1,l2,l3⟩,⟨e1,e2,e3,e4⟩,⟨f1,f2,f3,f4,f5⟩,⟨r1,r2,r3,r4,r5⟩⟩:=s
 simp only at *
 subst hk
 refine gI oW Tryz.func69 Tryz.results69 ?_
 (repeat' first|refine wP (aI @q1 (aI @q2 (aI @q3 @id_eq.{1}))) (aI h1 (aI h2 h3)) ?_|refine cG [1] h4 ?_|refine tS ?_ ?_<;>intro hc|fail)
 exact rE []
theorem Jb(s:Sk)(ok:s.Ok)(h:vSk s=0)(hk:s.p.k=6):Gxx 69 [.agg (skF s)] (.tup [fzb (jk s),vi (vSk s)]):=by
 have h1:=dW s ok
 rw[h] at h1 ⊢
 obtain⟨_,hp⟩:=vG h
 have hbo:=lN s ok h
 have eb:um s=Es s.rk:=by simp [um,hk]
 have ep:kY s=0:=hp
 unfold kY at hp
 simp only[hk,Int.reduceEq,reduceIte] at hp
 have e:jk s=zh 83 (aO (6:Int).toNat++Es s.rk):=by unfold jk;rw[if_neg (by omega),hk,eb]
 rw[e]
 rw[eb] at hbo
 have h2:=Eu s.rk hp ok.ro ok.rn ok.rm
 have h3:=kW (6:Int) ⟨by decide,by decide⟩
 have ul:=aS (6:Int).toNat
 have uo:=bH (6:Int).toNat
 generalize Es s.rk=B at *
 generalize aO (6:Int).toNat=u at *
 have h4:=qg 83 (u++B) (by decide) (bM uo hbo.1) (by rw[List.length_append];omega)
 have q1:=ax u
 have q2:=ax B
 have q3:=dP u B
 clear ok e eb ep h hp
 obtain⟨⟨pk,pz,pd,ps⟩,⟨t1,t2,t3⟩,⟨c1,c2,c3,c4,c5⟩,⟨l1,l2,l3⟩,⟨e1,e2,e3,e4⟩,⟨f1,f2,f3,f4,f5⟩,⟨r1,r2,r3,r4,r5⟩⟩:=s
 simp only at *
 subst hk
 refine gI oW Tryz.func69 Tryz.results69 ?_
 (repeat' first|refine wP (aI @q1 (aI @q2 (aI @q3 @id_eq.{1}))) (aI h1 (aI h2 h3)) ?_|refine cG [1] h4 ?_|refine tS ?_ ?_<;>intro hc|fail)
 exact rE []
theorem PU(s:Sk)(ok:s.Ok):Gxx 69 [.agg (skF s)] (.tup [fzb (jk s),vi (vSk s)]):=by
 by_cases h:vSk s=0
 ·rcases FY (vG h).1 with hk|hk|hk|hk|hk|hk
  ·exact I5 s ok h hk
  ·exact I7 s ok h hk
  ·exact I8 s ok h hk
  ·exact I9 s ok h hk
  ·exact Ja s ok h hk
  ·exact Jb s ok h hk
 ·exact MJ s ok h
theorem abP(tag:Nat)(body:List Nat)(ht:tag<256)(ho:oct body)(hl:body.length≤1048576):Gxx 70 [.c (.int .u8 (tag:Nat)),fzb body] (fzb (zh tag body)):=by
 have h1:=qg tag body ht ho hl
 refine gI oW Tryz.func70 Tryz.results70 ?_
 exact wR trivial h1 ah
def qm(s:Sk):List Nat:=zh 88 (jk s)
theorem af0(s:Sk)(ok:s.Ok):oct (qm s)∧(qm s).length≤100200:=by
 obtain⟨h1,h2⟩:=MI s ok
 refine⟨LK (by decide) h1, ?_⟩
 have:=LJ 88 (jk s)
 unfold qm;omega
theorem abQ(s:Sk)(ok:s.Ok):Gxx 36 [.agg (skF s)] (fzb (qm s)):=by
 have h1:=PU s ok
 obtain⟨o1,o2⟩:=MI s ok
 have h2:=abP 88 (jk s) (by decide) o1 (by omega)
 unfold qm
 generalize jk s=b at *
 generalize vSk s=v at *
 clear ok
 obtain⟨⟨pk,pz,pd,ps⟩,⟨t1,t2,t3⟩,⟨c1,c2,c3,c4,c5⟩,⟨l1,l2,l3⟩,⟨e1,e2,e3,e4⟩,⟨f1,f2,f3,f4,f5⟩,⟨r1,r2,r3,r4,r5⟩⟩:=s
 refine gI oW Tryz.func36 Tryz.results36 ?_
 exact wR trivial (aI h1 h2) ah
def bQ(l:List Int):Sk:=(qj (iO (atN l 0)) (fE (l.drop (min l.length 2)) (atN l 1%8)) (df (atN l 9)) (atN l 1%8)).1
theorem xn(l:List Int)(n:Nat):∀x∈fE l n,oct x.1:=by
 intro x hx
 obtain⟨i,_,rfl⟩:=List.mem_map.1 hx
 exact (II _).1
theorem EH(l:List Int):(bQ l).Ok:=MH _ (PS _) (SG _) _ (xn _ _) _ _
theorem dh(l:List Int)(n:Nat):(iv l).drop n=iv (l.drop n):=by simp [iv,List.map_drop]
theorem min2(a:Nat):(min (a:Int) 2).toNat=min a 2:=by omega
theorem kX(a b:Nat):(min (a:Int) (b:Int)).toNat=min a b:=by omega
theorem VL(l:List Int)(hl:l.length≤9223372036854775807):Gxx 37 [fzi l] (.agg (skF (bQ l))):=by
 have a0:=jT l 0 hl (by omega)
 have a1:=jT l 1 hl (by omega)
 have a9:=jT l 9 hl (by omega)
 have b0:=dU l 0
 have b1:=dU l 1
 have b9:=dU l 9
 have h1:=gQ (atN l 0) (by omega)
 have h2:=SE (l.drop (min l.length 2)) (atN l 1%8) (by rw[List.length_drop];omega) (by omega)
 have h3:=iZ ((atN l 9:Nat):Int)
 have h4:=ajP (iO (atN l 0)) (PS _) (SG _) (fE (l.drop (min l.length 2)) (atN l 1%8)) (by rw[tN];omega) (xn _ _) (df (atN l 9)) (Gv _).1
 rw[tN] at h4
 have e:(qj (iO (atN l 0)) (fE (l.drop (min l.length 2)) (atN l 1%8)) (df (atN l 9)) (atN l 1%8)).1=bQ l:=rfl
 rw[e] at h4
 have hil:=bP l
 have hdr:=dh l (min l.length 2)
 have hmn:=min2 l.length
 generalize bQ l=S at *
 generalize iO (atN l 0)=p at *
 generalize fE (l.drop (min l.length 2)) (atN l 1%8)=its at *
 generalize df (atN l 9)=co at *
 generalize atN l 0=n0 at *
 generalize atN l 1=n1 at *
 generalize atN l 9=n9 at *
 clear e
 obtain⟨⟨pk,pz,pd,ps⟩,⟨t1,t2,t3⟩,⟨c1,c2,c3,c4,c5⟩,⟨l1,l2,l3⟩,⟨e1,e2,e3,e4⟩,⟨f1,f2,f3,f4,f5⟩,⟨r1,r2,r3,r4,r5⟩⟩:=S
 obtain⟨qk,qz,qd,qs⟩:=p
 refine gI oW Tryz.func37 Tryz.results37 ?_
 exact wR (aI @pgv (aI @mmF (aI @hil (aI @hmn (aI @hdr @anB))))) (aI a0 (aI a1 (aI a9 (aI h1 (aI h2 (aI h3 h4)))))) ah
theorem fF(o:O){a b c d:V}(ha:orN a (fzs o.names))(hb:orN b (fzt o.items))(hc:orN c (fzb o.coins))(hd:orN d (fzb o.data)):wkV (.agg (opC o a b c d)) (.agg (opF o)):=by
 refine .inr ⟨_,_,rfl,rfl, ?_⟩
 (repeat' (first|exact trivial|refine iV (.inl rfl) ?_|refine iV (tK ha) ?_|refine iV (tK hb) ?_|refine iV (tK hc) ?_|refine iV (tK hd) ?_))
def opN(n m:Nat)(its:List (List Nat × Int))(da:List Nat):O :=
 if n%20=0∨n%20=1 then ⟨1,ae (n / 32),[],[],(iO m).k,(iO m).z,(iO m).d,(iO m).s,[],[],0,0,0,0,0,0,0,[],0,0,0,[]⟩
 else if n%20=2 then ⟨2,ae (n / 32),[],[],0,0,0,0,[],[],0,0,0,0,0,0,0,[],0,0,0,[]⟩
 else if n%20=3 then ⟨3,ae (n / 32),ae (n / 128),[],0,0,0,0,[],[],0,0,0,0,0,0,0,[],0,0,0,[]⟩
 else if n%20=4 then ⟨4,[],[],[],0,0,0,0,[],[],0,0,0,0,0,0,0,[],0,0,0,[]⟩
 else if n%20=5 then ⟨5,ae (n / 32),[],[],0,0,0,0,[],[],0,0,0,0,0,0,(dA m).1,(dA m).2.1,(dA m).2.2.1,(dA m).2.2.2.1,(dA m).2.2.2.2,[]⟩
 else if n%20=6∨n%20=7∨n%20=8 then ⟨6,ae (n / 32),[],[],0,0,0,0,its,df (m:Int),0,0,0,0,0,0,0,[],0,0,0,[]⟩
 else if n%20=9 then ⟨7,ae (n / 32),ae (n / 128),[],0,0,0,0,[],df (m:Int),0,0,0,0,0,0,0,[],0,0,0,[]⟩
 else if n%20=10 then ⟨8,ae (n / 32),ae (n / 128),[],0,0,0,0,[],df (m:Int),1+((m%8:Nat):Int),1+((m / 8%8:Nat):Int),0,0,0,0,0,[],0,0,0,[]⟩
 else if n%20=11∨n%20=12 then ⟨9,[],[],[ae (n / 32),ae (n / 128),ae (n / 256)].take (1+n / 1024%2+n / 2048%2),0,0,0,0,[],[],0,0,0,0,0,0,0,[],0,0,0,[]⟩
 else if n%20=13 then ⟨10,[],[],[],0,0,0,0,[],[],0,0,((n / 32%2:Nat):Int),((n / 64%2:Nat):Int),0,0,(dA m).1,(dA m).2.1,(dA m).2.2.1,(dA m).2.2.2.1,(dA m).2.2.2.2,[]⟩
 else if n%20=14 then ⟨11,[],[],[],0,0,0,0,[],[],0,0,((n / 32%2:Nat):Int),0,0,0,0,[],0,0,0,[]⟩
 else if n%20=15 then ⟨12,[],[],[],0,0,0,0,[],[],0,0,((n / 32%2:Nat):Int),((n / 64%2:Nat):Int),0,0,0,[],0,0,0,[]⟩
 else if n%20=16 then ⟨13,[],[],[],0,0,0,0,[],[],0,0,0,0,((n / 32%2:Nat):Int),((n / 64%4:Nat):Int),0,[],0,0,0,[]⟩
 else if n%20=17 then ⟨14,[],[],[],0,0,0,0,[],[],0,0,0,0,((n / 32%2:Nat):Int),0,0,[],0,0,0,[]⟩
 else if n%20=18∧n / 32%2=1 then ⟨15,[],[],[],0,0,0,0,[],[],0,0,((n / 64%2:Nat):Int),((n / 128%2:Nat):Int),0,0,0,[],0,0,0,[]⟩
 else if n%20=18∧n / 32%2=0 then ⟨16,ae (n / 64),[],[],0,0,0,0,[],[],0,0,0,0,0,0,0,[],0,0,0,da⟩
 else ⟨17,[],[],[],0,0,0,0,[],[],0,0,0,0,0,0,0,[],0,0,0,[]⟩
theorem oN{p:Prop}(h:p:=by unfold opN;(repeat' (first|rw[if_pos (by omega)]|rw[if_neg (by omega)]))):p:=h
theorem vH(n:Nat):Int.tmod (n:Int) 20=((n%20:Nat):Int):=rfl
theorem tm5(n:Nat):Int.tmod (n:Int) 5=((n%5:Nat):Int):=rfl
theorem jg(a b c:List Nat)(k:Nat):(sv [a,b,c]).take k=sv ([a,b,c].take k):=by simp [sv,List.map_take]
theorem nY(a b c:List Nat):[vs a,vs b,vs c]=sv [a,b,c]:=rfl
theorem kQ(a b c:List Nat):V.idsL (sv [a,b,c])=[]:=rfl
theorem kR(a b c:List Nat):(sv [a,b,c]).length=3:=rfl
def jl(l:List Int)(i:Nat):O:=opN (atN l i) (atN l (i+7)) (fE (l.drop (min l.length (i%5))) (1+atN l i / 128%8)) (qm (bQ (l.drop (min l.length (i%7)))))
theorem aoo(l:List Int)(i:Nat)(hl:l.length≤9223372036854775807)(hi:i≤1000):Gxx 12 [fzi l,vi i] (.agg (opF (jl l i))):=by
 have a0:=jT l i hl (by omega)
 have a7:=jT l (i+7) hl (by omega)
 have b0:=dU l i
 have b7:=dU l (i+7)
 have hI:=SE (l.drop (min l.length (i%5))) (1+atN l i / 128%8) (by rw[List.length_drop];omega) (by omega)
 have hS:=VL (l.drop (min l.length (i%7))) (by rw[List.length_drop];omega)
 have hE:=abQ (bQ (l.drop (min l.length (i%7)))) (EH _)
 unfold jl
 generalize hits:fE (l.drop (min l.length (i%5))) (1+atN l i / 128%8)=its at *
 generalize hda:qm (bQ (l.drop (min l.length (i%7))))=da at *
 generalize bQ (l.drop (min l.length (i%7)))=S at *
 generalize atN l i=n at *
 generalize atN l (i+7)=m at *
 have e:=vH n
 have hil:=bP l
 have e5:=tm5 i
 have e7:=tm7 i
 have d5:=dh l (min l.length (i%5))
 have d7:=dh l (min l.length (i%7))
 have m5:=kX l.length (i%5)
 have m7:=kX l.length (i%7)
 have nm:=fun d=>aQ (n / d) (by have:=Nat.div_le_self n d;omega)
 have n5:=nm 32
 have n6:=nm 64
 have n7:=nm 128
 have n8:=nm 256
 have hp:=gQ m (by omega)
 have hq:=ja m (by omega)
 have hco:=iZ (m:Int)
 have t3:=jg (ae (n / 32)) (ae (n / 128)) (ae (n / 256))
 have s3:=nY (ae (n / 32)) (ae (n / 128)) (ae (n / 256))
 have l3:=kR (ae (n / 32)) (ae (n / 128)) (ae (n / 256))
 have i3:=kQ (ae (n / 32)) (ae (n / 128)) (ae (n / 256))
 have K:∀{o:O} {r:V},opN n m its da=o→Gxx 12 [fzi l,vi i] r→r.noRef=true→wkV (r.map (fun _ => .fz) id) (.agg (opF o))→Gxx 12 [fzi l,vi i] (.agg (opF (opN n m its da))):=fun e g h w=>by rw[e];exact Good.fzr g h w
 have z:=aj
 have y:=cu
 rcases (show n%20=0∨n%20=1∨n%20=2∨n%20=3∨n%20=4∨n%20=5∨n%20=6∨n%20=7∨n%20=8∨n%20=9∨n%20=10∨n%20=11∨n%20=12∨n%20=13∨n%20=14∨n%20=15∨n%20=16∨n%20=17∨n%20=18∨n%20=19 by omega) with hc|hc|hc|hc|hc|hc|hc|hc|hc|hc|hc|hc|hc|hc|hc|hc|hc|hc|hc|hc<;>simp only[hc] at e
 ·refine K (o:=⟨1,ae (n / 32),[],[],(iO m).k,(iO m).z,(iO m).d,(iO m).s,[],[],0,0,0,0,0,0,0,[],0,0,0,[]⟩) (r := .agg (opC ⟨1,ae (n / 32),[],[],(iO m).k,(iO m).z,(iO m).d,(iO m).s,[],[],0,0,0,0,0,0,0,[],0,0,0,[]⟩ nls nls nls nls)) oN ?_ rfl (fF _ (z _) (z _) (z _) (z _))
  refine gI oW Tryz.func12 Tryz.results12 ?_
  exact wR (aI @pgv (aI @mmF (aI @hil (aI @e (aI @shB (aI @anB @ai)))))) (aI a0 (aI a7 (aI n5 hp))) ah
 ·refine K (o:=⟨1,ae (n / 32),[],[],(iO m).k,(iO m).z,(iO m).d,(iO m).s,[],[],0,0,0,0,0,0,0,[],0,0,0,[]⟩) (r := .agg (opC ⟨1,ae (n / 32),[],[],(iO m).k,(iO m).z,(iO m).d,(iO m).s,[],[],0,0,0,0,0,0,0,[],0,0,0,[]⟩ nls nls nls nls)) oN ?_ rfl (fF _ (z _) (z _) (z _) (z _))
  refine gI oW Tryz.func12 Tryz.results12 ?_
  exact wR (aI @pgv (aI @mmF (aI @hil (aI @e (aI @shB (aI @anB @ai)))))) (aI a0 (aI a7 (aI n5 hp))) ah
 ·refine K (o:=⟨2,ae (n / 32),[],[],0,0,0,0,[],[],0,0,0,0,0,0,0,[],0,0,0,[]⟩) (r := .agg (opC ⟨2,ae (n / 32),[],[],0,0,0,0,[],[],0,0,0,0,0,0,0,[],0,0,0,[]⟩ nls nls nls nls)) oN ?_ rfl (fF _ (z _) (z _) (z _) (z _))
  refine gI oW Tryz.func12 Tryz.results12 ?_
  exact wR (aI @pgv (aI @mmF (aI @hil (aI @e (aI @shB (aI @anB @ai)))))) (aI a0 (aI a7 n5)) ah
 ·refine K (o:=⟨3,ae (n / 32),ae (n / 128),[],0,0,0,0,[],[],0,0,0,0,0,0,0,[],0,0,0,[]⟩) (r := .agg (opC ⟨3,ae (n / 32),ae (n / 128),[],0,0,0,0,[],[],0,0,0,0,0,0,0,[],0,0,0,[]⟩ nls nls nls nls)) oN ?_ rfl (fF _ (z _) (z _) (z _) (z _))
  refine gI oW Tryz.func12 Tryz.results12 ?_
  exact wR (aI @pgv (aI @mmF (aI @hil (aI @e (aI @shB (aI @anB @ai)))))) (aI a0 (aI a7 (aI n5 n7))) ah
 ·refine K (o:=⟨4,[],[],[],0,0,0,0,[],[],0,0,0,0,0,0,0,[],0,0,0,[]⟩) (r := .agg (opC ⟨4,[],[],[],0,0,0,0,[],[],0,0,0,0,0,0,0,[],0,0,0,[]⟩ nls nls nls nls)) oN ?_ rfl (fF _ (z _) (z _) (z _) (z _))
  refine gI oW Tryz.func12 Tryz.results12 ?_
  exact wR (aI @pgv (aI @mmF (aI @hil (aI @e (aI @shB (aI @anB @ai)))))) (aI a0 a7) ah
 ·refine K (o:=⟨5,ae (n / 32),[],[],0,0,0,0,[],[],0,0,0,0,0,0,(dA m).1,(dA m).2.1,(dA m).2.2.1,(dA m).2.2.2.1,(dA m).2.2.2.2,[]⟩) (r := .agg (opC ⟨5,ae (n / 32),[],[],0,0,0,0,[],[],0,0,0,0,0,0,(dA m).1,(dA m).2.1,(dA m).2.2.1,(dA m).2.2.2.1,(dA m).2.2.2.2,[]⟩ nls nls nls nls)) oN ?_ rfl (fF _ (z _) (z _) (z _) (z _))
  refine gI oW Tryz.func12 Tryz.results12 ?_
  exact wR (aI @pgv (aI @mmF (aI @hil (aI @e (aI @shB (aI @anB @ai)))))) (aI a0 (aI a7 (aI n5 hq))) ah
 ·refine K (o:=⟨6,ae (n / 32),[],[],0,0,0,0,its,df (m:Int),0,0,0,0,0,0,0,[],0,0,0,[]⟩) (r := .agg (opC ⟨6,ae (n / 32),[],[],0,0,0,0,its,df (m:Int),0,0,0,0,0,0,0,[],0,0,0,[]⟩ nls (fzt _) (fzb _) nls)) oN ?_ rfl (fF _ (z _) (y _) (y _) (z _))
  refine gI oW Tryz.func12 Tryz.results12 ?_
  exact wR (aI @pgv (aI @mmF (aI @hil (aI @e (aI @shB (aI @anB (aI @ai (aI @e5 (aI @d5 @m5))))))))) (aI a0 (aI a7 (aI n5 (aI hI hco)))) ah
 ·refine K (o:=⟨6,ae (n / 32),[],[],0,0,0,0,its,df (m:Int),0,0,0,0,0,0,0,[],0,0,0,[]⟩) (r := .agg (opC ⟨6,ae (n / 32),[],[],0,0,0,0,its,df (m:Int),0,0,0,0,0,0,0,[],0,0,0,[]⟩ nls (fzt _) (fzb _) nls)) oN ?_ rfl (fF _ (z _) (y _) (y _) (z _))
  refine gI oW Tryz.func12 Tryz.results12 ?_
  exact wR (aI @pgv (aI @mmF (aI @hil (aI @e (aI @shB (aI @anB (aI @ai (aI @e5 (aI @d5 @m5))))))))) (aI a0 (aI a7 (aI n5 (aI hI hco)))) ah
 ·refine K (o:=⟨6,ae (n / 32),[],[],0,0,0,0,its,df (m:Int),0,0,0,0,0,0,0,[],0,0,0,[]⟩) (r := .agg (opC ⟨6,ae (n / 32),[],[],0,0,0,0,its,df (m:Int),0,0,0,0,0,0,0,[],0,0,0,[]⟩ nls (fzt _) (fzb _) nls)) oN ?_ rfl (fF _ (z _) (y _) (y _) (z _))
  refine gI oW Tryz.func12 Tryz.results12 ?_
  exact wR (aI @pgv (aI @mmF (aI @hil (aI @e (aI @shB (aI @anB (aI @ai (aI @e5 (aI @d5 @m5))))))))) (aI a0 (aI a7 (aI n5 (aI hI hco)))) ah
 ·refine K (o:=⟨7,ae (n / 32),ae (n / 128),[],0,0,0,0,[],df (m:Int),0,0,0,0,0,0,0,[],0,0,0,[]⟩) (r := .agg (opC ⟨7,ae (n / 32),ae (n / 128),[],0,0,0,0,[],df (m:Int),0,0,0,0,0,0,0,[],0,0,0,[]⟩ nls nls (fzb _) nls)) oN ?_ rfl (fF _ (z _) (z _) (y _) (z _))
  refine gI oW Tryz.func12 Tryz.results12 ?_
  exact wR (aI @pgv (aI @mmF (aI @hil (aI @e (aI @shB (aI @anB @ai)))))) (aI a0 (aI a7 (aI n5 (aI n7 hco)))) ah
 ·refine K (o:=⟨8,ae (n / 32),ae (n / 128),[],0,0,0,0,[],df (m:Int),1+((m%8:Nat):Int),1+((m / 8%8:Nat):Int),0,0,0,0,0,[],0,0,0,[]⟩) (r := .agg (opC ⟨8,ae (n / 32),ae (n / 128),[],0,0,0,0,[],df (m:Int),1+((m%8:Nat):Int),1+((m / 8%8:Nat):Int),0,0,0,0,0,[],0,0,0,[]⟩ nls nls (fzb _) nls)) oN ?_ rfl (fF _ (z _) (z _) (y _) (z _))
  refine gI oW Tryz.func12 Tryz.results12 ?_
  exact wR (aI @pgv (aI @mmF (aI @hil (aI @e (aI @shB (aI @anB @ai)))))) (aI a0 (aI a7 (aI n5 (aI n7 hco)))) ah
 ·refine K (o:=⟨9,[],[],[ae (n / 32),ae (n / 128),ae (n / 256)].take (1+n / 1024%2+n / 2048%2),0,0,0,0,[],[],0,0,0,0,0,0,0,[],0,0,0,[]⟩) (r := .agg (opC ⟨9,[],[],[ae (n / 32),ae (n / 128),ae (n / 256)].take (1+n / 1024%2+n / 2048%2),0,0,0,0,[],[],0,0,0,0,0,0,0,[],0,0,0,[]⟩ (fzs _) nls nls nls)) oN ?_ rfl (fF _ (y _) (z _) (z _) (z _))
  refine gI oW Tryz.func12 Tryz.results12 ?_
  exact wR (aI @pgv (aI @mmF (aI @hil (aI @e (aI @shB (aI @anB (aI @ai (aI @t3 (aI @s3 (aI @l3 (aI @i3 @id_eq.{1}))))))))))) (aI a0 (aI a7 (aI n5 (aI n7 n8)))) ah
 ·refine K (o:=⟨9,[],[],[ae (n / 32),ae (n / 128),ae (n / 256)].take (1+n / 1024%2+n / 2048%2),0,0,0,0,[],[],0,0,0,0,0,0,0,[],0,0,0,[]⟩) (r := .agg (opC ⟨9,[],[],[ae (n / 32),ae (n / 128),ae (n / 256)].take (1+n / 1024%2+n / 2048%2),0,0,0,0,[],[],0,0,0,0,0,0,0,[],0,0,0,[]⟩ (fzs _) nls nls nls)) oN ?_ rfl (fF _ (y _) (z _) (z _) (z _))
  refine gI oW Tryz.func12 Tryz.results12 ?_
  exact wR (aI @pgv (aI @mmF (aI @hil (aI @e (aI @shB (aI @anB (aI @ai (aI @t3 (aI @s3 (aI @l3 (aI @i3 @id_eq.{1}))))))))))) (aI a0 (aI a7 (aI n5 (aI n7 n8)))) ah
 ·refine K (o:=⟨10,[],[],[],0,0,0,0,[],[],0,0,((n / 32%2:Nat):Int),((n / 64%2:Nat):Int),0,0,(dA m).1,(dA m).2.1,(dA m).2.2.1,(dA m).2.2.2.1,(dA m).2.2.2.2,[]⟩) (r := .agg (opC ⟨10,[],[],[],0,0,0,0,[],[],0,0,((n / 32%2:Nat):Int),((n / 64%2:Nat):Int),0,0,(dA m).1,(dA m).2.1,(dA m).2.2.1,(dA m).2.2.2.1,(dA m).2.2.2.2,[]⟩ nls nls nls nls)) oN ?_ rfl (fF _ (z _) (z _) (z _) (z _))
  refine gI oW Tryz.func12 Tryz.results12 ?_
  exact wR (aI @pgv (aI @mmF (aI @hil (aI @e (aI @shB (aI @anB @ai)))))) (aI a0 (aI a7 hq)) ah
 ·refine K (o:=⟨11,[],[],[],0,0,0,0,[],[],0,0,((n / 32%2:Nat):Int),0,0,0,0,[],0,0,0,[]⟩) (r := .agg (opC ⟨11,[],[],[],0,0,0,0,[],[],0,0,((n / 32%2:Nat):Int),0,0,0,0,[],0,0,0,[]⟩ nls nls nls nls)) oN ?_ rfl (fF _ (z _) (z _) (z _) (z _))
  refine gI oW Tryz.func12 Tryz.results12 ?_
  exact wR (aI @pgv (aI @mmF (aI @hil (aI @e (aI @shB (aI @anB @ai)))))) (aI a0 a7) ah
 ·refine K (o:=⟨12,[],[],[],0,0,0,0,[],[],0,0,((n / 32%2:Nat):Int),((n / 64%2:Nat):Int),0,0,0,[],0,0,0,[]⟩) (r := .agg (opC ⟨12,[],[],[],0,0,0,0,[],[],0,0,((n / 32%2:Nat):Int),((n / 64%2:Nat):Int),0,0,0,[],0,0,0,[]⟩ nls nls nls nls)) oN ?_ rfl (fF _ (z _) (z _) (z _) (z _))
  refine gI oW Tryz.func12 Tryz.results12 ?_
  exact wR (aI @pgv (aI @mmF (aI @hil (aI @e (aI @shB (aI @anB @ai)))))) (aI a0 a7) ah
 ·refine K (o:=⟨13,[],[],[],0,0,0,0,[],[],0,0,0,0,((n / 32%2:Nat):Int),((n / 64%4:Nat):Int),0,[],0,0,0,[]⟩) (r := .agg (opC ⟨13,[],[],[],0,0,0,0,[],[],0,0,0,0,((n / 32%2:Nat):Int),((n / 64%4:Nat):Int),0,[],0,0,0,[]⟩ nls nls nls nls)) oN ?_ rfl (fF _ (z _) (z _) (z _) (z _))
  refine gI oW Tryz.func12 Tryz.results12 ?_
  exact wR (aI @pgv (aI @mmF (aI @hil (aI @e (aI @shB (aI @anB @ai)))))) (aI a0 a7) ah
 ·refine K (o:=⟨14,[],[],[],0,0,0,0,[],[],0,0,0,0,((n / 32%2:Nat):Int),0,0,[],0,0,0,[]⟩) (r := .agg (opC ⟨14,[],[],[],0,0,0,0,[],[],0,0,0,0,((n / 32%2:Nat):Int),0,0,[],0,0,0,[]⟩ nls nls nls nls)) oN ?_ rfl (fF _ (z _) (z _) (z _) (z _))
  refine gI oW Tryz.func12 Tryz.results12 ?_
  exact wR (aI @pgv (aI @mmF (aI @hil (aI @e (aI @shB (aI @anB @ai)))))) (aI a0 a7) ah
 ·rcases (show n / 32%2=1∨n / 32%2=0 by omega) with hx|hx
  ·refine K (o:=⟨15,[],[],[],0,0,0,0,[],[],0,0,((n / 64%2:Nat):Int),((n / 128%2:Nat):Int),0,0,0,[],0,0,0,[]⟩) (r := .agg (opC ⟨15,[],[],[],0,0,0,0,[],[],0,0,((n / 64%2:Nat):Int),((n / 128%2:Nat):Int),0,0,0,[],0,0,0,[]⟩ nls nls nls nls)) oN ?_ rfl (fF _ (z _) (z _) (z _) (z _))
   refine gI oW Tryz.func12 Tryz.results12 ?_
   exact wR (aI @pgv (aI @mmF (aI @hil (aI @e (aI @shB (aI @anB @ai)))))) (aI a0 a7) ah
  ·refine K (o:=⟨16,ae (n / 64),[],[],0,0,0,0,[],[],0,0,0,0,0,0,0,[],0,0,0,da⟩) (r := .agg (opC ⟨16,ae (n / 64),[],[],0,0,0,0,[],[],0,0,0,0,0,0,0,[],0,0,0,da⟩ nls nls nls (fzb _))) oN ?_ rfl (fF _ (z _) (z _) (z _) (y _))
   refine gI oW Tryz.func12 Tryz.results12 ?_
   exact wR (aI @pgv (aI @mmF (aI @hil (aI @e (aI @shB (aI @anB (aI @ai (aI @e7 (aI @d7 @m7))))))))) (aI a0 (aI a7 (aI n6 (aI hS hE)))) ah
 ·refine K (o:=⟨17,[],[],[],0,0,0,0,[],[],0,0,0,0,0,0,0,[],0,0,0,[]⟩) (r := .agg (opC ⟨17,[],[],[],0,0,0,0,[],[],0,0,0,0,0,0,0,[],0,0,0,[]⟩ nls nls nls nls)) oN ?_ rfl (fF _ (z _) (z _) (z _) (z _))
  refine gI oW Tryz.func12 Tryz.results12 ?_
  exact wR (aI @pgv (aI @mmF (aI @hil (aI @e (aI @shB (aI @anB @ai)))))) (aI a0 a7) ah
def okw(c:Nat):Bool:=decide (33≤c)&&decide (c≤126)&&decide (c≠35)
theorem afU{c:Nat}:okw c=true↔33≤c∧c≤126∧c≠35:=by unfold okw;simp only[Bool.and_eq_true,decide_eq_true_eq,and_assoc]
def Wd(x:List Nat):Prop:=oct x∧x.length≤1000000∧x≠[]∧∀c∈x,okw c=true
def WdL(l:List (List Nat)):Prop:=∀x∈l,Wd x
theorem Wd.no{x:List Nat}(h:Wd x):∀c∈x,c≠32:=fun c hc=>by have:=afU.1 (h.2.2.2 c hc);omega
theorem jK:WdL []:=fun x h=>by cases h
theorem aC{x:List Nat}{l:List (List Nat)}(h:Wd x)(hl:WdL l):WdL (x::l):=fun y hy=>by
 rcases List.mem_cons.1 hy with rfl|hy
 ·exact h
 ·exact hl y hy
theorem af1{x:List Nat}(hl:x.length≤1000000)(hn:x≠[])(h:∀c∈x,okw c=true):Wd x:=⟨fun c hc=>by have:=afU.1 (h c hc);omega,hl,hn,h⟩
theorem jL(x:List Nat)(h:(x.all okw)=true)(hl:x.length≤1000000)(hn:x≠[]:=by decide):Wd x:=af1 hl hn (fun c hc=>List.all_eq_true.1 h c hc)
theorem apU{c:Nat}(h:nmC c=true):okw c=true:=by
 rw[afU]
 unfold nmC bt at h
 simp only[Bool.or_eq_true,Bool.and_eq_true,decide_eq_true_eq,beq_iff_eq] at h
 omega
theorem apV{c:Nat}(h:plC c=true):okw c=true:=by
 rw[afU]
 unfold plC bt mk5 at h
 simp only[Bool.or_eq_true,Bool.and_eq_true,decide_eq_true_eq,Bool.not_eq_true',Bool.and_eq_false_iff,bne_eq_false_iff_eq] at h
 omega
theorem apF{d:Nat}(h:d<16):okw (hx d)=true:=by
 rw[afU]
 rcases yK d h with h|h<;>omega
theorem apW(u:Nat):∀x∈dd u,okw x=true:=by
 intro x hx
 have h:=zV (List.all_eq_true.1 (Gi (u+1) u (by omega)).1 x hx)
 rw[afU];omega
theorem lH{x:List Nat}(ho:oct x)(h:jW x=true):Wd x:=by
 unfold jW at h
 simp only[Bool.and_eq_true,decide_eq_true_eq] at h
 exact af1 (by omega) (by rintro rfl;exact absurd h.1.1.1 (by decide)) (fun c hc=>apU (List.all_eq_true.1 h.2 c hc))
theorem apX(u:Nat):dd u≠[]:=by
 unfold dd Lib.decDigits
 split<;>simp
theorem jb{n:Int}(h:Wt n):Wd (ak n):=by
 refine af1 (by have:=dS h;omega) ?_ ?_
 ·rw[uQ];split
  ·simp
  ·exact apX _
 ·intro c hc
  rw[uQ] at hc
  split at hc
  ·rcases List.mem_cons.1 hc with rfl|hc
   ·decide
   ·exact apW _ c hc
  ·exact apW _ c hc
theorem apG(u i:Nat):∀x∈o8 u i,okw x=true:=by
 induction i with
 | zero=>intro x hx;cases hx
 | succ i ih =>
  intro x hx'
  rcases List.mem_cons.1 hx' with rfl|h
  ·exact apF (Nat.mod_lt _ (by omega))
  ·exact ih x h
theorem apH(u:Nat):1≤nd u:=by rw[nd];split<;>omega
theorem af9(u:Nat)(hu:u<18446744073709551616):Wd (jy u):=af1 (by have:=IK u hu;omega) (by intro h;have h1:=DW u (nd u);have h2:=apH u;unfold jy at h;rw[h] at h1;simp at h1;omega) (apG u _)
theorem aoM(l:List Nat)(ho:oct l):∀x∈jh l,okw x=true:=by
 intro x hx'
 obtain⟨c,hc,h⟩:=List.mem_flatMap.1 hx'
 have hc':=ho c hc
 simp only[List.mem_cons,List.not_mem_nil,or_false] at h
 rcases h with rfl|rfl
 ·exact apF (by omega)
 ·exact apF (by omega)
theorem ahm{k:List Nat}(ho:oct k)(h:fH k=true):Wd (kw k):=by
 obtain⟨h0,hf⟩:=afH h
 have h2:kw k=(fk k).1:=if_pos h0
 refine af1 (by have:=zZ k;omega) ?_ ?_<;>rw[h2]<;>rcases hf with ⟨hf,hp⟩|hf<;>rw[hf]
 ·have:=BP h;intro hk;simp only at hk;rw[hk] at this;exact absurd this.1 (by decide)
 ·simp
 ·intro c hc;exact apV (List.all_eq_true.1 hp c hc)
 ·intro c hc
  rcases List.mem_cons.1 hc with rfl|hc
  ·decide
  ·exact aoM k ho c hc
theorem ajX:fb []=[45]:=rfl
theorem SH{l:List Nat}(ho:oct l)(hl:l.length≤65536):Wd (fb l):=by
 by_cases h:l=[]
 ·rw[h,ajX];exact jL _ (by decide) (by decide)
 ·have hf:fb l=jh l:=if_neg (by intro h1;exact h (List.eq_nil_of_length_eq_zero h1))
  have h3:=lq l
  refine af1 (by have:=uT l;omega) ?_ (by rw[hf];exact aoM l ho)
  rw[hf];intro h4;rw[h4] at h3
  exact h (List.eq_nil_of_length_eq_zero (by simp at h3;omega))
theorem aga(k z d s:Int)(hz:Wt z)(hd:Wt d)(hs:0≤s∧s<18446744073709551616):WdL (qX k z d s):=by
 have h1:=jb hz
 have h2:=jb hd
 have h3:=af9 s.toNat (by omega)
 unfold qX
 (repeat' split)<;>repeat' (first|exact jK|refine aC (jL _ (by decide) (by decide)) ?_|refine aC h1 ?_|refine aC h2 ?_|refine aC h3 ?_)
theorem SI(k:Int)(key:List Nat)(c n d:Int)(ho:oct key)(h:vq k key c n d=0)(hc:Wt c)(hn:Wt n)(hd:Wt d):WdL (lY k key c n d):=by
 have h1:=jb hc
 have h2:=jb hn
 have h3:=jb hd
 have h4:=fun hk=>ahm ho (Ai h hk)
 unfold lY
 (repeat' split)<;>repeat' (first|exact jK|refine aC (jL _ (by decide) (by decide)) ?_|refine aC h1 ?_|refine aC h2 ?_|refine aC h3 ?_|refine aC (h4 (by omega)) ?_)
theorem agb(l:List (List Nat × Int))(h:∀x∈l,oct x.1∧fH x.1=true∧Wt x.2):WdL (lL l):=by
 induction l with
 | nil=>exact jK
 | cons x l ih =>
  have hx:=h x (by simp)
  exact aC (ahm hx.1 hx.2.1) (aC (jb hx.2.2) (ih fun y hy=>h y (by simp [hy])))
theorem Cc{x:List Nat}(h:jW x=true):x.length≤16:=by
 unfold jW at h
 simp only[Bool.and_eq_true,decide_eq_true_eq] at h
 omega
theorem ajY(l:List (List Nat × Int))(h:∀x∈l,Wt x.2):∀x∈lL l,x.length≤100000:=by
 induction l with
 | nil=>intro x hx;cases hx
 | cons y l ih =>
  intro x hx
  have h1:=zZ y.1
  have h2:=dS (h y (by simp))
  rcases List.mem_cons.1 hx with rfl|hx
  ·omega
  ·rcases List.mem_cons.1 hx with rfl|hx
   ·omega
   ·exact ih (fun z hz=>h z (by simp [hz])) x hx
theorem abT(nm co:List Nat)(l:List (List Nat × Int))(hn:jW nm=true)(hc:(co.length:Int)≤64)(h:∀x∈l,Wt x.2):∀x∈nm::fb co::lL l,x.length≤100000:=by
 intro x hx
 have h1:=Cc hn
 have h2:=uT co
 rcases List.mem_cons.1 hx with rfl|hx
 ·omega
 ·rcases List.mem_cons.1 hx with rfl|hx
  ·omega
  ·exact ajY l h x hx
theorem mQ{n a b:Int}(h:bwE n a b=0):a≤n∧n≤b:=by unfold bwE at h;split at h;cases h;omega
theorem oL{l:List Nat}(h:nmE l=0):jW l=true:=by unfold nmE at h;split at h;assumption;cases h
theorem Bd{l:List Nat}{m:Int}(h:shE l m=0):(l.length:Int)≤m:=by unfold shE at h;split at h;cases h;omega
theorem oJ{α:Type}{l:List α}(h:decide (l.length=0)=true):l=[]:=List.eq_nil_of_length_eq_zero (of_decide_eq_true h)
theorem SK(x:List Nat)(l:List (List Nat)):hdW (x::l)=x:=rfl
theorem PW{n:Int}(h : -999999999999≤n∧n≤999999999999):aZ (ak n)=(n,0):=by rw[Vr,if_pos h]
theorem amc{n:Int}(h : -999999999999≤n∧n≤999999999999)(l:List (List Nat)):iE (ak n::l)=false:=by
 unfold iE;rw[SK,PW h];rfl
theorem amd{n:Int}(h : -999999999999≤n∧n≤999999999999):(aZ (ak n)).1=n:=by rw[PW h]
theorem zq{n:Int}(h : -999999999999≤n∧n≤999999999999):(aZ (ak n)).2=0:=by rw[PW h]
theorem ame{k:List Nat}(ho:oct k)(h:fH k=true)(l:List (List Nat)):qW (kw k::l)=false:=by
 unfold qW;rw[SK,(abd ho h).1];rfl
theorem amf{k:List Nat}(ho:oct k)(h:fH k=true):(pk (kw k)).1=k:=by rw[(abd ho h).1]
theorem aop{l:List Nat}(ho:oct l):oH (fb l)=false:=by
 by_cases h:l=[]
 ·rw[h,ajX];rfl
 ·exact (abe ho h).2
theorem amg(n:Nat):byR n (fb [])=nls:=by rw[ajX];rfl
theorem amh{l:List Nat}(ho:oct l)(h:l≠[])(n:Nat):byR n (fb l) = .sl (.own (n+1) 5) 1 (bv l):=by
 unfold byR;rw[(abe ho h).1,if_neg h]
theorem ami(l acc:List (List Nat × Int))(h:∀x∈l,oct x.1∧fH x.1=true∧1≤x.2∧x.2≤4294967295):its acc (lL l) false=(acc++l,[],false):=by
 induction l generalizing acc with
 | nil=>rw[lL,ahf,List.append_nil]
 | cons x l ih =>
  have hx:=h x (by simp)
  have hw : -999999999999≤x.2∧x.2≤999999999999:=by omega
  rw[lL,ahg,ame hx.1 hx.2.1,amc hw,SK,amd hw,amf hx.1 hx.2.1,List.tail_cons]
  show its _ _ (false||false)=_
  rw[show (false||false)=false from rfl,ih _ fun y hy=>h y (by simp [hy])]
  simp
theorem Gy(o:O)(ho:o.Oct)(hv:vop o=0){a b c d:V}(ha:orN a (fzs o.names))(hb:orN b (fzt o.items))(hc:orN c (fzb o.coins))(hd:orN d (fzb o.data)):Gxx 38 [.agg (opC o a b c d)] (vi 0):=by
 have h:=dH o ho
 rw[hv] at h
 exact h.wk ⟨fF o ha hb hc hd,trivial⟩
theorem PX{k z d s:Int}(h:vp k z d s=0):(-999999999999≤z∧z≤999999999999)∧(-999999999999≤d∧d≤999999999999)∧(k=1→z=0)∧(k≠2→d=0)∧(k≠2→k≠3→s=0):=by
 unfold vp at h
 (repeat' split at h)<;>first|(exfalso;omega)|omega
theorem xq{k c n d:Int}{key:List Nat}(h:vq k key c n d=0):(-999999999999≤c∧c≤999999999999)∧(-999999999999≤n∧n≤999999999999)∧(-999999999999≤d∧d≤999999999999)∧(k≠5→c=0)∧(k≠7→n=0∧d=0)∧(k≠2→k≠6→key=[]):=by
 unfold vq at h
 split at h
 ·cases h
 ·split at h
  ·cases h
  ·split at h
   ·cases h
   ·split at h
    ·cases h
    ·split at h
     ·cases h
     ·refine⟨by omega,by omega,by omega,by omega,by omega,fun h1 h2=>List.eq_nil_of_length_eq_zero (by omega)⟩
theorem agc(o:O)(hk:o.kind=6):opW o=qU o:=by simp [opW,hk]
theorem xu(o:O)(hk:o.kind=1):opW o=[99,114,101,97,116,101]::o.name::qX o.pk o.pz o.pd o.ps:=by simp [opW,hk]
theorem agd(o:O)(ok:o.Ok)(hk:o.kind=1)(hv:vop o=0):WdL (opW o):=by
 have c0:chk o 0=0:=(bW hv).2.1 0 (by omega) (by rw[hk];decide)
 have c3:chk o 3=0:=(bW hv).2.1 3 (by omega) (by rw[hk];decide)
 replace c0:=oL c0
 replace c3:vp o.pk o.pz o.pd o.ps=0:=c3
 rw[xu o hk]
 exact aC (jL _ (by decide) (by decide)) (aC (lH ok.oct.1 c0) (aga _ _ _ _ ok.pz ok.pd ok.ps))
theorem abU(o:O)(hk:o.kind=2):opW o=[100,114,111,112]::o.name::[]:=by simp [opW,hk]
theorem age(o:O)(ok:o.Ok)(hk:o.kind=2)(hv:vop o=0):WdL (opW o):=by
 have c0:chk o 0=0:=(bW hv).2.1 0 (by omega) (by rw[hk];decide)
 replace c0:=oL c0
 rw[abU o hk]
 exact aC (jL _ (by decide) (by decide)) (aC (lH ok.oct.1 c0) (jK))
theorem abV(o:O)(hk:o.kind=3):opW o=[114,101,110,97,109,101]::o.name::o.other::[]:=by simp [opW,hk]
theorem agf(o:O)(ok:o.Ok)(hk:o.kind=3)(hv:vop o=0):WdL (opW o):=by
 have c0:chk o 0=0:=(bW hv).2.1 0 (by omega) (by rw[hk];decide)
 have c1:chk o 1=0:=(bW hv).2.1 1 (by omega) (by rw[hk];decide)
 replace c0:=oL c0
 replace c1:=oL c1
 rw[abV o hk]
 exact aC (jL _ (by decide) (by decide)) (aC (lH ok.oct.1 c0) (aC (lH ok.oct.2.1 c1) (jK)))
theorem abW(o:O)(hk:o.kind=4):opW o=[108,105,115,116]::[]:=by simp [opW,hk]
theorem agh(o:O)(ok:o.Ok)(hk:o.kind=4)(hv:vop o=0):WdL (opW o):=by
 rw[abW o hk]
 exact aC (jL _ (by decide) (by decide)) (jK)
theorem vI(o:O)(hk:o.kind=5):opW o=[113,117,101,114,121]::o.name::lY o.qk o.qkey o.qc o.qn o.qd:=by simp [opW,hk]
theorem agi(o:O)(ok:o.Ok)(hk:o.kind=5)(hv:vop o=0):WdL (opW o):=by
 have c0:chk o 0=0:=(bW hv).2.1 0 (by omega) (by rw[hk];decide)
 have c12:chk o 12=0:=(bW hv).2.1 12 (by omega) (by rw[hk];decide)
 replace c0:=oL c0
 replace c12:vq o.qk o.qkey o.qc o.qn o.qd=0:=c12
 rw[vI o hk]
 exact aC (jL _ (by decide) (by decide)) (aC (lH ok.oct.1 c0) (SI _ _ _ _ _ ok.qkey c12 ok.qc ok.qn ok.qd))
theorem abX(o:O)(hk:o.kind=6):opW o=[105,110,115,101,114,116]::o.name::fb o.coins::lL o.items:=by rw[agc o hk];rfl
theorem agj(o:O)(ok:o.Ok)(hk:o.kind=6)(hv:vop o=0):WdL (opW o):=by
 have c0:chk o 0=0:=(bW hv).2.1 0 (by omega) (by rw[hk];decide)
 have c4:chk o 4=0:=(bW hv).2.1 4 (by omega) (by rw[hk];decide)
 have c5:chk o 5=0:=(bW hv).2.1 5 (by omega) (by rw[hk];decide)
 replace c0:=oL c0
 have d4:=IL hk hv
 replace c5:=Bd c5
 rw[abX o hk]
 exact aC (jL _ (by decide) (by decide)) (aC (lH ok.oct.1 c0) (aC (SH ok.oct.2.2.2.2.1 (by omega)) (agb _ (fun x hx=>⟨ok.oct.2.2.2.1 x hx,(d4.2 x hx).1,ok.wts x hx⟩))))
theorem abY(o:O)(hk:o.kind=7):opW o=[109,101,114,103,101]::o.name::o.other::fb o.coins::[]:=by simp [opW,hk]
theorem agk(o:O)(ok:o.Ok)(hk:o.kind=7)(hv:vop o=0):WdL (opW o):=by
 have c0:chk o 0=0:=(bW hv).2.1 0 (by omega) (by rw[hk];decide)
 have c1:chk o 1=0:=(bW hv).2.1 1 (by omega) (by rw[hk];decide)
 have c5:chk o 5=0:=(bW hv).2.1 5 (by omega) (by rw[hk];decide)
 replace c0:=oL c0
 replace c1:=oL c1
 replace c5:=Bd c5
 rw[abY o hk]
 exact aC (jL _ (by decide) (by decide)) (aC (lH ok.oct.1 c0) (aC (lH ok.oct.2.1 c1) (aC (SH ok.oct.2.2.2.2.1 (by omega)) (jK))))
theorem abZ(o:O)(hk:o.kind=8):opW o=[99,111,109,112,97,114,101]::o.name::o.other::fb o.coins::ak o.exp::ak o.src::[]:=by simp [opW,hk]
theorem agl(o:O)(ok:o.Ok)(hk:o.kind=8)(hv:vop o=0):WdL (opW o):=by
 have c0:chk o 0=0:=(bW hv).2.1 0 (by omega) (by rw[hk];decide)
 have c1:chk o 1=0:=(bW hv).2.1 1 (by omega) (by rw[hk];decide)
 have c5:chk o 5=0:=(bW hv).2.1 5 (by omega) (by rw[hk];decide)
 have c6:chk o 6=0:=(bW hv).2.1 6 (by omega) (by rw[hk];decide)
 have c7:chk o 7=0:=(bW hv).2.1 7 (by omega) (by rw[hk];decide)
 replace c0:=oL c0
 replace c1:=oL c1
 replace c5:=Bd c5
 replace c6:=mQ c6
 replace c7:=mQ c7
 rw[abZ o hk]
 exact aC (jL _ (by decide) (by decide)) (aC (lH ok.oct.1 c0) (aC (lH ok.oct.2.1 c1) (aC (SH ok.oct.2.2.2.2.1 (by omega)) (aC (jb ok.exp) (aC (jb ok.src) (jK))))))
theorem ab1(o:O)(hk:o.kind=9):opW o=[111,112,101,110]::o.names:=by simp [opW,hk]
theorem agm(o:O)(ok:o.Ok)(hk:o.kind=9)(hv:vop o=0):WdL (opW o):=by
 have c2:chk o 2=0:=(bW hv).2.1 2 (by omega) (by rw[hk];decide)
 have c2:=(Sl hk hv).2
 rw[ab1 o hk]
 exact aC (jL _ (by decide) (by decide)) ((fun x hx=>lH (ok.oct.2.2.1 x hx) (c2 x hx)))
theorem qN(o:O)(hk:o.kind=10):opW o=[114,101,97,100]::ak o.hnd::ak o.idx::lY o.qk o.qkey o.qc o.qn o.qd:=by simp [opW,hk]
theorem ab2(o:O)(ok:o.Ok)(hk:o.kind=10)(hv:vop o=0):WdL (opW o):=by
 have c8:chk o 8=0:=(bW hv).2.1 8 (by omega) (by rw[hk];decide)
 have c9:chk o 9=0:=(bW hv).2.1 9 (by omega) (by rw[hk];decide)
 have c12:chk o 12=0:=(bW hv).2.1 12 (by omega) (by rw[hk];decide)
 replace c8:=mQ c8
 replace c9:=mQ c9
 replace c12:vq o.qk o.qkey o.qc o.qn o.qd=0:=c12
 rw[qN o hk]
 exact aC (jL _ (by decide) (by decide)) (aC (jb ok.hnd) (aC (jb ok.idx) (SI _ _ _ _ _ ok.qkey c12 ok.qc ok.qn ok.qd)))
theorem SL(o:O)(hk:o.kind=11):opW o=[99,108,111,115,101]::ak o.hnd::[]:=by simp [opW,hk]
theorem ab3(o:O)(ok:o.Ok)(hk:o.kind=11)(hv:vop o=0):WdL (opW o):=by
 have c8:chk o 8=0:=(bW hv).2.1 8 (by omega) (by rw[hk];decide)
 replace c8:=mQ c8
 rw[SL o hk]
 exact aC (jL _ (by decide) (by decide)) (aC (jb ok.hnd) (jK))
theorem SN(o:O)(hk:o.kind=12):opW o=[99,117,114,115,111,114]::ak o.hnd::ak o.idx::[]:=by simp [opW,hk]
theorem ab4(o:O)(ok:o.Ok)(hk:o.kind=12)(hv:vop o=0):WdL (opW o):=by
 have c8:chk o 8=0:=(bW hv).2.1 8 (by omega) (by rw[hk];decide)
 have c9:chk o 9=0:=(bW hv).2.1 9 (by omega) (by rw[hk];decide)
 replace c8:=mQ c8
 replace c9:=mQ c9
 rw[SN o hk]
 exact aC (jL _ (by decide) (by decide)) (aC (jb ok.hnd) (aC (jb ok.idx) (jK)))
theorem SQ(o:O)(hk:o.kind=13):opW o=[110,101,120,116]::ak o.cur::ak o.cnt::[]:=by simp [opW,hk]
theorem ab5(o:O)(ok:o.Ok)(hk:o.kind=13)(hv:vop o=0):WdL (opW o):=by
 have c10:chk o 10=0:=(bW hv).2.1 10 (by omega) (by rw[hk];decide)
 have c11:chk o 11=0:=(bW hv).2.1 11 (by omega) (by rw[hk];decide)
 replace c10:=mQ c10
 replace c11:=mQ c11
 rw[SQ o hk]
 exact aC (jL _ (by decide) (by decide)) (aC (jb ok.cur) (aC (jb ok.cnt) (jK)))
theorem SS(o:O)(hk:o.kind=14):opW o=[101,110,100]::ak o.cur::[]:=by simp [opW,hk]
theorem ab6(o:O)(ok:o.Ok)(hk:o.kind=14)(hv:vop o=0):WdL (opW o):=by
 have c10:chk o 10=0:=(bW hv).2.1 10 (by omega) (by rw[hk];decide)
 replace c10:=mQ c10
 rw[SS o hk]
 exact aC (jL _ (by decide) (by decide)) (aC (jb ok.cur) (jK))
theorem SV(o:O)(hk:o.kind=15):opW o=[101,120,112,111,114,116]::ak o.hnd::ak o.idx::[]:=by simp [opW,hk]
theorem ab7(o:O)(ok:o.Ok)(hk:o.kind=15)(hv:vop o=0):WdL (opW o):=by
 have c8:chk o 8=0:=(bW hv).2.1 8 (by omega) (by rw[hk];decide)
 have c9:chk o 9=0:=(bW hv).2.1 9 (by omega) (by rw[hk];decide)
 replace c8:=mQ c8
 replace c9:=mQ c9
 rw[SV o hk]
 exact aC (jL _ (by decide) (by decide)) (aC (jb ok.hnd) (aC (jb ok.idx) (jK)))
theorem SX(o:O)(hk:o.kind=16):opW o=[105,109,112,111,114,116]::o.name::fb o.data::[]:=by simp [opW,hk]
theorem ab8(o:O)(ok:o.Ok)(hk:o.kind=16)(hv:vop o=0):WdL (opW o):=by
 have c0:chk o 0=0:=(bW hv).2.1 0 (by omega) (by rw[hk];decide)
 have c13:chk o 13=0:=(bW hv).2.1 13 (by omega) (by rw[hk];decide)
 replace c0:=oL c0
 replace c13:=Bd c13
 rw[SX o hk]
 exact aC (jL _ (by decide) (by decide)) (aC (lH ok.oct.1 c0) (aC (SH ok.oct.2.2.2.2.2.2 (by omega)) (jK)))
theorem SY(o:O)(hk:o.kind=17):opW o=[99,111,108,108,101,99,116]::[]:=by simp [opW,hk]
theorem ab9(o:O)(ok:o.Ok)(hk:o.kind=17)(hv:vop o=0):WdL (opW o):=by
 rw[SY o hk]
 exact aC (jL _ (by decide) (by decide)) (jK)
theorem dX(o:O)(ok:o.Ok)(hv:vop o=0):WdL (opW o):=by
 rcases nU (k:=o.kind) (by have:=(bW hv).1;omega) with h|h|h|h|h|h|h|h|h|h|h|h|h|h|h|h|h
 ·exact agd o ok h hv
 ·exact age o ok h hv
 ·exact agf o ok h hv
 ·exact agh o ok h hv
 ·exact agi o ok h hv
 ·exact agj o ok h hv
 ·exact agk o ok h hv
 ·exact agl o ok h hv
 ·exact agm o ok h hv
 ·exact ab2 o ok h hv
 ·exact ab3 o ok h hv
 ·exact ab4 o ok h hv
 ·exact ab5 o ok h hv
 ·exact ab6 o ok h hv
 ·exact ab7 o ok h hv
 ·exact ab8 o ok h hv
 ·exact ab9 o ok h hv
theorem amj{p:Prop}[Decidable p]{a b:List (List Nat)}(h1:a≠[])(h2:b≠[]):(if p then a else b)≠[]:=by split<;>assumption
theorem ajZ(o:O):opW o≠[]:=by unfold opW qU;(repeat' refine amj ?_ ?_)<;>simp
end Go.Proofs.YtjiolbcdfgclaaaGreatDoor
