/-
  Texts of this claim, merged; own names are short.
-/
import Derived.Test.YtjiolbcdfgclaaaGreatDoorWAY
import Derived.Test.YtjiolbcdfgclaaaGreatDoorWAV
import Derived.Test.YtjiolbcdfgclaaaGreatDoorWAQ
import Derived.Test.YtjiolbcdfgclaaaGreatDoorWBE
set_option linter.unusedVariables false
set_option linter.unusedSimpArgs false
set_option linter.unusedSectionVars false
set_option linter.defProp false
set_option maxRecDepth 100000
set_option maxHeartbeats 8000000
namespace Go.Proofs.YtjiolbcdfgclaaaGreatDoor
open Go Go.Pg
def ara:List (List Nat):=[[48],[48,49],[45,49],[49,46,53],[45],[],[116,97,108,108,121],[116,111,112],[116,111,116,97,108],[113,117,97,110,116,105,108,101],[97],[65],[122,122],[48,48],[102],[102,102,102,102,102,102,102,102,102,102,102,102,102,102,102,102],[49,48,48,48,48,48,48,48,48,48,48,48,48,48,48,48,48],[37,52,49],[108,105,115,116],[99,111,108,108,101,99,116]]
theorem ars(e:Nat→V)(b:Nat→Option (TypeId × List V))(n:Nat)(h:Nat→V):bV Tryz.prog ⟨e,b,n,h⟩ 23 20 [(0,V.c (.string ⟨#[48]⟩)),(1,V.c (.string ⟨#[48,49]⟩)),(2,V.c (.string ⟨#[45,49]⟩)),(3,V.c (.string ⟨#[49,46,53]⟩)),(4,V.c (.string ⟨#[45]⟩)),(5,V.c (.string ⟨#[]⟩)),(6,V.c (.string ⟨#[116,97,108,108,121]⟩)),(7,V.c (.string ⟨#[116,111,112]⟩)),(8,V.c (.string ⟨#[116,111,116,97,108]⟩)),(9,V.c (.string ⟨#[113,117,97,110,116,105,108,101]⟩)),(10,V.c (.string ⟨#[97]⟩)),(11,V.c (.string ⟨#[65]⟩)),(12,V.c (.string ⟨#[122,122]⟩)),(13,V.c (.string ⟨#[48,48]⟩)),(14,V.c (.string ⟨#[102]⟩)),(15,V.c (.string ⟨#[102,102,102,102,102,102,102,102,102,102,102,102,102,102,102,102]⟩)),(16,V.c (.string ⟨#[49,48,48,48,48,48,48,48,48,48,48,48,48,48,48,48,48]⟩)),(17,V.c (.string ⟨#[37,52,49]⟩)),(18,V.c (.string ⟨#[108,105,115,116]⟩)),(19,V.c (.string ⟨#[99,111,108,108,101,99,116]⟩))]=some (.sl (.own n 9) 1 (sv ara),⟨e,b,n+1,h⟩):=by
 rw[eG,qQ,Option.bind_some,x8,Option.bind_some,xZ,Option.bind_some]
 rfl
theorem ary(o:List Nat)(e:Nat→V)(b:Nat→Option (TypeId × List V))(n:Nat)(h:Nat→V):bV Tryz.prog ⟨e,b,n,h⟩ 23 1 [(0,vs o)]=some (.sl (.own n 9) 1 (sv [o]),⟨e,b,n+1,h⟩):=by
 rw[eG,qQ,Option.bind_some,x8,Option.bind_some,xZ,Option.bind_some]
 rfl
def arj(o:O):List (List Nat):=if vop o=0 then opW o else [[]]
theorem ark{α:Type}{p:Prop}[Decidable p]{a b:List α}{n:Nat}(h1:a.length≤n)(h2:b.length≤n):(if p then a else b).length≤n:=by split<;>assumption
theorem art(o:O)(hn:o.names.length≤3)(hi:o.items.length≤8):(opW o).length≤1000:=by
 have h1:(qX o.pk o.pz o.pd o.ps).length≤4:=by unfold qX;(repeat' refine ark ?_ ?_)<;>simp
 have h2:(lY o.qk o.qkey o.qc o.qn o.qd).length≤4:=by unfold lY;(repeat' refine ark ?_ ?_)<;>simp
 have h3:=yO o.items
 unfold opW qU
 (repeat' refine ark ?_ ?_)<;>(simp only[List.length_append,List.length_cons,List.length_nil])<;>omega
theorem aru(o:O)(ok:o.Ok)(hn:o.names.length≤3)(hi:o.items.length≤8):(arj o).length≤1000∧0<(arj o).length∧∀x∈arj o,oct x∧x.length≤1000000:=by
 unfold arj
 split
 ·rename_i hv
  refine⟨art o hn hi,List.length_pos_iff.2 (ajZ o),fun x hx => ?_⟩
  have h:=dX o ok hv x hx
  exact⟨h.1,h.2.1⟩
 ·exact⟨by decide,by decide,fun x hx=>by simp only[List.mem_singleton] at hx;subst hx;exact⟨dV,Nat.zero_le _⟩⟩
theorem arA(o:O)(ok:o.Ok):Gxx 16 [vs (fmtO o)] (.sl (.own 0 9) 1 (sv (arj o))):=by
 unfold fmtO arj
 split
 ·rename_i hv
  have h:=aky (jn (opW o)) (acS o ok hv) (aqU o ok hv)
  rw[aqT o ok hv] at h
  exact h
 ·exact aky [] dV (Nat.zero_le _)
structure Twd (W:List (List Nat)) (t:Int) (o:O):Prop where
 g:Gxx 15 [fzs W] (.tup [.agg (opF o),vi t])
 x:Gxx 18 [fzs W] (.tup [.agg (opF o),vi t])
 s:Gxx 17 [.agg (opF o),.agg (opF o)] (vb true)
theorem arb(W:List (List Nat))(hl:W.length≤100000)(hw:∀x∈W,oct x∧x.length≤1000000):∃t o,Twd W t o:=by
 have hb:(pOq W).names.length≤1000000∧(pOq W).items.length≤1000000:=by
  unfold pOq
  split
  ·have:=acC (sd:=sdP) (k:=wix aH (hdW W)) (l:=W.tail)
   simp only[List.length_tail] at this
   omega
  ·exact⟨Nat.zero_le _,Nat.zero_le _⟩
 exact⟨pE W,pOq W,aqE W hl (fun x hx=>(hw x hx).1) (fun x hx=>(hw x hx).2),aqF W hl (fun x hx=>(hw x hx).1) (fun x hx=>(hw x hx).2),afD _ hb.1 hb.2⟩
theorem arp(j:Nat):oct (ara.getD j [])∧(ara.getD j []).length≤1000000:=by
 rcases Nat.lt_or_ge j ara.length with h|h
 ·have hm:=jS ara j [] h
  exact⟨jI _ (List.all_eq_true.1 (show (ara.all fun x=>x.all fun b=>decide (b<256))=true by decide) _ hm),of_decide_eq_true (List.all_eq_true.1 (show (ara.all fun x=>decide (x.length≤1000000))=true by decide) _ hm)⟩
 ·rw[List.getD_eq_getElem?_getD,List.getElem?_eq_none h]
  exact⟨dV,Nat.zero_le _⟩
theorem arB(n:Int):bits .and .i64 n 7=n%8:=jH n 3 (by decide)
theorem arv(n:Int):bits .and .i64 n 255=n%256:=jH n 8 (by decide)
theorem arz(n:Int):bits .and .i64 n 31=n%32:=jH n 5 (by decide)
theorem arh{α:Type}{l:List α}{i:Nat}{a x:α}(h:x∈l.set i a):x∈l∨x=a:=by
 rcases List.mem_or_eq_of_mem_set h with h|h
 ·exact .inl h
 ·exact .inr h
theorem arw{α:Type}{l:List α}{i:Nat}{x:α}(h:x∈l.take i++l.drop (i+1)):x∈l:=by
 rcases List.mem_append.1 h with h|h
 ·exact List.mem_of_mem_take h
 ·exact List.mem_of_mem_drop h
theorem arC(l:List Int)(hl:l.length≤9223372036854775807)(n a:Int)(w:List Nat)(how:oct w):Gxx 4 [fzi l,vi n,vi a,vs w] (vb true):=by
 have hkn:=aft
 by_cases cw:100<w.length
 ·refine gI oW Tryz.func4 Tryz.results4 ?_
  exact wR @ai hkn ah
 have hop:=aoo l 0 hl (by omega)
 obtain⟨bok,bn,bi⟩:=akl l 0
 have hF:=MR (jl l 0) bok
 have hW:=arA (jl l 0) bok
 obtain⟨w1,w2,w3⟩:=aru (jl l 0) bok bn bi
 generalize arj (jl l 0)=W at *
 generalize fmtO (jl l 0)=T at *
 generalize vop (jl l 0)=v at *
 generalize jl l 0=b at *
 have h7:=arB n
 have h255:=arv a
 have h31:bits .and .i64 (n.fdiv (2^min 3 IntKind.i64.bits)) 31=n.fdiv 8%32:=arz (n.fdiv 8)
 have hsl:=au W
 obtain⟨i,hi⟩:∃i:Nat,(a%256).tmod W.length=i:=⟨(a%256).toNat%W.length,by
  obtain⟨q,hq⟩:∃q:Nat,a%256=q:=⟨(a%256).toNat,by omega⟩
  rw[hq]
  rfl⟩
 have hiW:i<W.length:=by
  have h1:=Int.tmod_lt_of_pos (a%256) (show (0:Int)<W.length by omega)
  omega
 obtain⟨j,hj⟩:∃j:Nat,(n.fdiv 8%32).tmod 20=j:=⟨(n.fdiv 8%32).toNat%20,by
  obtain⟨q,hq⟩:∃q:Nat,n.fdiv 8%32=q:=⟨(n.fdiv 8%32).toNat,by omega⟩
  rw[hq]
  rfl⟩
 have hj20:j<20:=by
  have h1:=Int.tmod_lt_of_pos (n.fdiv 8%32) (show (0:Int)<20 by omega)
  omega
 have hol:(sv ara).length=20:=rfl
 have hog:=iK ara j hj20
 obtain⟨oo1,oo2⟩:=arp j
 generalize ara.getD j []=o at *
 have hbs:=ars
 have hb1:=ary o
 generalize sv ara=othV at *
 have ht0:(i:Int).toNat=i:=rfl
 have hgw:=iK W i hiW
 have ht2:(j:Int).toNat=j:=rfl
 have hst:=fun x=>aa2 W i x
 have hap:sv W++sv [o]=sv (W++[o]):=Oa W [o]
 have htk:(sv W).take i=sv (W.take i):=by simp [sv,List.map_take]
 generalize hk:n%8=k at *
 have hk8:0≤k∧k<8:=by omega
 by_cases k0:k=0
 ·subst k0
  obtain⟨t,p,tg,tx,ts⟩:=arb (W.set i o) (by rw[List.length_set];omega) (fun x hx=>by rcases arh hx with h|rfl;exact w3 x h;exact⟨oo1,oo2⟩)
  refine gI oW Tryz.func4 Tryz.results4 ?_
  (repeat' first|refine wP' (aI @hgw (aI @h7 (aI @h255 (aI @h31 (aI @hsl (aI @hi (aI @hj (aI @hol (aI @hog (aI @hbs (aI @hb1 (aI @ht0 (aI @ht2 (aI @hst (aI @id_eq.{1} @beq_self_eq_true.{0}))))))))))))))) (aI hop (aI hF (aI hW (aI hkn (aI tx ts))))) ?_|refine cG [0] tg ?_|refine tS ?_ ?_<;>intro hc|fail)
  all_goals exact rE []
 by_cases k1:k=1
 ·subst k1
  obtain⟨t,p,tg,tx,ts⟩:=arb (W++[o]) (by simp only[List.length_append,List.length_cons,List.length_nil];omega) (fun x hx=>by rcases List.mem_append.1 hx with h|h;exact w3 x h;simp only[List.mem_singleton] at h;subst h;exact⟨oo1,oo2⟩)
  refine gI oW Tryz.func4 Tryz.results4 ?_
  (repeat' first|refine wP' (aI @hgw (aI @h7 (aI @h255 (aI @h31 (aI @hsl (aI @hi (aI @hj (aI @hol (aI @hog (aI @hbs (aI @hb1 (aI @ht0 (aI @ht2 (aI @hap (aI @id_eq.{1} @beq_self_eq_true.{0}))))))))))))))) (aI hop (aI hF (aI hW (aI hkn (aI tx ts))))) ?_|refine cG [0] tg ?_|refine tS ?_ ?_<;>intro hc|fail)
  all_goals exact rE []
 by_cases k2:k=2
 ·subst k2
  obtain⟨t,p,tg,tx,ts⟩:=arb (W.take i) (by rw[List.length_take];omega) (fun x hx=>w3 x (List.mem_of_mem_take hx))
  refine gI oW Tryz.func4 Tryz.results4 ?_
  exact wR' (aI @hgw (aI @h7 (aI @h255 (aI @h31 (aI @hsl (aI @hi (aI @hj (aI @hol (aI @hog (aI @hbs (aI @hb1 (aI @ht0 (aI @ht2 (aI @htk (aI @pgv (aI @id_eq.{1} @beq_self_eq_true.{0})))))))))))))))) (aI hop (aI hF (aI hW (aI hkn (aI tg (aI tx ts)))))) ah
 by_cases k3:k=3
 ·subst k3
  obtain⟨t,p,tg,tx,ts⟩:=arb (W.set i w) (by rw[List.length_set];omega) (fun x hx=>by rcases arh hx with h|rfl;exact w3 x h;exact⟨how,by omega⟩)
  refine gI oW Tryz.func4 Tryz.results4 ?_
  (repeat' first|refine wP' (aI @hgw (aI @h7 (aI @h255 (aI @h31 (aI @hsl (aI @hi (aI @hj (aI @hol (aI @hog (aI @hbs (aI @hb1 (aI @ht0 (aI @ht2 (aI @hst (aI @id_eq.{1} @beq_self_eq_true.{0}))))))))))))))) (aI hop (aI hF (aI hW (aI hkn (aI tx ts))))) ?_|refine cG [0] tg ?_|refine tS ?_ ?_<;>intro hc|fail)
  all_goals exact rE []
 by_cases k4:k=4
 ·subst k4
  obtain⟨t,p,tg,tx,ts⟩:=arb (W.take i++W.drop (i+1)) (by simp only[List.length_append,List.length_take,List.length_drop];omega) (fun x hx=>w3 x (arw hx))
  refine gI (acs mix) Tryz.func4 Tryz.results4 ?_
  (repeat' first|refine wP' (aI @Gz (aI @hgw (aI @h7 (aI @h255 (aI @h31 (aI @hsl (aI @hi (aI @hj (aI @hol (aI @hog (aI @hbs (aI @ht0 (aI @ht2 (aI @id_eq.{1} @beq_self_eq_true.{0})))))))))))))) trivial ?_|refine cU hop ?_|refine cU hF ?_|refine cU hW ?_|refine cU hkn ?_|refine tS ?_ ?_<;>intro hc|fail)
  have hdel:(sv W).take i++(sv W).drop (i+1)=sv (W.take i++W.drop (i+1)):=by rw[←Oa];simp [sv,List.map_take,List.map_drop]
  refine ari mix (t:=23) (ti:=3) (pos := "law.go:91") (f:=11) (i:=12) (d0:=79) (d1:=80) (d2:=81) (d3:=82) (d4:=83) (d5:=84) (d6:=85) (d7:=86) (id:=0) (k:=1) (m:=i) (e:=9) (xs:=sv W) rfl rfl (by rw[hsl];exact hiW) qQ x8 (by decide) (by decide) (by simp (disch:=first|exact dqz|fail) only[pgz,simprocAttr]) ?_
  simp only[arx,delT,adO,hdel]
  (repeat' first|refine wP (aI @Gz (aI @iw (aI @pO (aI @h7 (aI @id_eq.{1} @beq_self_eq_true.{0}))))) (aI hkn (aI tx ts)) ?_|refine cG [0] tg ?_|refine tS ?_ ?_<;>intro hc|fail)
  all_goals exact rE []
 ·obtain⟨t,p,tg,tx,ts⟩:=arb W (by omega) w3
  refine gI oW Tryz.func4 Tryz.results4 ?_
  (repeat' first|refine wP' (aI @hgw (aI @h7 (aI @h255 (aI @h31 (aI @hsl (aI @hi (aI @hj (aI @hol (aI @hog (aI @hbs (aI @hb1 (aI @ht0 (aI @ht2 (aI @id_eq.{1} @beq_self_eq_true.{0})))))))))))))) (aI hop (aI hF (aI hW (aI hkn (aI tx ts))))) ?_|refine cG [0] tg ?_|refine tS ?_ ?_<;>intro hc|fail)
  all_goals exact rE []
end Go.Proofs.YtjiolbcdfgclaaaGreatDoor
