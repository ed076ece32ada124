/-
  Merged texts.
-/
import Derived.Test.YtiohdbjggmmjcaaGreatWAV
import Derived.Test.YtiohdbjggmmjcaaGreatWAR
set_option linter.unusedVariables false
set_option linter.unusedSimpArgs false
set_option linter.unusedSectionVars false
set_option linter.defProp false
set_option maxRecDepth 100000
set_option maxHeartbeats 8000000
namespace Go.Proofs.YtiohdbjggmmjcaaGreat
open Go Go.Pg
theorem Nc{l m:List Nat}{i j:Nat}{t:TypeId}{es es':List (ByteArray × Value)}(h:(l.contains i&&l.idxOf i == j)=true)(hx:es=es'):Gen l m (.mp (.own i t) es) (.mp (.own j t) es'):=by
 simp only[Bool.and_eq_true,beq_iff_eq,List.contains_iff_mem] at h
 subst hx
 refine .inr (.inl ⟨by simp [V.any,Tag.notIn,h.1],by simp [V.map,nz,h.2]⟩)
theorem Ed{a b:ByteArray}:(a == b)=true↔a=b:=by
 obtain⟨a⟩:=a
 obtain⟨b⟩:=b
 show (a == b)=true↔_
 rw[beq_iff_eq]
 exact⟨fun h=>by rw[h],fun h=>by cases h;rfl⟩
def y8(l:List En):Nat→List (ByteArray × Value)
 | 0=>[]
 | n+1=>ng (y8 l n) (sB (l.getD n eD).1) (.bool true)
theorem Js(k a:ByteArray)(v:Value):∀(es:List (ByteArray × Value)) (i:Nat),(o8 (ng es a v) k i).map (·.2)=if (k == a)=true then some v else (o8 es k i).map (·.2)
 | [],i=>by
  show (o8 [(a,v)] k i).map (·.2)=_
  unfold o8
  split<;>rfl
 | (b,u)::es,i=>by
  unfold ng
  by_cases h:(a == b)=true
  ·rw[if_pos h]
   have hb:b=a:=(Ed.1 h).symm
   subst hb
   unfold o8
   by_cases h2:(k == b)=true
   ·rw[if_pos h2,if_pos h2];rfl
   ·rw[if_neg h2,if_neg h2,if_neg h2]
  ·rw[if_neg h]
   unfold o8
   by_cases h2:(k == b)=true
   ·rw[if_pos h2,if_pos h2]
    have hb:k=b:=Ed.1 h2
    subst hb
    have:¬(k == a)=true:=fun e=>h (Ed.2 (Ed.1 e).symm)
    rw[if_neg this]
   ·rw[if_neg h2,if_neg h2]
    exact Js k a v es (i+1)
theorem O0(l:List En)(k:List Nat):bi l k≥0↔∃e∈l,e.1=k:=by
 have:∀(l:List En) (i:Nat),jd k i l≥0↔∃e∈l,e.1=k:=by
  intro l
  induction l with
  | nil=>intro i;simp [jd]
  | cons x l ih =>
   intro i
   unfold jd
   by_cases h:x.1=k
   ·simp [h]
   ·simp only[h,if_false,ih (i+1),List.mem_cons,exists_eq_or_imp,false_or]
 exact this l 0
theorem XM(l:List En)(ho:octE l)(k:List Nat)(hk:oct k):∀n,n≤l.length→xh (y8 l n) (sB k)=if bi (l.take n) k≥0 then some (.bool true) else none:=by
 intro n
 induction n with
 | zero=>intro _;rfl
 | succ n ih =>
  intro hn
  have hox:=fV ho n
  have e1:xh (y8 l (n+1)) (sB k)=if (sB k == sB (l.getD n eD).1)=true then some (.bool true) else xh (y8 l n) (sB k):=Js _ _ _ _ _
  rw[e1,ih (by omega)]
  have e2:(sB k == sB (l.getD n eD).1)=true↔(l.getD n eD).1=k:=by
   constructor
   ·intro h;exact (EZ hk hox (Ed.1 h)).symm
   ·intro h;rw[h];exact Ed.2 rfl
  have e3:bi (l.take (n+1)) k≥0↔((l.getD n eD).1=k∨bi (l.take n) k≥0):=by
   have:l.take (n+1)=l.take n++[l.getD n eD]:=by
    rw[List.take_succ_eq_append_getElem hn];congr 2;simp [List.getD,show n<l.length from hn]
   rw[O0,O0,this]
   simp only[List.mem_append,List.mem_singleton,or_and_right,exists_or,exists_eq_left]
   exact or_comm
  by_cases h1:(l.getD n eD).1=k
  ·rw[if_pos (e2.2 h1),if_pos (e3.2 (.inl h1))]
  ·rw[if_neg (fun h=>h1 (e2.1 h))]
   by_cases h2:bi (l.take n) k≥0
   ·rw[if_pos h2,if_pos (e3.2 (.inr h2))]
   ·rw[if_neg h2,if_neg (fun h=>(e3.1 h).elim h1 h2)]
theorem XN:AL Tryz.prog 169=some (9,4):=by kernel_rfl
theorem abO:kV Tryz.prog 4=some (.bool false):=by kernel_rfl
theorem Jt(x:Tp)(ho:octE x.e)(hn:x.e.length≤1000000):Gxx 75 [.agg (tpF x)] (vi (vTp x)):=by
 obtain⟨z,t,l,b⟩:=x
 simp only at ho hn
 unfold vTp
 simp only
 have hel:=aG l
 by_cases c1:(1≤z∧z≤32)∧(0≤t∧t≤1099511627776)
 ·rw[if_neg (fun h=>h c1)]
  have k1:=Jp z c1.1
  by_cases c2:(l.length:Int) > z
  ·rw[if_pos c2]
   refine gI oW Tryz.func75 Tryz.results75 ?_
   exact wR @aG k1 ay
  ·rw[if_neg c2]
   refine gI oW Tryz.func75 Tryz.results75 ?_
   refine wS (aI @pgp (aI @XN (aI @Option.map_some.{0,0} @aG))) k1 ?_
   generalize hE:lT (pO l) l.length 0=E
   refine df (fun i:Nat=>mkA [(1,.ref 0 0),(3,.mp (.own 0 169) (y8 l i)),(28,fzv l),(29,vi l.length),(30,vi i)] [(0,(34,tpF ⟨z,t,l,b⟩))] 1 (fun _ => .top)) (fun i=>i≤l.length∧lT (pO l) (l.length-i) i=E) (fun i=>l.length-i) 0 [1] [0] ?_ ⟨Nat.zero_le _,hE⟩ ?_
   ·(refine dN ?_ ?_ (gu _ _ _) (by decide) (by decide) (by decide) (by decide);(repeat' (first|exact trivial|refine dI _ _ rfl rfl ?_ ?_));all_goals (try simp only[pgs,pgl,pgx,pgf,pgw,di,dL,dm,dM,qc,iO,fO,pgn,simprocAttr]);all_goals (try (repeat' (first|apply aI)));all_goals (try (first|exact trivial|exact dE (by omega)|exact eH rfl|exact bP rfl rfl|exact jq rfl)))
    all_goals first|exact Nc rfl rfl|skip
   ·rintro i ⟨hi,he⟩
    rcases Nat.lt_or_ge i l.length with hlt|hge
    ·have hg:=eY l i hlt
     have hox:=fV ho i
     rw[show l.length-i=(l.length-(i+1))+1 by omega] at he
     have k3:=xH (l.getD i eD).1
     have k4:=XM l ho (l.getD i eD).1 hox i hi
     have hsm:ng (y8 l i) (sB (l.getD i eD).1) (.bool true)=y8 l (i+1):=rfl
     have et:pO l i=if iQ (l.getD i eD).1=false then 7 else if ¬((1≤(l.getD i eD).2.1∧(l.getD i eD).2.1≤1099511627776)∧(0≤(l.getD i eD).2.2∧(l.getD i eD).2.2≤(l.getD i eD).2.1-1)) then 5 else if bi (l.take i) (l.getD i eD).1≥0 then 9 else if 0<i∧bfE (l.getD (i-1) eD) (l.getD i eD)=false then 19 else 0:=rfl
     generalize hxx:l.getD i eD=x at *
     have hb:=fun y=>x8 y x
     obtain⟨xk,xc,xe⟩:=x
     simp only at hox k3 k4 et hg hb hsm
     generalize y8 l i=M at *
     have ext:∀v:Int,v≠0→pO l i=v→v=E:=fun v h0 h1=>by rw[qp _ _ _ (by omega)] at he;omega
     cases q1:iQ xk
     ·rw[q1] at k3 et
      have:=ext 7 (by omega) (by rw[et];rfl)
      subst this
      exact wR (aI @aG @hg) k3 ay
     ·rw[q1] at k3 et
      rw[if_neg (by simp)] at et
      by_cases q2:(1≤xc∧xc≤1099511627776)∧(0≤xe∧xe≤xc-1)
      ·rw[if_neg (fun h=>h q2)] at et
       by_cases q3:bi (l.take i) xk≥0
       ·rw[if_pos q3] at et k4
        have:=ext 9 (by omega) et
        subst this
        exact wR (aI @pgp (aI @XN (aI @abO (aI @Option.map_some.{0,0} (aI @Option.getD_some.{0} (aI @k4 @hg)))))) k3 ay
       ·rw[if_neg q3] at et k4
        by_cases q4:0<i
        ·have hg1:=eY l (i-1) (by omega)
         have hi1:((i:Int)-1).toNat=i-1:=by omega
         have hb1:=hb (l.getD (i-1) eD)
         have hlt5:=OZ (l.getD (i-1) eD) (xk,xc,xe)
         generalize l.getD (i-1) eD=y at *
         cases q5:bfE y (xk,xc,xe)
         ·rw[if_pos ⟨q4,q5⟩] at et
          rw[q5,decide_eq_false_iff_not] at hlt5
          generalize qV y (xk,xc,xe)=cc at *
          have:=ext 19 (by omega) et
          subst this
          exact wR (aI @pgp (aI @XN (aI @abO (aI @Option.map_some.{0,0} (aI @Option.getD_none.{0} (aI @k4 (aI @hg (aI @hi1 @hg1)))))))) (aI k3 hb1) ay
         ·rw[if_neg (by rw[q5];simp)] at et
          rw[q5,decide_eq_true_eq] at hlt5
          generalize qV y (xk,xc,xe)=cc at *
          rw[jV _ _ _ et] at he
          refine wS (aI @pgp (aI @XN (aI @abO (aI @Option.map_some.{0,0} (aI @Option.getD_none.{0} (aI @k4 (aI @hg (aI @hi1 @hg1)))))))) (aI k3 hb1) ?_
          (refine dh (i+1) [0] [0] (⟨hlt,he⟩) (by first|omega|(simp only[List.length_cons];omega)) ?_;(refine dN ?_ ?_ (gu _ _ _) (by decide) (by decide) (by decide) (by decide);(repeat' (first|exact trivial|refine dI _ _ rfl rfl ?_ ?_));all_goals (try simp only[pgs,pgl,pgx,pgf,pgw,di,dL,dm,dM,qc,iO,fO,pgn,simprocAttr]);all_goals (try (repeat' (first|apply aI)));all_goals (try (first|exact trivial|exact dE (by omega)|exact eH rfl|exact bP rfl rfl|exact jq rfl))))
          all_goals first|exact Nc rfl hsm|exact (show Gen _ _ (fzv l) (fzv l) from of_eq_true (fO _ _ _ _))|skip
        ·rw[if_neg (by omega)] at et
         rw[jV _ _ _ et] at he
         refine wS (aI @pgp (aI @XN (aI @abO (aI @Option.map_some.{0,0} (aI @Option.getD_none.{0} (aI @k4 @hg)))))) k3 ?_
         (refine dh (i+1) [0] [0] (⟨hlt,he⟩) (by first|omega|(simp only[List.length_cons];omega)) ?_;(refine dN ?_ ?_ (gu _ _ _) (by decide) (by decide) (by decide) (by decide);(repeat' (first|exact trivial|refine dI _ _ rfl rfl ?_ ?_));all_goals (try simp only[pgs,pgl,pgx,pgf,pgw,di,dL,dm,dM,qc,iO,fO,pgn,simprocAttr]);all_goals (try (repeat' (first|apply aI)));all_goals (try (first|exact trivial|exact dE (by omega)|exact eH rfl|exact bP rfl rfl|exact jq rfl))))
         all_goals first|exact Nc rfl hsm|exact (show Gen _ _ (fzv l) (fzv l) from of_eq_true (fO _ _ _ _))|skip
      ·rw[if_pos q2] at et
       have:=ext 5 (by omega) et
       subst this
       by_cases q6:1≤xc
       ·by_cases q7:xc≤1099511627776
        ·by_cases q8:0≤xe
         ·have q9:¬xe<xc:=fun h=>q2 ⟨⟨q6,q7⟩,q8,by omega⟩
          exact wR (aI @aG @hg) k3 ay
         ·exact wR (aI @aG @hg) k3 ay
        ·exact wR (aI @aG @hg) k3 ay
       ·exact wR (aI @aG @hg) k3 ay
    ·have:i=l.length:=by omega
     subst this
     rw[Nat.sub_self] at he
     have he0:0=E:=he
     subst he0
     exact wR @aG trivial ay
 ·rw[if_pos c1]
  by_cases c2:1≤z∧z≤32
  ·have k1:=Jp z c2
   by_cases a0:0≤t
   ·refine gI oW Tryz.func75 Tryz.results75 ?_
    exact wR trivial k1 ay
   ·refine gI oW Tryz.func75 Tryz.results75 ?_
    exact wR trivial k1 ay
  ·have k1:=RJ z c2
   refine gI oW Tryz.func75 Tryz.results75 ?_
   exact wR trivial k1 ay
theorem Ju(t:Tl):Gxx 66 [.agg (tlF t)] (vi (vTl t)):=by
 obtain⟨a,b,s⟩:=t
 unfold vTl
 simp only
 by_cases c1:(0≤a∧a≤4294967295)∧(0≤b∧b≤4294967295)∧b≤a
 ·rw[if_pos c1]
  refine gI oW Tryz.func66 Tryz.results66 ?_
  exact wR trivial trivial ay
 ·rw[if_neg c1]
  by_cases h1:0≤a
  ·by_cases h2:a≤4294967295
   ·by_cases h3:0≤b
    ·have h4:¬b≤a:=by omega
     refine gI oW Tryz.func66 Tryz.results66 ?_
     exact wR trivial trivial ay
    ·refine gI oW Tryz.func66 Tryz.results66 ?_
     exact wR trivial trivial ay
   ·refine gI oW Tryz.func66 Tryz.results66 ?_
    exact wR trivial trivial ay
  ·refine gI oW Tryz.func66 Tryz.results66 ?_
   exact wR trivial trivial ay
theorem XO(d z:Int)(h:1≤d∧d≤8∧1≤z∧z≤64):Gxx 133 [vi d,vi z] (vb true):=by
 refine gI oW Tryz.func133 Tryz.results133 ?_
 exact wR trivial trivial ay
theorem Sj(d z:Int)(h:¬(1≤d∧d≤8∧1≤z∧z≤64)):Gxx 133 [vi d,vi z] (vb false):=by
 by_cases h1:1≤d
 ·by_cases h2:d≤8
  ·by_cases h3:1≤z
   ·refine gI oW Tryz.func133 Tryz.results133 ?_
    exact wR trivial trivial ay
   ·refine gI oW Tryz.func133 Tryz.results133 ?_
    exact wR trivial trivial ay
  ·refine gI oW Tryz.func133 Tryz.results133 ?_
   exact wR trivial trivial ay
 ·refine gI oW Tryz.func133 Tryz.results133 ?_
  exact wR trivial trivial ay
theorem ac4(c:Cm):Gxx 68 [.agg (cmF c)] (vi (vCm c)):=by
 obtain⟨d,z,s,l,b⟩:=c
 unfold vCm
 simp only
 have hil:=aZ l
 by_cases c1:1≤d∧d≤8∧1≤z∧z≤64
 ·rw[if_neg (by simpa using c1)]
  have k1:=XO d z c1
  have hm:=xN ⟨c1.1,c1.2.1⟩ c1.2.2
  by_cases c2:(l.length:Int)=d*z
  ·rw[if_neg (by omega)]
   generalize hdz:d*z=dz at *
   refine gI oW Tryz.func68 Tryz.results68 ?_
   refine wS (aI @hdz @aZ) k1 ?_
   refine df (fun i:Nat=>mkA [(21,fzi l),(22,vi l.length),(23,vi i)] [] 1 (fun _ => .top)) (fun i=>i≤l.length∧ku 0 4294967295 (l.take i)=true) (fun i=>l.length-i) 0 [] [] ?_ ⟨Nat.zero_le _,rfl⟩ ?_
   ·exact kE
   ·rintro i ⟨hi,ha⟩
    rcases Nat.lt_or_ge i l.length with hlt|hge
    ·have hg:=kF l i hlt
     have hx:=tZ (a:=0) (b:=4294967295) hlt
     have hn:=qm (a:=0) (b:=4294967295) hlt
     rw[ha] at hn
     generalize l.getD i 0=n at *
     by_cases hc:0≤n∧n≤4294967295
     ·refine wS (aI @aZ @hg) trivial ?_
      exact bE (i+1) [] [] ⟨hlt,by rw[hn,decide_eq_true hc];rfl⟩
     ·rw[hx hc,if_neg (by simp)]
      by_cases hc1:0≤n
      ·exact wR (aI @aZ @hg) trivial ay
      ·exact wR (aI @aZ @hg) trivial ay
    ·have:i=l.length:=by omega
     subst this
     rw[List.take_length] at ha
     rw[ha,if_pos rfl]
     exact wR @aZ trivial ay
  ·rw[if_pos c2]
   generalize hdz:d*z=dz at *
   refine gI oW Tryz.func68 Tryz.results68 ?_
   exact wR (aI @hdz @aZ) k1 ay
 ·rw[if_pos c1]
  have k1:=Sj d z c1
  refine gI oW Tryz.func68 Tryz.results68 ?_
  exact wR trivial k1 ay
theorem Jv(p:Int)(h:2≤p∧p≤8):Gxx 135 [vi p] (vb true):=by
 refine gI oW Tryz.func135 Tryz.results135 ?_
 exact wR trivial trivial ay
theorem Sl(p:Int)(h:¬(2≤p∧p≤8)):Gxx 135 [vi p] (vb false):=by
 by_cases h1:2≤p
 ·refine gI oW Tryz.func135 Tryz.results135 ?_
  exact wR trivial trivial ay
 ·refine gI oW Tryz.func135 Tryz.results135 ?_
  exact wR trivial trivial ay
theorem ac5(x:Ll)(hx:x.r.length≤1000000):Gxx 73 [.agg (llF x)] (vi (vLl x)):=by
 obtain⟨p,s,l⟩:=x
 simp only at hx
 unfold vLl
 simp only
 have hil:=aZ l
 by_cases c1:2≤p∧p≤8
 ·rw[if_neg (by simpa using c1)]
  have k1:=Jv p c1
  obtain⟨hw,hp1,hp2⟩:=qo c1
  by_cases c2:l.length=2^p.toNat
  ·rw[if_neg (by omega)]
   rw[←c2] at hw hp1 hp2
   refine gI oW Tryz.func73 Tryz.results73 ?_
   refine wS (aI @hw @aZ) k1 ?_
   refine df (fun i:Nat=>mkA [(1,.ref 0 0),(17,fzi l),(18,vi l.length),(19,vi i)] [(0,(31,llF ⟨p,s,l⟩))] 1 (fun _ => .top)) (fun i=>i≤l.length∧ku 0 (65-p) (l.take i)=true) (fun i=>l.length-i) 0 [] [0] ?_ ⟨Nat.zero_le _,rfl⟩ ?_
   ·exact kE
   ·rintro i ⟨hi,ha⟩
    rcases Nat.lt_or_ge i l.length with hlt|hge
    ·have hg:=kF l i hlt
     have hx:=tZ (a:=0) (b:=65-p) hlt
     have hn:=qm (a:=0) (b:=65-p) hlt
     rw[ha] at hn
     generalize l.getD i 0=n at *
     by_cases hc:0≤n∧n≤65-p
     ·refine wS (aI @aZ @hg) trivial ?_
      exact bE (i+1) [] [0] ⟨hlt,by rw[hn,decide_eq_true hc];rfl⟩
     ·rw[hx hc,if_neg (by simp)]
      by_cases hc1:0≤n
      ·exact wR (aI @aZ @hg) trivial ay
      ·exact wR (aI @aZ @hg) trivial ay
    ·have:i=l.length:=by omega
     subst this
     rw[List.take_length] at ha
     rw[ha,if_pos rfl]
     exact wR @aZ trivial ay
  ·rw[if_pos c2]
   generalize hq:2^p.toNat=q at *
   refine gI oW Tryz.func73 Tryz.results73 ?_
   exact wR (aI @hw @aZ) k1 ay
 ·rw[if_pos c1]
  have k1:=Sl p c1
  refine gI oW Tryz.func73 Tryz.results73 ?_
  exact wR trivial k1 ay
theorem abP(s:Sk)(ok:s.Ok)(hk:s.p.k=1∨s.p.k=2∨s.p.k=3∨s.p.k=4∨s.p.k=5∨s.p.k=6):Gxx 61 [.agg (skF s)] (vi (oI s)):=by
 have h1:=Ju s.tl
 have h2:=ac4 s.cm
 have h3:=ac5 s.ll ok.ln
 have h4:=Jt s.tp ok.to ok.tn
 have h5:=Ec s.fq ok.fo ok.fn
 have h6:=ac3 s.rk ok.ro ok.rn ok.rm
 have e:oI s=if s.p.k=1 then vTl s.tl else if s.p.k=2 then vCm s.cm else if s.p.k=3 then vLl s.ll else if s.p.k=4 then vTp s.tp else if s.p.k=5 then vFq s.fq else vRk s.rk:=rfl
 generalize oI s=r at *
 generalize vTl s.tl=r1 at *
 generalize vCm s.cm=r2 at *
 generalize vLl s.ll=r3 at *
 generalize vTp s.tp=r4 at *
 generalize vFq s.fq=r5 at *
 generalize vRk s.rk=r6 at *
 clear ok
 obtain⟨⟨pk,pz,pd,ps⟩,⟨t1,t2,t3⟩,⟨c1,c2,c3,c4,c5⟩,⟨l1,l2,l3⟩,⟨e1,e2,e3,e4⟩,⟨f1,f2,f3,f4,f5⟩,⟨q1,q2,q3,q4,q5⟩⟩:=s
 simp only at *
 rcases hk with rfl|rfl|rfl|rfl|rfl|rfl
 ·obtain rfl:r=r1:=e
  refine gI oW Tryz.func61 Tryz.results61 ?_
  exact wR trivial h1 ay
 ·obtain rfl:r=r2:=e
  refine gI oW Tryz.func61 Tryz.results61 ?_
  exact wR trivial h2 ay
 ·obtain rfl:r=r3:=e
  refine gI oW Tryz.func61 Tryz.results61 ?_
  exact wR trivial h3 ay
 ·obtain rfl:r=r4:=e
  refine gI oW Tryz.func61 Tryz.results61 ?_
  exact wR trivial h4 ay
 ·obtain rfl:r=r5:=e
  refine gI oW Tryz.func61 Tryz.results61 ?_
  exact wR trivial h5 ay
 ·obtain rfl:r=r6:=e
  refine gI oW Tryz.func61 Tryz.results61 ?_
  exact wR trivial h6 ay
def Sm(s:Sk):Pm:=⟨s.p.k,if s.p.k=2 then s.cm.z else if s.p.k=3 then s.ll.p else if s.p.k=4 then s.tp.z else if s.p.k=5 then s.fq.z else if s.p.k=6 then s.rk.z else 0,
 if s.p.k=2 then s.cm.d else 0,if s.p.k=2 then s.cm.s else if s.p.k=3 then s.ll.s else 0⟩
theorem XP(s:Sk)(hk:s.p.k=1∨s.p.k=2∨s.p.k=3∨s.p.k=4∨s.p.k=5∨s.p.k=6):Gxx 62 [.agg (skF s)] (.agg (pmF (Sm s))):=by
 obtain⟨⟨pk,pz,pd,ps⟩,⟨t1,t2,t3⟩,⟨c1,c2,c3,c4,c5⟩,⟨l1,l2,l3⟩,⟨e1,e2,e3,e4⟩,⟨f1,f2,f3,f4,f5⟩,⟨q1,q2,q3,q4,q5⟩⟩:=s
 unfold Sm
 simp only at *
 rcases hk with rfl|rfl|rfl|rfl|rfl|rfl
 ·refine gI oG Tryz.func62 Tryz.results62 ?_
  exact wRG trivial trivial ay
 ·refine gI oG Tryz.func62 Tryz.results62 ?_
  exact wRG trivial trivial ay
 ·refine gI oG Tryz.func62 Tryz.results62 ?_
  exact wRG trivial trivial ay
 ·refine gI oG Tryz.func62 Tryz.results62 ?_
  exact wRG trivial trivial ay
 ·refine gI oG Tryz.func62 Tryz.results62 ?_
  exact wRG trivial trivial ay
 ·refine gI oG Tryz.func62 Tryz.results62 ?_
  exact wRG trivial trivial ay
theorem abQ(s:Sk)(h:vp s.p.k s.p.z s.p.d s.p.s=0):samP (Sm s) s.p↔parP s:=by
 have hk:=Jd h
 obtain⟨⟨pk,pz,pd,ps⟩,⟨t1,t2,t3⟩,⟨c1,c2,c3,c4,c5⟩,⟨l1,l2,l3⟩,⟨e1,e2,e3,e4⟩,⟨f1,f2,f3,f4,f5⟩,⟨q1,q2,q3,q4,q5⟩⟩:=s
 unfold vp at h
 simp only at *
 rcases hk with rfl|rfl|rfl|rfl|rfl|rfl
 all_goals
  simp only[samP,Sm,parP] at *
  simp at h ⊢
  try omega
theorem Sr(s:Sk)(hk:s.p.k=1)(ok:s.Ok):Gxx 63 [.agg (skF s)] (vb (fH s (aN s))):=by
 have b1:=ok.cn
 have b2:=ok.ln
 have b3:=ok.tn
 have b4:=ok.fn
 have b5:=ok.rn
 clear ok
 obtain⟨⟨pk,pz,pd,ps⟩,⟨t1,t2,t3⟩,⟨c1,c2,c3,c4,c5⟩,⟨l1,l2,l3⟩,⟨e1,e2,e3,e4⟩,⟨f1,f2,f3,f4,f5⟩,⟨q1,q2,q3,q4,q5⟩⟩:=s
 simp only at *
 subst hk
 have e0:fH ⟨⟨1,pz,pd,ps⟩,⟨t1,t2,t3⟩,⟨c1,c2,c3,c4,c5⟩,⟨l1,l2,l3⟩,⟨e1,e2,e3,e4⟩,⟨f1,f2,f3,f4,f5⟩,⟨q1,q2,q3,q4,q5⟩⟩ (aN ⟨⟨1,pz,pd,ps⟩,⟨t1,t2,t3⟩,⟨c1,c2,c3,c4,c5⟩,⟨l1,l2,l3⟩,⟨e1,e2,e3,e4⟩,⟨f1,f2,f3,f4,f5⟩,⟨q1,q2,q3,q4,q5⟩⟩)=decide (c1=0∧c2=0∧c3=0∧c4.length=0∧c5=false∧l1=0∧l2=0∧l3.length=0∧e1=0∧e2=0∧e3.length=0∧e4=false∧f1=0∧f2=0∧f3=0∧f4.length=0∧f5=false∧q1=0∧q2=0∧q3=0∧q4.length=0∧q5=false):=by
  rw[Bool.eq_iff_iff]
  simp [fH,aN,samP,samT,qM,qN,qO,qP,qQ,Tl.o,Cm.o,Ll.o,Tp.o,Fq.o,Rk.o,and_assoc,and_comm,and_left_comm]
 rw[e0]
 clear e0
 refine gI oD Tryz.func63 Tryz.results63 ?_
 (repeat' first|refine wPA (aI @aG (aI @aZ (aI @fD (aI @beq_self_eq_true.{0} (aI @Bool.and_self (aI @List.append_eq.{0} (aI @List.cons_append.{0} @List.nil_append.{0}))))))) trivial ?_|refine tS ?_ ?_<;>intro hc|fail)
 all_goals (refine rT [] ?_;first|rfl|skip)
 all_goals (simp only[pgo,simprocAttr];first|rfl|simp_all)
theorem Su(s:Sk)(hk:s.p.k=2)(ok:s.Ok):Gxx 63 [.agg (skF s)] (vb (fH s (aN s))):=by
 have b1:=ok.cn
 have b2:=ok.ln
 have b3:=ok.tn
 have b4:=ok.fn
 have b5:=ok.rn
 clear ok
 obtain⟨⟨pk,pz,pd,ps⟩,⟨t1,t2,t3⟩,⟨c1,c2,c3,c4,c5⟩,⟨l1,l2,l3⟩,⟨e1,e2,e3,e4⟩,⟨f1,f2,f3,f4,f5⟩,⟨q1,q2,q3,q4,q5⟩⟩:=s
 simp only at *
 subst hk
 have e0:fH ⟨⟨2,pz,pd,ps⟩,⟨t1,t2,t3⟩,⟨c1,c2,c3,c4,c5⟩,⟨l1,l2,l3⟩,⟨e1,e2,e3,e4⟩,⟨f1,f2,f3,f4,f5⟩,⟨q1,q2,q3,q4,q5⟩⟩ (aN ⟨⟨2,pz,pd,ps⟩,⟨t1,t2,t3⟩,⟨c1,c2,c3,c4,c5⟩,⟨l1,l2,l3⟩,⟨e1,e2,e3,e4⟩,⟨f1,f2,f3,f4,f5⟩,⟨q1,q2,q3,q4,q5⟩⟩)=decide (t1=0∧t2=0∧t3=false∧l1=0∧l2=0∧l3.length=0∧e1=0∧e2=0∧e3.length=0∧e4=false∧f1=0∧f2=0∧f3=0∧f4.length=0∧f5=false∧q1=0∧q2=0∧q3=0∧q4.length=0∧q5=false):=by
  rw[Bool.eq_iff_iff]
  simp [fH,aN,samP,samT,qM,qN,qO,qP,qQ,Tl.o,Cm.o,Ll.o,Tp.o,Fq.o,Rk.o,and_assoc,and_comm,and_left_comm]
 rw[e0]
 clear e0
 refine gI oD Tryz.func63 Tryz.results63 ?_
 (repeat' first|refine wPA (aI @aG (aI @aZ (aI @fD (aI @beq_self_eq_true.{0} (aI @Bool.and_self (aI @List.append_eq.{0} (aI @List.cons_append.{0} @List.nil_append.{0}))))))) trivial ?_|refine tS ?_ ?_<;>intro hc|fail)
 all_goals (refine rT [] ?_;first|rfl|skip)
 all_goals (simp only[pgo,simprocAttr];first|rfl|simp_all)
theorem Sv(s:Sk)(hk:s.p.k=3)(ok:s.Ok):Gxx 63 [.agg (skF s)] (vb (fH s (aN s))):=by
 have b1:=ok.cn
 have b2:=ok.ln
 have b3:=ok.tn
 have b4:=ok.fn
 have b5:=ok.rn
 clear ok
 obtain⟨⟨pk,pz,pd,ps⟩,⟨t1,t2,t3⟩,⟨c1,c2,c3,c4,c5⟩,⟨l1,l2,l3⟩,⟨e1,e2,e3,e4⟩,⟨f1,f2,f3,f4,f5⟩,⟨q1,q2,q3,q4,q5⟩⟩:=s
 simp only at *
 subst hk
 have e0:fH ⟨⟨3,pz,pd,ps⟩,⟨t1,t2,t3⟩,⟨c1,c2,c3,c4,c5⟩,⟨l1,l2,l3⟩,⟨e1,e2,e3,e4⟩,⟨f1,f2,f3,f4,f5⟩,⟨q1,q2,q3,q4,q5⟩⟩ (aN ⟨⟨3,pz,pd,ps⟩,⟨t1,t2,t3⟩,⟨c1,c2,c3,c4,c5⟩,⟨l1,l2,l3⟩,⟨e1,e2,e3,e4⟩,⟨f1,f2,f3,f4,f5⟩,⟨q1,q2,q3,q4,q5⟩⟩)=decide (t1=0∧t2=0∧t3=false∧c1=0∧c2=0∧c3=0∧c4.length=0∧c5=false∧e1=0∧e2=0∧e3.length=0∧e4=false∧f1=0∧f2=0∧f3=0∧f4.length=0∧f5=false∧q1=0∧q2=0∧q3=0∧q4.length=0∧q5=false):=by
  rw[Bool.eq_iff_iff]
  simp [fH,aN,samP,samT,qM,qN,qO,qP,qQ,Tl.o,Cm.o,Ll.o,Tp.o,Fq.o,Rk.o,and_assoc,and_comm,and_left_comm]
 rw[e0]
 clear e0
 refine gI oD Tryz.func63 Tryz.results63 ?_
 (repeat' first|refine wPA (aI @aG (aI @aZ (aI @fD (aI @beq_self_eq_true.{0} (aI @Bool.and_self (aI @List.append_eq.{0} (aI @List.cons_append.{0} @List.nil_append.{0}))))))) trivial ?_|refine tS ?_ ?_<;>intro hc|fail)
 all_goals (refine rT [] ?_;first|rfl|skip)
 all_goals (simp only[pgo,simprocAttr];first|rfl|simp_all)
theorem Sz(s:Sk)(hk:s.p.k=4)(ok:s.Ok):Gxx 63 [.agg (skF s)] (vb (fH s (aN s))):=by
 have b1:=ok.cn
 have b2:=ok.ln
 have b3:=ok.tn
 have b4:=ok.fn
 have b5:=ok.rn
 clear ok
 obtain⟨⟨pk,pz,pd,ps⟩,⟨t1,t2,t3⟩,⟨c1,c2,c3,c4,c5⟩,⟨l1,l2,l3⟩,⟨e1,e2,e3,e4⟩,⟨f1,f2,f3,f4,f5⟩,⟨q1,q2,q3,q4,q5⟩⟩:=s
 simp only at *
 subst hk
 have e0:fH ⟨⟨4,pz,pd,ps⟩,⟨t1,t2,t3⟩,⟨c1,c2,c3,c4,c5⟩,⟨l1,l2,l3⟩,⟨e1,e2,e3,e4⟩,⟨f1,f2,f3,f4,f5⟩,⟨q1,q2,q3,q4,q5⟩⟩ (aN ⟨⟨4,pz,pd,ps⟩,⟨t1,t2,t3⟩,⟨c1,c2,c3,c4,c5⟩,⟨l1,l2,l3⟩,⟨e1,e2,e3,e4⟩,⟨f1,f2,f3,f4,f5⟩,⟨q1,q2,q3,q4,q5⟩⟩)=decide (t1=0∧t2=0∧t3=false∧c1=0∧c2=0∧c3=0∧c4.length=0∧c5=false∧l1=0∧l2=0∧l3.length=0∧f1=0∧f2=0∧f3=0∧f4.length=0∧f5=false∧q1=0∧q2=0∧q3=0∧q4.length=0∧q5=false):=by
  rw[Bool.eq_iff_iff]
  simp [fH,aN,samP,samT,qM,qN,qO,qP,qQ,Tl.o,Cm.o,Ll.o,Tp.o,Fq.o,Rk.o,and_assoc,and_comm,and_left_comm]
 rw[e0]
 clear e0
 refine gI oD Tryz.func63 Tryz.results63 ?_
 (repeat' first|refine wPA (aI @aG (aI @aZ (aI @fD (aI @beq_self_eq_true.{0} (aI @Bool.and_self (aI @List.append_eq.{0} (aI @List.cons_append.{0} @List.nil_append.{0}))))))) trivial ?_|refine tS ?_ ?_<;>intro hc|fail)
 all_goals (refine rT [] ?_;first|rfl|skip)
 all_goals (simp only[pgo,simprocAttr];first|rfl|simp_all)
theorem SA(s:Sk)(hk:s.p.k=5)(ok:s.Ok):Gxx 63 [.agg (skF s)] (vb (fH s (aN s))):=by
 have b1:=ok.cn
 have b2:=ok.ln
 have b3:=ok.tn
 have b4:=ok.fn
 have b5:=ok.rn
 clear ok
 obtain⟨⟨pk,pz,pd,ps⟩,⟨t1,t2,t3⟩,⟨c1,c2,c3,c4,c5⟩,⟨l1,l2,l3⟩,⟨e1,e2,e3,e4⟩,⟨f1,f2,f3,f4,f5⟩,⟨q1,q2,q3,q4,q5⟩⟩:=s
 simp only at *
 subst hk
 have e0:fH ⟨⟨5,pz,pd,ps⟩,⟨t1,t2,t3⟩,⟨c1,c2,c3,c4,c5⟩,⟨l1,l2,l3⟩,⟨e1,e2,e3,e4⟩,⟨f1,f2,f3,f4,f5⟩,⟨q1,q2,q3,q4,q5⟩⟩ (aN ⟨⟨5,pz,pd,ps⟩,⟨t1,t2,t3⟩,⟨c1,c2,c3,c4,c5⟩,⟨l1,l2,l3⟩,⟨e1,e2,e3,e4⟩,⟨f1,f2,f3,f4,f5⟩,⟨q1,q2,q3,q4,q5⟩⟩)=decide (t1=0∧t2=0∧t3=false∧c1=0∧c2=0∧c3=0∧c4.length=0∧c5=false∧l1=0∧l2=0∧l3.length=0∧e1=0∧e2=0∧e3.length=0∧e4=false∧q1=0∧q2=0∧q3=0∧q4.length=0∧q5=false):=by
  rw[Bool.eq_iff_iff]
  simp [fH,aN,samP,samT,qM,qN,qO,qP,qQ,Tl.o,Cm.o,Ll.o,Tp.o,Fq.o,Rk.o,and_assoc,and_comm,and_left_comm]
 rw[e0]
 clear e0
 refine gI oD Tryz.func63 Tryz.results63 ?_
 (repeat' first|refine wPA (aI @aG (aI @aZ (aI @fD (aI @beq_self_eq_true.{0} (aI @Bool.and_self (aI @List.append_eq.{0} (aI @List.cons_append.{0} @List.nil_append.{0}))))))) trivial ?_|refine tS ?_ ?_<;>intro hc|fail)
 all_goals (refine rT [] ?_;first|rfl|skip)
 all_goals (simp only[pgo,simprocAttr];first|rfl|simp_all)
theorem SB(s:Sk)(hk:s.p.k=6)(ok:s.Ok):Gxx 63 [.agg (skF s)] (vb (fH s (aN s))):=by
 have b1:=ok.cn
 have b2:=ok.ln
 have b3:=ok.tn
 have b4:=ok.fn
 have b5:=ok.rn
 clear ok
 obtain⟨⟨pk,pz,pd,ps⟩,⟨t1,t2,t3⟩,⟨c1,c2,c3,c4,c5⟩,⟨l1,l2,l3⟩,⟨e1,e2,e3,e4⟩,⟨f1,f2,f3,f4,f5⟩,⟨q1,q2,q3,q4,q5⟩⟩:=s
 simp only at *
 subst hk
 have e0:fH ⟨⟨6,pz,pd,ps⟩,⟨t1,t2,t3⟩,⟨c1,c2,c3,c4,c5⟩,⟨l1,l2,l3⟩,⟨e1,e2,e3,e4⟩,⟨f1,f2,f3,f4,f5⟩,⟨q1,q2,q3,q4,q5⟩⟩ (aN ⟨⟨6,pz,pd,ps⟩,⟨t1,t2,t3⟩,⟨c1,c2,c3,c4,c5⟩,⟨l1,l2,l3⟩,⟨e1,e2,e3,e4⟩,⟨f1,f2,f3,f4,f5⟩,⟨q1,q2,q3,q4,q5⟩⟩)=decide (t1=0∧t2=0∧t3=false∧c1=0∧c2=0∧c3=0∧c4.length=0∧c5=false∧l1=0∧l2=0∧l3.length=0∧e1=0∧e2=0∧e3.length=0∧e4=false∧f1=0∧f2=0∧f3=0∧f4.length=0∧f5=false):=by
  rw[Bool.eq_iff_iff]
  simp [fH,aN,samP,samT,qM,qN,qO,qP,qQ,Tl.o,Cm.o,Ll.o,Tp.o,Fq.o,Rk.o,and_assoc,and_comm,and_left_comm]
 rw[e0]
 clear e0
 refine gI oD Tryz.func63 Tryz.results63 ?_
 (repeat' first|refine wPA (aI @aG (aI @aZ (aI @fD (aI @beq_self_eq_true.{0} (aI @Bool.and_self (aI @List.append_eq.{0} (aI @List.cons_append.{0} @List.nil_append.{0}))))))) trivial ?_|refine tS ?_ ?_<;>intro hc|fail)
 all_goals (refine rT [] ?_;first|rfl|skip)
 all_goals (simp only[pgo,simprocAttr];first|rfl|simp_all)
theorem XQ(s:Sk)(ok:s.Ok)(hk:s.p.k=1∨s.p.k=2∨s.p.k=3∨s.p.k=4∨s.p.k=5∨s.p.k=6):Gxx 63 [.agg (skF s)] (vb (fH s (aN s))):=by
 rcases hk with hk|hk|hk|hk|hk|hk
 ·exact Sr s hk ok
 ·exact Su s hk ok
 ·exact Sv s hk ok
 ·exact Sz s hk ok
 ·exact SA s hk ok
 ·exact SB s hk ok
theorem jo(s:Sk)(ok:s.Ok):Gxx 20 [.agg (skF s)] (vi (vSk s)):=by
 have h1:=lC s.p.k s.p.z s.p.d s.p.s
 have e:vSk s=if vp s.p.k s.p.z s.p.d s.p.s≠0 then vp s.p.k s.p.z s.p.d s.p.s else if oI s≠0 then oI s else if parP s then (if fH s (aN s)=true then 0 else 18) else 18:=rfl
 by_cases h:vp s.p.k s.p.z s.p.d s.p.s=0
 ·rw[if_neg (by omega)] at e
  have hk:=Jd h
  have hp:=abQ s h
  have h2:=abP s ok hk
  have h3:=XP s hk
  have h4:=XQ s ok hk
  have hE:=ac2 (Sm s) s.p
  rw[h] at h1
  generalize vSk s=r at *
  generalize oI s=v at *
  by_cases c1:v=0
  ·subst c1
   rw[if_neg (by omega)] at e
   generalize Sm s=q at *
   by_cases c2:parP s
   ·rw[if_pos c2] at e
    rw[decide_eq_true (hp.2 c2)] at hE
    generalize fH s (aN s)=o at *
    clear hp c2 ok h
    obtain⟨⟨pk,pz,pd,ps⟩,⟨t1,t2,t3⟩,⟨c1,c2,c3,c4,c5⟩,⟨l1,l2,l3⟩,⟨e1,e2,e3,e4⟩,⟨f1,f2,f3,f4,f5⟩,⟨q1,q2,q3,q4,q5⟩⟩:=s
    obtain⟨qk,qz,qd,qs⟩:=q
    simp only at *
    cases o
    ·obtain rfl:r=18:=e
     refine gI oW Tryz.func20 Tryz.results20 ?_
     exact wR @hE (aI h1 (aI h2 (aI h3 h4))) ay
    ·obtain rfl:r=0:=e
     refine gI oW Tryz.func20 Tryz.results20 ?_
     exact wR @hE (aI h1 (aI h2 (aI h3 h4))) ay
   ·rw[if_neg c2] at e
    rw[decide_eq_false (fun x=>c2 (hp.1 x))] at hE
    clear hp c2 ok h
    obtain⟨⟨pk,pz,pd,ps⟩,⟨t1,t2,t3⟩,⟨c1,c2,c3,c4,c5⟩,⟨l1,l2,l3⟩,⟨e1,e2,e3,e4⟩,⟨f1,f2,f3,f4,f5⟩,⟨q1,q2,q3,q4,q5⟩⟩:=s
    obtain⟨qk,qz,qd,qs⟩:=q
    simp only at *
    subst e
    refine gI oW Tryz.func20 Tryz.results20 ?_
    exact wR @hE (aI h1 (aI h2 h3)) ay
  ·rw[if_pos c1] at e
   subst e
   refine gI oW Tryz.func20 Tryz.results20 ?_
   exact wR trivial (aI h1 h2) ay
 ·rw[if_pos h] at e
  generalize vp s.p.k s.p.z s.p.d s.p.s=v at *
  rw[e]
  refine gI oW Tryz.func20 Tryz.results20 ?_
  exact wR trivial h1 ay
theorem BV(a b m:Int)(hm:m≤4611686018427387904)(ha:W64 a)(hb:W64 b):Gxx 72 [vi a,vi b,vi m] (.tup [vi (lw a b m).1,vb (lw a b m).2]):=by
 have h1:=jJ a
 have h2:=jJ b
 have h3:=jJ m
 obtain⟨a0,a1⟩:=ha
 obtain⟨b0,b1⟩:=hb
 have e:lw a b m=if iI a > iI m∨iI b > iI m-iI a then (iI m,true) else (iI a+iI b,false):=rfl
 by_cases c1:iI m<iI a+iI b
 ·rw[if_pos (by omega)] at e
  rw[e]
  refine gI oW Tryz.func72 Tryz.results72 ?_
  exact wR (aI @mmT @aeD) trivial ay
 ·rw[if_neg (by omega)] at e
  rw[e]
  refine gI oW Tryz.func72 Tryz.results72 ?_
  exact wR (aI @mmT @aeD) trivial ay
theorem aeL(t:Tl)(n i:Int)(h1:W64 t.t)(h2:W64 t.i)(h3:W64 n)(h4:W64 i):Gxx 67 [.agg (tlF t),vi n,vi i] (.agg (tlF (Bz t ⟨n,i,false⟩))):=by
 obtain⟨a1,a2,a3⟩:=t
 simp only at h1 h2
 unfold Bz
 simp only
 have k1:=BV a1 n 4294967295 (by decide) h1 h3
 have k2:=BV a2 i 4294967295 (by decide) h2 h4
 generalize lw a1 n 4294967295=x at *
 generalize lw a2 i 4294967295=y at *
 obtain⟨x1,x2⟩:=x
 obtain⟨y1,y2⟩:=y
 simp only at k1 k2 ⊢
 refine gI oW Tryz.func67 Tryz.results67 ?_
 cases a3<;>cases x2<;>cases y2
 all_goals
  exact wR trivial (aI k1 k2) ay
theorem O1(t:Tl)(k:List Nat)(w:Int):Gxx 25 [.agg (tlF t),.agg [vs k,vi w]] (.tup [.agg (tlF (rV t k w).1),vi (rV t k w).2]):=by
 have h1:=Ju t
 have h2:=bz k w
 unfold rV
 by_cases c1:vTl t=0
 ·rw[if_neg (by omega)]
  rw[c1] at h1
  by_cases c2:bT k w=0
  ·rw[if_neg (by omega)]
   rw[c2] at h2
   have h3:=aeL t w 1 (FB c1).1 (FB c1).2 (show W64 w from by have:=fU c2;unfold W64;omega) (show W64 1 from ⟨by decide,by decide⟩)
   generalize Bz t ⟨w,1,false⟩=r at *
   refine gI oW Tryz.func25 Tryz.results25 ?_
   exact wR trivial (aI h1 (aI h2 h3)) ay
  ·rw[if_pos (by omega)]
   refine gI oW Tryz.func25 Tryz.results25 ?_
   exact wR trivial (aI h1 h2) ay
 ·rw[if_pos (by omega)]
  refine gI oW Tryz.func25 Tryz.results25 ?_
  exact wR trivial h1 ay
theorem abR:Gxx 116 [] (.agg (tlF Tl.o)):=by
 refine gI oW Tryz.func116 Tryz.results116 ?_
 exact wR trivial trivial ay
theorem abS(n:Int):Gxx 24 [vi n] (vb (decide (0≤n∧n≤1073741824))):=by
 by_cases h1:0≤n
 ·by_cases h2:n≤1073741824
  ·rw[decide_eq_true ⟨h1,h2⟩]
   refine gI oW Tryz.func24 Tryz.results24 ?_
   exact wR trivial trivial ay
  ·rw[decide_eq_false (fun h=>h2 h.2)]
   refine gI oW Tryz.func24 Tryz.results24 ?_
   exact wR trivial trivial ay
 ·rw[decide_eq_false (fun h=>h1 h.1)]
  refine gI oW Tryz.func24 Tryz.results24 ?_
  exact wR trivial trivial ay
theorem akg(x:Int):Gxx 162 [vu x] (vu (al1 x)):=by
 unfold al1
 refine gI oW Tryz.func162 Tryz.results162 ?_
 exact wR trivial trivial ay
theorem alD(s row:Int)(hr:0≤row∧row≤7):Gxx 160 [vu s,vi row] (vu (Dn s row)):=by
 refine gI oW Tryz.func160 Tryz.results160 ?_
 (repeat' first|refine wP trivial trivial ?_|refine cU (akg _) ?_|refine tS ?_ ?_<;>intro hc|fail)
 exact rE []
def Zn(s:Int)(i:Nat):List Int:=jy s i++List.replicate (256-i) 0
theorem ajq(s:Int)(i:Nat)(h:i≤256):(Zn s i).length=256:=by simp [Zn,lK];omega
theorem akh(s:Int)(i:Nat)(h:i<256):(Zn s i).set i (al1 (IntKind.u64.wrap (s+IntKind.u64.wrap (((i:Int)+1)*11400714819323198485))))=Zn s (i+1):=by
 unfold Zn
 rw[←D5 s i,List.set_append_right _ _ (by rw[lK];omega),lK,Nat.sub_self,show 256-i=(256-(i+1))+1 by omega,List.replicate_succ,List.set_cons_zero]
 simp
theorem alj(l:List Int)(i:Nat)(n:Int):(uv l).set i (V.c (.int .u64 n))=uv (l.set i n):=by simp [uv,List.map_set]
theorem alk(n:Nat):List.replicate n (V.c (.int .u64 0))=uv (List.replicate n 0):=by simp [uv]
theorem ajO(s:Int):Gxx 137 [vu s] (fzu (jy s 256)):=by
 refine Good.fzr (r := .sl (.own 0 23) 1 (uv (jy s 256))) ?_ rfl (.inl (.inl rfl))
 have e0:uv (List.replicate 256 0)=uv (Zn s 0):=rfl
 refine gI oW Tryz.func137 Tryz.results137 ?_
 refine wS (aI @alk (aI @e0 (aI @lX @ajq))) trivial ?_
 refine df (fun i:Nat=>mkA [(0,vu s),(3,.sl (.own 0 23) 1 (uv (Zn s i))),(7,vi 256),(8,vi i)] [] 1 (fun _ => .top)) (fun i=>i≤256) (fun i=>256-i) 0 [0] [] ?_ (Nat.zero_le _) ?_
 ·exact kE
 ·intro i hi
  replace hi:i≤256:=hi
  have hl:=ajq s i hi
  have hul:=lX (Zn s i)
  rcases Nat.lt_or_ge i 256 with hlt|hge
  ·have hg:=Bv (Zn s i) i (by omega)
   have hst:=akh s i hlt
   generalize (Zn s i).getD i 0=x at *
   (repeat' first|refine wP (aI @lX (aI @hl @hg)) trivial ?_|refine cU (akg _) ?_|refine tS ?_ ?_<;>intro hc|fail)
   (refine dh (i+1) [0] [] (hlt) (by first|omega|(simp only[List.length_cons];omega)) ?_;(refine dN ?_ ?_ (gu _ _ _) (by decide) (by decide) (by decide) (by decide);(repeat' (first|exact trivial|refine dI _ _ rfl rfl ?_ ?_));all_goals (try simp only[pgs,pgl,pgx,pgf,pgw,di,dL,dm,dM,qc,iO,fO,pgn,simprocAttr]);all_goals (try (repeat' (first|apply aI)));all_goals (try (first|exact trivial|exact dE (by omega)|exact eH rfl|exact bP rfl rfl|exact jq rfl))))
   all_goals exact bP rfl (by rw[alj,hst])
  ·have:i=256:=by omega
   subst this
   have e1:Zn s 256=jy s 256:=by simp [Zn]
   rw[e1]
   exact wR trivial trivial (ids [0])
theorem alm(x:Int):Gxx 161 [vu x,vi 5] (vu (bits .or .u64 (IntKind.u64.wrap (x*2^min 5 IntKind.u64.bits)) (x.fdiv (2^min 59 IntKind.u64.bits)))):=by
 have e1:bits .and .u64 5 63=5:=by kernel_rfl
 refine gI oW Tryz.func161 Tryz.results161 ?_
 exact wR @e1 trivial ay
theorem aki(t:List Int)(ht:t.length=256)(k:List Nat)(ho:oct k)(hk:k.length≤1000000):Gxx 136 [fzu t,vs k] (.tup [vu (lL t k),vi 0]):=by
 have hul:=lX t
 have h0:=Bv t (k.length%256) (by omega)
 have hb0:k.length%256<256:=Nat.mod_lt _ (by omega)
 refine gI oW Tryz.func136 Tryz.results136 ?_
 refine wS (aI @lX (aI @ht (aI @Xk @h0))) trivial ?_
 refine df (fun x:Int × Nat=>mkA [(0,fzu t),(1,vs k),(6,vu x.1),(18,vi k.length),(19,vi x.2)] [] 0 (fun _ => .top)) (fun x=>x.2≤k.length∧lL t k=al1 (OC t x.1 x.2 (k.drop x.2))) (fun x=>k.length-x.2) (t.getD (k.length%256) 0,0) [] [] ?_ ⟨Nat.zero_le _,rfl⟩ ?_
 ·exact kE
 ·rintro⟨h,i⟩ ⟨hi,he⟩
  simp only at hi he
  rcases Nat.lt_or_ge i k.length with hlt|hge
  ·rw[OD k i hlt] at he
   have hc:=zM ho i
   generalize hcc:k.getD i 0=c at he hc
   have h1:=Bv t ((c+i)%256) (by omega)
   have hb1:(c+i)%256<256:=Nat.mod_lt _ (by omega)
   (repeat' first|refine wP (aI @lX (aI @ht (aI @hcc (aI @ac1 @h1)))) trivial ?_|refine cU (alm _) ?_|refine tS ?_ ?_<;>intro hc|fail)
   refine dh (jZ t h c i,i+1) [] [] ⟨hlt,he⟩ (by show k.length-(i+1)<k.length-i;omega) ?_
   exact kE
  ·have:i=k.length:=by omega
   subst this
   rw[List.drop_length] at he
   rw[he]
   (repeat' first|refine wP trivial trivial ?_|refine cU (akg _) ?_|refine tS ?_ ?_<;>intro hc|fail)
   exact rE []
theorem akj(s row z:Int)(k:List Nat)(ho:oct k)(hr:0≤row∧row≤7)(hz:1≤z∧z≤64)(hk:1≤k.length∧k.length≤32):Gxx 134 [vu s,vi row,vi z,vs k] (.tup [vi (uP s row z k),vi 0]):=by
 have k3:=xH k
 rw[zT hk] at k3
 have k4:=aki (jy (Dn s row) 256) (lK _ _) k ho (by omega)
 have hc:=rW s row z k hz.1
 have hh:=mO (jy (Dn s row) 256) k
 unfold uP at *
 generalize lL (jy (Dn s row) 256) k=h at *
 refine gI oW Tryz.func134 Tryz.results134 ?_
 (repeat' first|refine wP trivial (aI k3 k4) ?_|refine cU (alD _ _ hr) ?_|refine cU (ajO _) ?_|refine tS ?_ ?_<;>intro hc|fail)
 exact rE []
end Go.Proofs.YtiohdbjggmmjcaaGreat
