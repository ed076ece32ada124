/-
  Texts of this claim, merged; own names are short.
-/
import Derived.Test.YtjiolbcdfgclaaaGreatDoorWAQ
import Derived.Test.YtjiolbcdfgclaaaGreatDoorWAO
set_option linter.unusedVariables false
set_option linter.unusedSimpArgs false
set_option linter.unusedSectionVars false
set_option linter.defProp false
set_option maxRecDepth 100000
set_option maxHeartbeats 8000000
namespace Go.Proofs.YtjiolbcdfgclaaaGreatDoor
open Go Go.Pg
def Ei(t:Tl):List Nat:=aO t.t.toNat++aO t.i.toNat++mP t.b
def lM(l:List Int):List Nat:=l.flatMap fun n=>aO n.toNat
def Ej(c:Cm):List Nat:=aO c.d.toNat++aO c.z.toNat++kP c.s++lM c.c++mP c.b
def Em(x:Ll):List Nat:=aO x.p.toNat++kP x.s++x.r.map u8i
def Am(e:En):List Nat:=ku e.1++aO e.2.1.toNat++aO e.2.2.toNat
def Eo(t:Tp):List Nat:=aO t.z.toNat++aO t.t.toNat++mP t.b++aO t.e.length++t.e.flatMap Am
def Ap(e:En):List Nat:=ku e.1++aO e.2.1.toNat
def Ep(t:Fq):List Nat:=aO t.z.toNat++aO t.t.toNat++aO t.l.toNat++mP t.b++aO t.e.length++t.e.flatMap Ap
def vC(l:List (List Nat)):List Nat:=aO l.length++l.flatMap ku
def Es(x:Rk):List Nat:=aO x.z.toNat++aO x.t.toNat++aO x.l.toNat++mP x.b++aO x.v.length++x.v.flatMap vC
theorem L8(l:List Int)(i:Nat)(h:i<l.length):lM (l.take (i+1))=lM (l.take i)++aO (l.getD i 0).toNat:=by
 rw[List.take_succ_eq_append_getElem h,lM,List.flatMap_append];simp [lM,List.getD,h]
theorem BX{α:Type}(f:α→List Nat)(d:α)(l:List α)(i:Nat)(h:i<l.length):(l.take (i+1)).flatMap f=(l.take i).flatMap f++f (l.getD i d):=by
 rw[List.take_succ_eq_append_getElem h,List.flatMap_append];simp [List.getD,h]
theorem Aq{α:Type}(f:α→List Nat)(B:Nat)(l:List α)(h:∀x∈l,(f x).length≤B):(l.flatMap f).length≤l.length*B:=by
 induction l with
 | nil=>simp
 | cons a l ih =>
  have h1:=h a (by simp)
  have h2:=ih fun x hx=>h x (by simp [hx])
  simp only[List.flatMap_cons,List.length_append,List.length_cons,Nat.succ_mul]
  omega
theorem nV{α:Type}(f:α→List Nat)(B:Nat)(l:List α)(i:Nat)(h:∀x∈l,(f x).length≤B):((l.take i).flatMap f).length≤l.length*B:=by
 refine Nat.le_trans (Aq f B (l.take i) fun x hx=>h x (List.mem_of_mem_take hx)) (Nat.mul_le_mul_right _ ?_)
 rw[List.length_take];omega
theorem Et(t:Tl)(h:vTl t=0):Gxx 114 [.agg (tlF t)] (.tup [fzb (Ei t),vi 0]):=by
 have h1:=nC t
 rw[h] at h1
 have hr:(0≤t.t∧t.t≤4294967295)∧(0≤t.i∧t.i≤4294967295):=by
  unfold vTl at h
  split at h
  ·omega
  ·cases h
 have h2:=kW t.t (by omega)
 have h3:=iW t.i (by omega)
 have h4:=vz t.b
 have l2:=aS t.t.toNat
 have l3:=aS t.i.toNat
 have l4:=jU t.b
 unfold Ei
 generalize aO t.t.toNat=a at *
 generalize aO t.i.toNat=b at *
 have ha:=ax a
 have hb:=ax b
 have hab:=dP a b
 have hab2:=ax (a++b)
 rw[List.length_append] at hab2
 generalize mP t.b=c at *
 have hc:=ax c
 have habc:=dP (a++b) c
 refine Good.fzt (vs:=[ob 0 (a++b++c),vi 0]) ?_ rfl ⟨aA _,aA _,trivial⟩
 obtain⟨t1,t2,t3⟩:=t
 simp only at *
 refine gI oW Tryz.func114 Tryz.results114 ?_
 exact wR (aI @ha (aI @hb (aI @hab (aI @hab2 (aI @hc @habc))))) (aI h1 (aI h2 (aI h3 h4))) (ids [1])
theorem zl(c:Cm)(h:vCm c=0)(hs:0≤c.s∧c.s<18446744073709551616):Gxx 115 [.agg (cmF c)] (.tup [fzb (Ej c),vi 0]):=by
 have h1:=lg c
 rw[h] at h1
 obtain⟨i1,i2,i3,i4⟩:=PL h
 have hm:=zY i1 i2
 have h2:=kW c.d (by omega)
 have h3:=iW c.z (by omega)
 have h4:=vz c.b
 have h5:=LP c.s hs
 have l2:=aS c.d.toNat
 have l3:=aS c.z.toNat
 have l4:=jU c.b
 have l5:=lV c.s
 have hcell:=fun i (hi:i<c.c.length)=>F6 i4 hi
 have hnx:=fun i (hi:i<c.c.length)=>L8 c.c i hi
 have hln:=fun i=>nV (fun n:Int=>aO n.toNat) 9 c.c i (fun x _=>aS _)
 unfold Ej
 generalize hA:aO c.d.toNat++aO c.z.toNat++kP c.s=A
 have hAl:A.length≤26:=by rw[←hA];simp only[List.length_append];omega
 refine Good.fzt (vs:=[ob 0 (A++lM c.c++mP c.b),vi 0]) ?_ rfl ⟨aA _,aA _,trivial⟩
 generalize aO c.d.toNat=a at *
 generalize aO c.z.toNat=b at *
 generalize kP c.s=e at *
 generalize mP c.b=f at *
 have ha:=ax a
 have hb:=ax b
 have he:=ax e
 have hf:=ax f
 have hab:=dP a b
 have hab2:=ax (a++b)
 rw[List.length_append] at hab2
 have habe:=dP (a++b) e
 obtain⟨d,z,s,l,bb⟩:=c
 simp only at *
 have hil:=bP l
 refine gI oW Tryz.func115 Tryz.results115 ?_
 refine wS (aI @ha (aI @hb (aI @he (aI @hab (aI @hab2 (aI @habe @hA)))))) (aI h1 (aI h2 (aI h3 h5))) ?_
 refine aK (fun i:Nat=>mkA [(1,.ref 0 0),(5,ob 0 (A++lM (l.take i))),(6,vi i)] [(0,(82,cmF ⟨d,z,s,l,bb⟩))] 1 (fun _ => .top)) (fun i=>i≤l.length) (fun i=>l.length-i) 0 [1] [0] ?_ (Nat.zero_le _) ?_
 ·refine kL ?_
  all_goals first|exact aW rfl (by simp [lM])|skip
 ·intro i hi
  replace hi:i≤l.length:=hi
  have hbl:=ax (A++lM (l.take i))
  have hl2:(A++lM (l.take i)).length≤100000:=by
   have:=hln i
   rw[List.length_append]
   show A.length+(lM (l.take i)).length≤_
   unfold lM
   omega
  rcases Nat.lt_or_ge i l.length with hlt|hge
  ·have hg:=mg l i hlt
   have hx:=hcell i hlt
   have hn:=hnx i hlt
   have k1:=iW (l.getD i 0) (by omega)
   have k2:=aS (l.getD i 0).toNat
   have hap:=dP (A++lM (l.take i)) (aO (l.getD i 0).toNat)
   rw[List.append_assoc A,←hn] at hap
   generalize aO (l.getD i 0).toNat=u at *
   generalize l.getD i 0=n at *
   have hul:=ax u
   refine wS (aI @hil (aI @hg (aI @hbl (aI @hul @hap)))) k1 ?_
   exact bE (i+1) [0] [0] hlt
  ·have:i=l.length:=by omega
   subst this
   rw[List.take_length] at *
   have hap:=dP (A++lM l) f
   exact wR (aI @hil (aI @hbl (aI @hf @hap))) h4 (ids [0])
theorem BC(x:Ll)(h:vLl x=0)(hs:0≤x.s∧x.s<18446744073709551616)(hn:x.r.length≤1000000):Gxx 116 [.agg (llF x)] (.tup [fzb (Em x),vi 0]):=by
 have h1:=mG x hn
 rw[h] at h1
 obtain⟨i1,i2,i3⟩:=PM h
 have h2:=kW x.p (by omega)
 have h5:=LP x.s hs
 have l2:=aS x.p.toNat
 have l5:=lV x.s
 unfold Em
 generalize hA:aO x.p.toNat++kP x.s=A
 have hAl:A.length≤17:=by rw[←hA];simp only[List.length_append];omega
 refine Good.fzt (vs:=[ob 0 (A++x.r.map u8i),vi 0]) ?_ rfl ⟨aA _,aA _,trivial⟩
 generalize aO x.p.toNat=a at *
 generalize kP x.s=e at *
 have ha:=ax a
 have he:=ax e
 have hae:=dP a e
 obtain⟨z,s,l⟩:=x
 simp only at *
 have hil:=bP l
 refine gI oW Tryz.func116 Tryz.results116 ?_
 refine wS (aI @ha (aI @he (aI @hae @hA))) (aI h1 (aI h2 h5)) ?_
 refine aK (fun i:Nat=>mkA [(1,.ref 0 0),(5,ob 0 (A++(l.take i).map u8i)),(6,vi i)] [(0,(84,llF ⟨z,s,l⟩))] 1 (fun _ => .top)) (fun i=>i≤l.length) (fun i=>l.length-i) 0 [1] [0] ?_ (Nat.zero_le _) ?_
 ·exact kE
  all_goals first|exact aW rfl (by simp)|skip
 ·intro i hi
  replace hi:i≤l.length:=hi
  have hbl:=ax (A++(l.take i).map u8i)
  have hl2:(A++(l.take i).map u8i).length≤2000000:=by simp only[List.length_append,List.length_map,List.length_take];omega
  rcases Nat.lt_or_ge i l.length with hlt|hge
  ·have hg:=mg l i hlt
   have hx:=afE (l.getD i 0)
   have hap:bv (A++(l.take i).map u8i)++[V.c (.int .u8 ((u8i (l.getD i 0):Nat):Int))]=bv (A++(l.take (i+1)).map u8i):=by
    have e:(l.take (i+1)).map u8i=(l.take i).map u8i++[u8i (l.getD i 0)]:=by rw[List.take_succ_eq_append_getElem hlt,List.map_append];simp [List.getD,hlt]
    rw[bvS,List.append_assoc,←e]
   generalize u8i (l.getD i 0)=u at *
   generalize l.getD i 0=n at *
   refine wS (aI @hil (aI @hg (aI @hbl (aI @hx @hap)))) trivial ?_
   exact bE (i+1) [0] [0] hlt
  ·have:i=l.length:=by omega
   subst this
   rw[List.take_length]
   exact wR @hil trivial (ids [0])
theorem L9(e:En)(h:e.1.length≤32):(Am e).length≤59:=by
 have h1:=nH e.1
 have h2:=aS e.2.1.toNat
 have h3:=aS e.2.2.toNat
 unfold Am;simp only[List.length_append];omega
theorem jS{α:Type}(l:List α)(i:Nat)(d:α)(h:i<l.length):l.getD i d∈l:=by rw[List.getD_eq_getElem?_getD,List.getElem?_eq_getElem h];exact List.getElem_mem h
theorem qh{α:Type}{l:List α}{x:α}(d:α)(h:x∈l):∃i,i<l.length∧l.getD i d=x:=by
 obtain⟨i,hi,rfl⟩:=List.getElem_of_mem h
 exact⟨i,hi,by simp [List.getD,hi]⟩
theorem IQ(t:Tp)(h:vTp t=0)(ho:octE t.e)(hn:t.e.length≤1000000):Gxx 117 [.agg (tpF t)] (.tup [fzb (Eo t),vi 0]):=by
 have h1:=pX t ho hn
 rw[h] at h1
 obtain⟨i1,i2,i3,i4⟩:=IA h
 have hen:=fun i (hi:i<t.e.length)=>yV (i4 i hi)
 have h2:=kW t.z (by omega)
 have h3:=iW t.t (by omega)
 have h4:=vz t.b
 have h5:=iW (t.e.length:Int) (by omega)
 rw[Int.toNat_natCast] at h5
 have l2:=aS t.z.toNat
 have l3:=aS t.t.toNat
 have l4:=jU t.b
 have l5:=aS t.e.length
 have hkl:∀i,i<t.e.length→(t.e.getD i eD).1.length≤32:=fun i hi=>by have:=(hen i hi).1;rw[kV] at this;exact this.2
 have hnx:=fun i (hi:i<t.e.length)=>BX Am eD t.e i hi
 have hln:=fun i=>nV Am 59 t.e i (fun x hx=>by obtain⟨j,hj,he⟩:=qh eD hx;exact L9 x (by rw[←he];exact hkl j hj))
 unfold Eo
 generalize hA:aO t.z.toNat++aO t.t.toNat++mP t.b++aO t.e.length=A
 have hAl:A.length≤28:=by rw[←hA];simp only[List.length_append];omega
 refine Good.fzt (vs:=[ob 0 (A++t.e.flatMap Am),vi 0]) ?_ rfl ⟨aA _,aA _,trivial⟩
 generalize aO t.z.toNat=a at *
 generalize aO t.t.toNat=b at *
 generalize mP t.b=f at *
 generalize aO t.e.length=e at *
 have ha:=ax a
 have hb:=ax b
 have he:=ax e
 have hf:=ax f
 have hab:=dP a b
 have hab2:=ax (a++b)
 rw[List.length_append] at hab2
 have habf:=dP (a++b) f
 have habf2:=ax (a++b++f)
 rw[List.length_append,List.length_append] at habf2
 have habfe:=dP (a++b++f) e
 obtain⟨z,tt,l,bb⟩:=t
 simp only at *
 have hil:=aY l
 have hol:=fun i=>lu ho i
 refine gI oW Tryz.func117 Tryz.results117 ?_
 refine wS (aI @hil (aI @ha (aI @hb (aI @he (aI @hf (aI @hab (aI @hab2 (aI @habf (aI @habf2 (aI @habfe @hA)))))))))) (aI h1 (aI h2 (aI h3 (aI h4 h5)))) ?_
 refine aK (fun i:Nat=>mkA [(1,.ref 0 0),(5,ob 0 (A++(l.take i).flatMap Am)),(6,vi i)] [(0,(86,tpF ⟨z,tt,l,bb⟩))] 1 (fun _ => .top)) (fun i=>i≤l.length) (fun i=>l.length-i) 0 [1] [0] ?_ (Nat.zero_le _) ?_
 ·refine kL ?_
  all_goals first|exact aW rfl (by simp)|skip
 ·intro i hi
  replace hi:i≤l.length:=hi
  have hbl:=ax (A++(l.take i).flatMap Am)
  have hl2:(A++(l.take i).flatMap Am).length≤100000000:=by have:=hln i;rw[List.length_append];omega
  rcases Nat.lt_or_ge i l.length with hlt|hge
  ·have hg:=jr l i hlt
   have hx:=hen i hlt
   have hn1:=hnx i hlt
   have hk:=hkl i hlt
   have ho1:=hol i
   generalize l.getD i ([],0,0)=y at *
   obtain⟨k,c,er⟩:=y
   simp only at hg hx hn1 hk ho1
   have k1:=Ef k ho1 (by omega)
   have k2:=iW c (by omega)
   have k3:=iW er (by omega)
   have q1:=nH k
   have q2:=aS c.toNat
   have q3:=aS er.toNat
   have hE:Am (k,c,er)=ku k++aO c.toNat++aO er.toNat:=rfl
   rw[hE] at hn1
   generalize (l.take i).flatMap Am=M at *
   generalize ku k=u at *
   generalize aO c.toNat=v at *
   generalize aO er.toNat=w at *
   have hul:=ax u
   have hvl:=ax v
   have hwl:=ax w
   have p1:=dP (A++M) u
   have p2:=ax (A++M++u)
   rw[List.length_append] at p2
   have p3:=dP (A++M++u) v
   have p4:=ax (A++M++u++v)
   rw[List.length_append,List.length_append] at p4
   have p5:=dP (A++M++u++v) w
   have p6:A++M++u++v++w=A++(l.take (i+1)).flatMap Am:=by rw[hn1];simp only[List.append_assoc]
   rw[p6] at p5
   refine wS (aI @hil (aI @hg (aI @hbl (aI @hul (aI @hvl (aI @hwl (aI @p1 (aI @p2 (aI @p3 (aI @p4 @p5)))))))))) (aI k1 (aI k2 k3)) ?_
   exact bE (i+1) [0] [0] hlt
  ·have:i=l.length:=by omega
   subst this
   rw[List.take_length]
   exact wR @hil trivial (ids [0])
theorem Mc(e:En)(h:e.1.length≤32):(Ap e).length≤50:=by
 have h1:=nH e.1
 have h2:=aS e.2.1.toNat
 unfold Ap;simp only[List.length_append];omega
theorem zo(t:Fq)(h:vFq t=0)(ho:octE t.e)(hn:t.e.length≤1000000):Gxx 118 [.agg (fqF t)] (.tup [fzb (Ep t),vi 0]):=by
 have h1:=lm t ho hn
 rw[h] at h1
 obtain⟨i1,i2,i2',i3,i4⟩:=IC h
 have hen:=fun i (hi:i<t.e.length)=>yZ (i4 i hi)
 have h2:=kW t.z (by omega)
 have h3:=iW t.t (by omega)
 have h3':=iW t.l (by omega)
 have h4:=vz t.b
 have h5:=iW (t.e.length:Int) (by omega)
 rw[Int.toNat_natCast] at h5
 have l2:=aS t.z.toNat
 have l3:=aS t.t.toNat
 have l3':=aS t.l.toNat
 have l4:=jU t.b
 have l5:=aS t.e.length
 have hkl:∀i,i<t.e.length→(t.e.getD i eD).1.length≤32:=fun i hi=>by have:=(hen i hi).1;rw[kV] at this;exact this.2
 have hnx:=fun i (hi:i<t.e.length)=>BX Ap eD t.e i hi
 have hln:=fun i=>nV Ap 50 t.e i (fun x hx=>by obtain⟨j,hj,he⟩:=qh eD hx;exact Mc x (by rw[←he];exact hkl j hj))
 unfold Ep
 generalize hA:aO t.z.toNat++aO t.t.toNat++aO t.l.toNat++mP t.b++aO t.e.length=A
 have hAl:A.length≤37:=by rw[←hA];simp only[List.length_append];omega
 refine Good.fzt (vs:=[ob 0 (A++t.e.flatMap Ap),vi 0]) ?_ rfl ⟨aA _,aA _,trivial⟩
 generalize aO t.z.toNat=a at *
 generalize aO t.t.toNat=b at *
 generalize aO t.l.toNat=c at *
 generalize mP t.b=f at *
 generalize aO t.e.length=e at *
 have ha:=ax a
 have hb:=ax b
 have hc:=ax c
 have he:=ax e
 have hf:=ax f
 have hab:=dP a b
 have hab2:=ax (a++b)
 rw[List.length_append] at hab2
 have habc:=dP (a++b) c
 have habc2:=ax (a++b++c)
 rw[List.length_append,List.length_append] at habc2
 have habf:=dP (a++b++c) f
 have habf2:=ax (a++b++c++f)
 rw[List.length_append,List.length_append,List.length_append] at habf2
 have habfe:=dP (a++b++c++f) e
 obtain⟨z,tt,tl,l,bb⟩:=t
 simp only at *
 have hil:=aY l
 have hol:=fun i=>lu ho i
 refine gI oW Tryz.func118 Tryz.results118 ?_
 refine wS (aI @hil (aI @ha (aI @hb (aI @hc (aI @he (aI @hf (aI @hab (aI @hab2 (aI @habc (aI @habc2 (aI @habf (aI @habf2 (aI @habfe @hA))))))))))))) (aI h1 (aI h2 (aI h3 (aI h3' (aI h4 h5))))) ?_
 refine aK (fun i:Nat=>mkA [(1,.ref 0 0),(5,ob 0 (A++(l.take i).flatMap Ap)),(6,vi i)] [(0,(88,fqF ⟨z,tt,tl,l,bb⟩))] 1 (fun _ => .top)) (fun i=>i≤l.length) (fun i=>l.length-i) 0 [1] [0] ?_ (Nat.zero_le _) ?_
 ·refine kL ?_
  all_goals first|exact aW rfl (by simp)|skip
 ·intro i hi
  replace hi:i≤l.length:=hi
  have hbl:=ax (A++(l.take i).flatMap Ap)
  have hl2:(A++(l.take i).flatMap Ap).length≤100000000:=by have:=hln i;rw[List.length_append];omega
  rcases Nat.lt_or_ge i l.length with hlt|hge
  ·have hg:=jr l i hlt
   have hx:=hen i hlt
   have hn1:=hnx i hlt
   have hk:=hkl i hlt
   have ho1:=hol i
   generalize l.getD i ([],0,0)=y at *
   obtain⟨k,c,er⟩:=y
   simp only at hg hx hn1 hk ho1
   have k1:=Ef k ho1 (by omega)
   have k2:=iW c (by omega)
   have q1:=nH k
   have q2:=aS c.toNat
   have hE:Ap (k,c,er)=ku k++aO c.toNat:=rfl
   rw[hE] at hn1
   generalize (l.take i).flatMap Ap=M at *
   generalize ku k=u at *
   generalize aO c.toNat=v at *
   have hul:=ax u
   have hvl:=ax v
   have p1:=dP (A++M) u
   have p2:=ax (A++M++u)
   rw[List.length_append] at p2
   have p3:=dP (A++M++u) v
   have p6:A++M++u++v=A++(l.take (i+1)).flatMap Ap:=by rw[hn1];simp only[List.append_assoc]
   rw[p6] at p3
   refine wS (aI @hil (aI @hg (aI @hbl (aI @hul (aI @hvl (aI @p1 (aI @p2 @p3))))))) (aI k1 k2) ?_
   exact bE (i+1) [0] [0] hlt
  ·have:i=l.length:=by omega
   subst this
   rw[List.take_length]
   exact wR @hil trivial (ids [0])
theorem Md(l:List (List Nat))(h:∀k∈l,k.length≤32)(hl:l.length≤31):(vC l).length≤1280:=by
 have h1:=aS l.length
 have h2:=Aq ku 41 l (fun k hk=>by have:=nH k;have:=h k hk;omega)
 unfold vC;rw[List.length_append];omega
theorem Me{x:Rk}(h:vRk x=0):∀i,i<x.v.length→∀k∈x.v.getD i [],k.length≤32:=by
 intro i hi k hk
 have h3:tC (uY x.z x.v) x.v.length 0=0:=by
  unfold vRk at h
  split at h
  ·cases h
  ·split at h
   ·cases h
   ·split at h
    ·rename_i h3;exact absurd h h3
    ·rename_i h3;exact Classical.byContradiction h3
 have h4:=D8 _ _ _ h3 i (Nat.zero_le _) (by omega)
 unfold uY at h4
 split at h4
 ·cases h4
 ·obtain⟨j,hj,he⟩:=qh [] hk
  have h5:=D8 _ _ _ h4 j (Nat.zero_le _) (by omega)
  unfold Gs at h5
  split at h5
  ·cases h5
  ·rename_i h6
   have:fH ((x.v.getD i []).getD j [])=true:=by simpa using h6
   rw[kV,he] at this
   exact this.2
theorem Eu(x:Rk)(h:vRk x=0)(hv:∀l∈x.v,octL l)(hn:x.v.length≤1000000)(hn2:∀l∈x.v,l.length≤1000000):Gxx 119 [.agg (rkF x)] (.tup [fzb (Es x),vi 0]):=by
 have h1:=nG x hv hn hn2
 rw[h] at h1
 have hkeys:=Me h
 obtain⟨i1,i2,i2',i3,i4⟩:=IG h
 have h2:=kW x.z (by omega)
 have h3:=iW x.t (by omega)
 have h3':=iW x.l (by omega)
 have h4:=vz x.b
 have h5:=iW (x.v.length:Int) (by omega)
 rw[Int.toNat_natCast] at h5
 have l2:=aS x.z.toNat
 have l3:=aS x.t.toNat
 have l3':=aS x.l.toNat
 have l4:=jU x.b
 have l5:=aS x.v.length
 have hnx:=fun i (hi:i<x.v.length)=>BX vC [] x.v i hi
 have hln:=fun i=>nV vC 1280 x.v i (fun l hl=>by obtain⟨j,hj,he⟩:=qh [] hl;rw[←he];exact Md _ (hkeys j hj) (i4 j))
 unfold Es
 generalize hA:aO x.z.toNat++aO x.t.toNat++aO x.l.toNat++mP x.b++aO x.v.length=A
 have hAl:A.length≤37:=by rw[←hA];simp only[List.length_append];omega
 refine Good.fzt (vs:=[ob 0 (A++x.v.flatMap vC),vi 0]) ?_ rfl ⟨aA _,aA _,trivial⟩
 generalize aO x.z.toNat=a at *
 generalize aO x.t.toNat=b at *
 generalize aO x.l.toNat=c at *
 generalize mP x.b=f at *
 generalize aO x.v.length=e at *
 have ha:=ax a
 have hb:=ax b
 have hc:=ax c
 have he:=ax e
 have hf:=ax f
 have hab:=dP a b
 have hab2:=ax (a++b)
 rw[List.length_append] at hab2
 have habc:=dP (a++b) c
 have habc2:=ax (a++b++c)
 rw[List.length_append,List.length_append] at habc2
 have habf:=dP (a++b++c) f
 have habf2:=ax (a++b++c++f)
 rw[List.length_append,List.length_append,List.length_append] at habf2
 have habfe:=dP (a++b++c++f) e
 have hol:∀i,octL (x.v.getD i []):=fun i=>by
  rcases Nat.lt_or_ge i x.v.length with hi|hi
  ·exact hv _ (jS _ _ _ hi)
  ·rw[List.getD,List.getElem?_eq_none hi];intro e he;cases he
 obtain⟨z,tt,tl,l,bb⟩:=x
 simp only at *
 have hil:=mr l
 refine gI oW Tryz.func119 Tryz.results119 ?_
 refine wS (aI @hil (aI @ha (aI @hb (aI @hc (aI @he (aI @hf (aI @hab (aI @hab2 (aI @habc (aI @habc2 (aI @habf (aI @habf2 (aI @habfe @hA))))))))))))) (aI h1 (aI h2 (aI h3 (aI h3' (aI h4 h5))))) ?_
 refine aK (fun i:Nat=>mkA [(1,.ref 0 0),(5,ob 0 (A++(l.take i).flatMap vC)),(6,vi i)] [(0,(91,rkF ⟨z,tt,tl,l,bb⟩))] 1 (fun _ => .top)) (fun i=>i≤l.length) (fun i=>l.length-i) 0 [1] [0] ?_ (Nat.zero_le _) ?_
 ·refine kL ?_
  all_goals first|exact aW rfl (by simp)|skip
 ·intro i hi
  replace hi:i≤l.length:=hi
  have hbl:=ax (A++(l.take i).flatMap vC)
  have hl2:(A++(l.take i).flatMap vC).length≤100000000:=by have:=hln i;rw[List.length_append];omega
  rcases Nat.lt_or_ge i l.length with hlt|hge
  ·have hg:=uK l i hlt
   have hn1:=hnx i hlt
   have hk:=hkeys i hlt
   have ho1:=hol i
   have hlen:=i4 i
   generalize l.getD i []=y at *
   have hyl:=au y
   have k2:=iW (y.length:Int) (by omega)
   rw[Int.toNat_natCast] at k2
   have q2:=aS y.length
   have hE:vC y=aO y.length++y.flatMap ku:=rfl
   rw[hE,←List.append_assoc] at hn1
   have hkn:=fun j (hj:j<y.length)=>BX ku [] y j hj
   have hkt:=fun j=>nV ku 41 y j (fun k hk1=>by have:=nH k;have:=hk k hk1;omega)
   generalize aO y.length=u at *
   have hul:=ax u
   have p1:=dP (A++(l.take i).flatMap vC) u
   have p2:(A++(l.take i).flatMap vC++u).length≤100000009:=by rw[List.length_append];omega
   have p3:A++(l.take i).flatMap vC++u++y.flatMap ku=A++(l.take (i+1)).flatMap vC:=by rw[hn1];simp only[List.append_assoc]
   generalize hMN:(l.take (i+1)).flatMap vC=MN at *
   generalize A++(l.take i).flatMap vC=M at *
   refine wS (aI @hil (aI @hg (aI @hyl (aI @hbl (aI @hul @p1))))) k2 ?_
   generalize M++u=N at *
   refine aK (fun j:Nat=>mkA [(1,.ref 0 0),(5,ob 0 (N++(y.take j).flatMap ku)),(6,vi i),(7,vi j)] [(0,(91,rkF ⟨z,tt,tl,l,bb⟩))] 1 (fun _ => .top)) (fun j=>j≤y.length) (fun j=>y.length-j) 0 [0] [0] ?_ (Nat.zero_le _) ?_
   ·refine kL ?_
    all_goals first|exact aW rfl (by simp)|skip
   ·intro j hj
    replace hj:j≤y.length:=hj
    have hbl2:=ax (N++(y.take j).flatMap ku)
    have hl3:(N++(y.take j).flatMap ku).length≤200000000:=by have:=hkt j;rw[List.length_append];omega
    rcases Nat.lt_or_ge j y.length with hlt2|hge2
    ·have hg2:=iK y j hlt2
     have hkl:=hk _ (jS y j [] hlt2)
     have hok:=uZ ho1 j
     have hkn1:=hkn j hlt2
     have k3:=Ef (y.getD j []) hok (by omega)
     have q3:=nH (y.getD j [])
     have p5:=dP (N++(y.take j).flatMap ku) (ku (y.getD j []))
     rw[List.append_assoc N,←hkn1] at p5
     generalize ku (y.getD j [])=w at *
     generalize y.getD j []=k at *
     have hwl:=ax w
     refine wS (aI @hil (aI @hg (aI @hg2 (aI @hyl (aI @hbl2 (aI @hwl @p5)))))) k3 ?_
     exact bE (j+1) [0] [0] hlt2
    ·have:j=y.length:=by omega
     subst this
     rw[List.take_length,p3]
     refine wS (aI @hil (aI @hg @hyl)) trivial ?_
     (refine bL (i+1) [0] [0] hlt ?_;refine kL ?_)
     all_goals exact aW rfl (by rw[hMN])
  ·have:i=l.length:=by omega
   subst this
   rw[List.take_length]
   exact wR @hil trivial (ids [0])
theorem BZ{α:Type}(d:α){a b:List α}{i:Nat}(ha:i<a.length)(hb:i<b.length)(h:a.take i=b.take i)(he:a.getD i d=b.getD i d):a.take (i+1)=b.take (i+1):=by
 rw[List.take_succ_eq_append_getElem ha,List.take_succ_eq_append_getElem hb,h]
 simp only[List.getD,List.getElem?_eq_getElem ha,List.getElem?_eq_getElem hb,Option.getD_some] at he
 rw[he]
theorem IR{α:Type}{a b:List α}(hl:a.length=b.length)(h:a.take a.length=b.take a.length):a=b:=by
 rw[List.take_length,hl,List.take_length] at h
 exact h
theorem gX(b:Bool):(b == b)=true:=by cases b<;>rfl
theorem Sr(b:Bool):(b != b)=false:=by cases b<;>rfl
theorem Su{a b:Bool}(h:a≠b):(a == b)=false:=by cases a<;>cases b<;>first|rfl|exact absurd rfl h
theorem alX{a b:Bool}(h:a≠b):(a != b)=true:=by cases a<;>cases b<;>first|rfl|exact absurd rfl h
theorem Cb(a:ByteArray):decide (a=a)=true:=decide_eq_true rfl
theorem Bc(a b:List Int)(hn:a.length≤1000000)(hn2:b.length≤1000000):Gxx 235 [fzi a,fzi b] (vb (decide (a=b))):=by
 have hal:=bP a
 have hbl:=bP b
 by_cases hl:a.length=b.length
 ·refine gI oW Tryz.func235 Tryz.results235 ?_
  refine wS (aI @hal @hbl) trivial ?_
  refine aK (fun i:Nat=>mkA [(0,fzi a),(1,fzi b),(5,vi i)] [] 0 (fun _ => .top)) (fun i=>i≤a.length∧a.take i=b.take i) (fun i=>a.length-i) 0 [] [] ?_ ⟨Nat.zero_le _,rfl⟩ ?_
  ·exact kE
  ·rintro i ⟨hi,he⟩
   rcases Nat.lt_or_ge i a.length with hlt|hge
   ·have hg:=mg a i hlt
    have hg2:=mg b i (by omega)
    have hx:=BZ (0:Int) hlt (by omega) he
    by_cases q:a.getD i 0=b.getD i 0
    ·have hx':=hx q
     generalize a.getD i 0=x at *
     generalize b.getD i 0=y at *
     refine wS (aI @hal (aI @hbl (aI @hg @hg2))) trivial ?_
     exact bE (i+1) [] [] ⟨hlt,hx'⟩
    ·rw[decide_eq_false (fun h=>q (by rw[h]))]
     generalize a.getD i 0=x at *
     generalize b.getD i 0=y at *
     exact wR (aI @hal (aI @hbl (aI @hg @hg2))) trivial ah
   ·have:i=a.length:=by omega
    subst this
    rw[decide_eq_true (IR hl he)]
    exact wR (aI @hal @hbl) trivial ah
 ·rw[decide_eq_false (fun h=>hl (by rw[h]))]
  refine gI oW Tryz.func235 Tryz.results235 ?_
  exact wR (aI @hal @hbl) trivial ah
theorem vF(a b:List En)(ha:octE a)(hb:octE b)(hn:a.length≤1000000)(hn2:b.length≤1000000):Gxx 236 [fzv a,fzv b] (vb (decide (a=b))):=by
 have hal:=aY a
 have hbl:=aY b
 by_cases hl:a.length=b.length
 ·refine gI oW Tryz.func236 Tryz.results236 ?_
  refine wS (aI @hal @hbl) trivial ?_
  refine aK (fun i:Nat=>mkA [(0,fzv a),(1,fzv b),(5,vi i)] [] 0 (fun _ => .top)) (fun i=>i≤a.length∧a.take i=b.take i) (fun i=>a.length-i) 0 [] [] ?_ ⟨Nat.zero_le _,rfl⟩ ?_
  ·exact kE
  ·rintro i ⟨hi,he⟩
   rcases Nat.lt_or_ge i a.length with hlt|hge
   ·have hg:=jr a i hlt
    have hg2:=jr b i (by omega)
    have hx:=BZ (([],0,0):En) hlt (by omega) he
    have o1:=lu ha i
    have o2:=lu hb i
    by_cases q:a.getD i ([],0,0)=b.getD i ([],0,0)
    ·have hx':=hx q
     rw[←q] at hg2
     generalize a.getD i ([],0,0)=x at *
     obtain⟨k,c,e⟩:=x
     refine wS (aI @hal (aI @hbl (aI @hg (aI @hg2 (aI @Cb (aI @Bool.not_true (aI @Bool.and_true @Bool.true_and))))))) trivial ?_
     exact bE (i+1) [] [] ⟨hlt,hx'⟩
    ·rw[decide_eq_false (fun h=>q (by rw[h]))]
     generalize a.getD i ([],0,0)=x at *
     generalize b.getD i ([],0,0)=y at *
     obtain⟨k,c,e⟩:=x
     obtain⟨k',c',e'⟩:=y
     simp only at hg hg2 o1 o2
     by_cases q1:k=k'
     ·subst q1
      by_cases q2:c=c'
      ·subst q2
       have q3:e≠e':=fun h=>q (by rw[h])
       exact wR (aI @hal (aI @hbl (aI @hg (aI @hg2 (aI @Cb (aI @Bool.not_true (aI @Bool.not_false (aI @Bool.and_true (aI @Bool.true_and (aI @Bool.false_and @Bool.and_false)))))))))) trivial ah
      ·exact wR (aI @hal (aI @hbl (aI @hg (aI @hg2 (aI @Cb (aI @Bool.not_true (aI @Bool.not_false (aI @Bool.and_true (aI @Bool.true_and (aI @Bool.false_and @Bool.and_false)))))))))) trivial ah
     ·have q4:decide (sB k=sB k')=false:=by rw[sJ o1 o2];exact decide_eq_false q1
      exact wR (aI @hal (aI @hbl (aI @hg (aI @hg2 (aI @q4 (aI @Bool.not_true (aI @Bool.not_false (aI @Bool.and_true (aI @Bool.true_and (aI @Bool.false_and @Bool.and_false)))))))))) trivial ah
   ·have:i=a.length:=by omega
    subst this
    rw[decide_eq_true (IR hl he)]
    exact wR (aI @hal @hbl) trivial ah
 ·rw[decide_eq_false (fun h=>hl (by rw[h]))]
  refine gI oW Tryz.func236 Tryz.results236 ?_
  exact wR (aI @hal @hbl) trivial ah
def Sv(a b:Cm):Bool:=decide (a.d=b.d∧a.z=b.z∧a.s=b.s∧a.b=b.b∧a.c=b.c)
theorem BD(a b:Cm)(hn:a.c.length≤1000000)(hn2:b.c.length≤1000000):Gxx 203 [.agg (cmF a),.agg (cmF b)] (vb (Sv a b)):=by
 have k1:=Bc a.c b.c hn hn2
 unfold Sv
 by_cases q0:a.d=b.d
 ·by_cases q1:a.z=b.z
  ·by_cases q2:a.s=b.s
   ·by_cases q3:a.b=b.b
    ·by_cases q4:a.c=b.c
     ·rw[decide_eq_true ⟨q0,q1,q2,q3,q4⟩]
      rw[decide_eq_true q4] at k1
      obtain⟨d1,z1,s1,c1,b1⟩:=a
      obtain⟨d2,z2,s2,c2,b2⟩:=b
      simp only at *
      try subst q3
      refine gI oW Tryz.func203 Tryz.results203 ?_
      exact wR (aI @gX (aI @Bool.not_true (aI @Bool.not_false (aI @Bool.and_true (aI @Bool.true_and (aI @Bool.false_and @Bool.and_false)))))) k1 ah
     ·rw[decide_eq_false (fun h=>q4 h.2.2.2.2)]
      rw[decide_eq_false q4] at k1
      obtain⟨d1,z1,s1,c1,b1⟩:=a
      obtain⟨d2,z2,s2,c2,b2⟩:=b
      simp only at *
      try subst q3
      refine gI oW Tryz.func203 Tryz.results203 ?_
      exact wR (aI @gX (aI @Bool.not_true (aI @Bool.not_false (aI @Bool.and_true (aI @Bool.true_and (aI @Bool.false_and @Bool.and_false)))))) k1 ah
    ·rw[decide_eq_false (fun h=>q3 h.2.2.2.1)]
     have hb:=Su q3
     obtain⟨d1,z1,s1,c1,b1⟩:=a
     obtain⟨d2,z2,s2,c2,b2⟩:=b
     simp only at *
     try subst q3
     refine gI oW Tryz.func203 Tryz.results203 ?_
     exact wR (aI @gX (aI @Bool.not_true (aI @Bool.not_false (aI @Bool.and_true (aI @Bool.true_and (aI @Bool.false_and (aI @Bool.and_false @hb))))))) k1 ah
   ·rw[decide_eq_false (fun h=>q2 h.2.2.1)]
    obtain⟨d1,z1,s1,c1,b1⟩:=a
    obtain⟨d2,z2,s2,c2,b2⟩:=b
    simp only at *
    try subst q3
    refine gI oW Tryz.func203 Tryz.results203 ?_
    exact wR (aI @gX (aI @Bool.not_true (aI @Bool.not_false (aI @Bool.and_true (aI @Bool.true_and (aI @Bool.false_and @Bool.and_false)))))) k1 ah
  ·rw[decide_eq_false (fun h=>q1 h.2.1)]
   obtain⟨d1,z1,s1,c1,b1⟩:=a
   obtain⟨d2,z2,s2,c2,b2⟩:=b
   simp only at *
   try subst q3
   refine gI oW Tryz.func203 Tryz.results203 ?_
   exact wR (aI @gX (aI @Bool.not_true (aI @Bool.not_false (aI @Bool.and_true (aI @Bool.true_and (aI @Bool.false_and @Bool.and_false)))))) k1 ah
 ·rw[decide_eq_false (fun h=>q0 h.1)]
  obtain⟨d1,z1,s1,c1,b1⟩:=a
  obtain⟨d2,z2,s2,c2,b2⟩:=b
  simp only at *
  try subst q3
  refine gI oW Tryz.func203 Tryz.results203 ?_
  exact wR (aI @gX (aI @Bool.not_true (aI @Bool.not_false (aI @Bool.and_true (aI @Bool.true_and (aI @Bool.false_and @Bool.and_false)))))) k1 ah
def Sz(a b:Ll):Bool:=decide (a.p=b.p∧a.s=b.s∧a.r=b.r)
theorem EZ(a b:Ll)(hn:a.r.length≤1000000)(hn2:b.r.length≤1000000):Gxx 204 [.agg (llF a),.agg (llF b)] (vb (Sz a b)):=by
 have k1:=Bc a.r b.r hn hn2
 unfold Sz
 by_cases q0:a.p=b.p
 ·by_cases q1:a.s=b.s
  ·by_cases q2:a.r=b.r
   ·rw[decide_eq_true ⟨q0,q1,q2⟩]
    rw[decide_eq_true q2] at k1
    obtain⟨p1,s1,r1⟩:=a
    obtain⟨p2,s2,r2⟩:=b
    simp only at *
    refine gI oW Tryz.func204 Tryz.results204 ?_
    exact wR (aI @gX (aI @Bool.not_true (aI @Bool.not_false (aI @Bool.and_true (aI @Bool.true_and (aI @Bool.false_and @Bool.and_false)))))) k1 ah
   ·rw[decide_eq_false (fun h=>q2 h.2.2)]
    rw[decide_eq_false q2] at k1
    obtain⟨p1,s1,r1⟩:=a
    obtain⟨p2,s2,r2⟩:=b
    simp only at *
    refine gI oW Tryz.func204 Tryz.results204 ?_
    exact wR (aI @gX (aI @Bool.not_true (aI @Bool.not_false (aI @Bool.and_true (aI @Bool.true_and (aI @Bool.false_and @Bool.and_false)))))) k1 ah
  ·rw[decide_eq_false (fun h=>q1 h.2.1)]
   obtain⟨p1,s1,r1⟩:=a
   obtain⟨p2,s2,r2⟩:=b
   simp only at *
   refine gI oW Tryz.func204 Tryz.results204 ?_
   exact wR (aI @gX (aI @Bool.not_true (aI @Bool.not_false (aI @Bool.and_true (aI @Bool.true_and (aI @Bool.false_and @Bool.and_false)))))) k1 ah
 ·rw[decide_eq_false (fun h=>q0 h.1)]
  obtain⟨p1,s1,r1⟩:=a
  obtain⟨p2,s2,r2⟩:=b
  simp only at *
  refine gI oW Tryz.func204 Tryz.results204 ?_
  exact wR (aI @gX (aI @Bool.not_true (aI @Bool.not_false (aI @Bool.and_true (aI @Bool.true_and (aI @Bool.false_and @Bool.and_false)))))) k1 ah
def SA(a b:Tp):Bool:=decide (a.z=b.z∧a.t=b.t∧a.b=b.b∧a.e=b.e)
theorem PN(a b:Tp)(ho:octE a.e)(ho2:octE b.e)(hn:a.e.length≤1000000)(hn2:b.e.length≤1000000):Gxx 205 [.agg (tpF a),.agg (tpF b)] (vb (SA a b)):=by
 have k1:=vF a.e b.e ho ho2 hn hn2
 unfold SA
 by_cases q0:a.z=b.z
 ·by_cases q1:a.t=b.t
  ·by_cases q2:a.b=b.b
   ·by_cases q3:a.e=b.e
    ·rw[decide_eq_true ⟨q0,q1,q2,q3⟩]
     rw[decide_eq_true q3] at k1
     obtain⟨z1,t1,e1,b1⟩:=a
     obtain⟨z2,t2,e2,b2⟩:=b
     simp only at *
     try subst q2
     refine gI oW Tryz.func205 Tryz.results205 ?_
     exact wR (aI @gX (aI @Bool.not_true (aI @Bool.not_false (aI @Bool.and_true (aI @Bool.true_and (aI @Bool.false_and @Bool.and_false)))))) k1 ah
    ·rw[decide_eq_false (fun h=>q3 h.2.2.2)]
     rw[decide_eq_false q3] at k1
     obtain⟨z1,t1,e1,b1⟩:=a
     obtain⟨z2,t2,e2,b2⟩:=b
     simp only at *
     try subst q2
     refine gI oW Tryz.func205 Tryz.results205 ?_
     exact wR (aI @gX (aI @Bool.not_true (aI @Bool.not_false (aI @Bool.and_true (aI @Bool.true_and (aI @Bool.false_and @Bool.and_false)))))) k1 ah
   ·rw[decide_eq_false (fun h=>q2 h.2.2.1)]
    have hb:=Su q2
    obtain⟨z1,t1,e1,b1⟩:=a
    obtain⟨z2,t2,e2,b2⟩:=b
    simp only at *
    try subst q2
    refine gI oW Tryz.func205 Tryz.results205 ?_
    exact wR (aI @gX (aI @Bool.not_true (aI @Bool.not_false (aI @Bool.and_true (aI @Bool.true_and (aI @Bool.false_and (aI @Bool.and_false @hb))))))) k1 ah
  ·rw[decide_eq_false (fun h=>q1 h.2.1)]
   obtain⟨z1,t1,e1,b1⟩:=a
   obtain⟨z2,t2,e2,b2⟩:=b
   simp only at *
   try subst q2
   refine gI oW Tryz.func205 Tryz.results205 ?_
   exact wR (aI @gX (aI @Bool.not_true (aI @Bool.not_false (aI @Bool.and_true (aI @Bool.true_and (aI @Bool.false_and @Bool.and_false)))))) k1 ah
 ·rw[decide_eq_false (fun h=>q0 h.1)]
  obtain⟨z1,t1,e1,b1⟩:=a
  obtain⟨z2,t2,e2,b2⟩:=b
  simp only at *
  try subst q2
  refine gI oW Tryz.func205 Tryz.results205 ?_
  exact wR (aI @gX (aI @Bool.not_true (aI @Bool.not_false (aI @Bool.and_true (aI @Bool.true_and (aI @Bool.false_and @Bool.and_false)))))) k1 ah
def SB(a b:Fq):Bool:=decide (a.z=b.z∧a.t=b.t∧a.l=b.l∧a.b=b.b∧a.e=b.e)
theorem BF(a b:Fq)(ho:octE a.e)(ho2:octE b.e)(hn:a.e.length≤1000000)(hn2:b.e.length≤1000000):Gxx 206 [.agg (fqF a),.agg (fqF b)] (vb (SB a b)):=by
 have k1:=vF a.e b.e ho ho2 hn hn2
 unfold SB
 by_cases q0:a.z=b.z
 ·by_cases q1:a.t=b.t
  ·by_cases q2:a.l=b.l
   ·by_cases q3:a.b=b.b
    ·by_cases q4:a.e=b.e
     ·rw[decide_eq_true ⟨q0,q1,q2,q3,q4⟩]
      rw[decide_eq_true q4] at k1
      obtain⟨z1,t1,l1,e1,b1⟩:=a
      obtain⟨z2,t2,l2,e2,b2⟩:=b
      simp only at *
      try subst q3
      refine gI oW Tryz.func206 Tryz.results206 ?_
      exact wR (aI @gX (aI @Bool.not_true (aI @Bool.not_false (aI @Bool.and_true (aI @Bool.true_and (aI @Bool.false_and @Bool.and_false)))))) k1 ah
     ·rw[decide_eq_false (fun h=>q4 h.2.2.2.2)]
      rw[decide_eq_false q4] at k1
      obtain⟨z1,t1,l1,e1,b1⟩:=a
      obtain⟨z2,t2,l2,e2,b2⟩:=b
      simp only at *
      try subst q3
      refine gI oW Tryz.func206 Tryz.results206 ?_
      exact wR (aI @gX (aI @Bool.not_true (aI @Bool.not_false (aI @Bool.and_true (aI @Bool.true_and (aI @Bool.false_and @Bool.and_false)))))) k1 ah
    ·rw[decide_eq_false (fun h=>q3 h.2.2.2.1)]
     have hb:=Su q3
     obtain⟨z1,t1,l1,e1,b1⟩:=a
     obtain⟨z2,t2,l2,e2,b2⟩:=b
     simp only at *
     try subst q3
     refine gI oW Tryz.func206 Tryz.results206 ?_
     exact wR (aI @gX (aI @Bool.not_true (aI @Bool.not_false (aI @Bool.and_true (aI @Bool.true_and (aI @Bool.false_and (aI @Bool.and_false @hb))))))) k1 ah
   ·rw[decide_eq_false (fun h=>q2 h.2.2.1)]
    obtain⟨z1,t1,l1,e1,b1⟩:=a
    obtain⟨z2,t2,l2,e2,b2⟩:=b
    simp only at *
    try subst q3
    refine gI oW Tryz.func206 Tryz.results206 ?_
    exact wR (aI @gX (aI @Bool.not_true (aI @Bool.not_false (aI @Bool.and_true (aI @Bool.true_and (aI @Bool.false_and @Bool.and_false)))))) k1 ah
  ·rw[decide_eq_false (fun h=>q1 h.2.1)]
   obtain⟨z1,t1,l1,e1,b1⟩:=a
   obtain⟨z2,t2,l2,e2,b2⟩:=b
   simp only at *
   try subst q3
   refine gI oW Tryz.func206 Tryz.results206 ?_
   exact wR (aI @gX (aI @Bool.not_true (aI @Bool.not_false (aI @Bool.and_true (aI @Bool.true_and (aI @Bool.false_and @Bool.and_false)))))) k1 ah
 ·rw[decide_eq_false (fun h=>q0 h.1)]
  obtain⟨z1,t1,l1,e1,b1⟩:=a
  obtain⟨z2,t2,l2,e2,b2⟩:=b
  simp only at *
  try subst q3
  refine gI oW Tryz.func206 Tryz.results206 ?_
  exact wR (aI @gX (aI @Bool.not_true (aI @Bool.not_false (aI @Bool.and_true (aI @Bool.true_and (aI @Bool.false_and @Bool.and_false)))))) k1 ah
def SC(a b:Rk):Bool:=decide (a.z=b.z∧a.t=b.t∧a.l=b.l∧a.b=b.b∧a.v=b.v)
theorem IU(a b:Rk)(ha:∀l∈a.v,octL l)(hb:∀l∈b.v,octL l)(hn:a.v.length≤1000000)(hn2:b.v.length≤1000000)(hm:∀l∈a.v,l.length≤1000000)(hm2:∀l∈b.v,l.length≤1000000):Gxx 207 [.agg (rkF a),.agg (rkF b)] (vb (SC a b)):=by
 have hA:∀i,octL (a.v.getD i [])∧(a.v.getD i []).length≤1000000:=fun i=>by
  rcases Nat.lt_or_ge i a.v.length with hi|hi
  ·exact⟨ha _ (jS _ _ _ hi),hm _ (jS _ _ _ hi)⟩
  ·rw[List.getD,List.getElem?_eq_none hi];exact⟨(fun e he=>by cases he),by simp⟩
 have hB:∀i,octL (b.v.getD i [])∧(b.v.getD i []).length≤1000000:=fun i=>by
  rcases Nat.lt_or_ge i b.v.length with hi|hi
  ·exact⟨hb _ (jS _ _ _ hi),hm2 _ (jS _ _ _ hi)⟩
  ·rw[List.getD,List.getElem?_eq_none hi];exact⟨(fun e he=>by cases he),by simp⟩
 unfold SC
 obtain⟨z,t,l,v,bb⟩:=a
 obtain⟨z',t',l',v',bb'⟩:=b
 simp only at *
 have hal:=mr v
 have hbl:=mr v'
 generalize hD:decide (z=z'∧t=t'∧l=l'∧bb=bb'∧v=v')=D
 by_cases q0:z=z'
 ·by_cases q1:t=t'
  ·by_cases q2:l=l'
   ·by_cases q3:bb=bb'
    ·by_cases q4:v.length=v'.length
     ·subst q3
      refine gI oW Tryz.func207 Tryz.results207 ?_
      refine wS (aI @Sr (aI @hal (aI @hbl (aI @Bool.not_true (aI @Bool.not_false (aI @Bool.and_true (aI @Bool.true_and (aI @Bool.false_and @Bool.and_false)))))))) trivial ?_
      refine aK (fun i:Nat=>mkA [(2,.ref 0 0),(3,.ref 1 0),(5,vi i)] [(0,(91,rkF ⟨z,t,l,v,bb⟩)),(1,(91,rkF ⟨z',t',l',v',bb⟩))] 2 (fun _ => .top)) (fun i=>i≤v.length∧v.take i=v'.take i) (fun i=>v.length-i) 0 [] [0,1] ?_ ⟨Nat.zero_le _,rfl⟩ ?_
      ·exact kE
      ·rintro i ⟨hi,he⟩
       rcases Nat.lt_or_ge i v.length with hlt|hge
       ·have hg:=uK v i hlt
        have hg2:=uK v' i (by omega)
        have hx:=BZ ([]:List (List Nat)) hlt (by omega) he
        have o1:=hA i
        have o2:=hB i
        have hne:v.getD i []≠v'.getD i []→v≠v':=fun h h2=>h (by rw[h2])
        generalize v.getD i []=x at *
        generalize v'.getD i []=y at *
        have hxl:=au x
        have hyl:=au y
        by_cases q5:x.length=y.length
        ·refine wS (aI @hal (aI @hbl (aI @hg (aI @hg2 (aI @hxl @hyl))))) trivial ?_
         refine aK (fun j:Nat=>mkA [(2,.ref 0 0),(3,.ref 1 0),(5,vi i),(6,vi j)] [(0,(91,rkF ⟨z,t,l,v,bb⟩)),(1,(91,rkF ⟨z',t',l',v',bb⟩))] 2 (fun _ => .top)) (fun j=>j≤x.length∧x.take j=y.take j) (fun j=>x.length-j) 0 [] [0,1] ?_ ⟨Nat.zero_le _,rfl⟩ ?_
         ·exact kE
         ·rintro j ⟨hj,he2⟩
          rcases Nat.lt_or_ge j x.length with hlt2|hge2
          ·have hh:=iK x j hlt2
           have hh2:=iK y j (by omega)
           have hx2:=BZ ([]:List Nat) hlt2 (by omega) he2
           have p1:=uZ o1.1 j
           have p2:=uZ o2.1 j
           have hne2:x.getD j []≠y.getD j []→x≠y:=fun h h2=>h (by rw[h2])
           generalize x.getD j []=k at *
           generalize y.getD j []=k' at *
           by_cases q6:k=k'
           ·subst q6
            refine wS (aI @hal (aI @hbl (aI @hg (aI @hg2 (aI @hxl (aI @hyl (aI @hh (aI @hh2 (aI @Cb (aI @Bool.not_true @Bool.not_false)))))))))) trivial ?_
            exact bE (j+1) [] [0,1] ⟨hlt2,hx2 rfl⟩
           ·have q7:decide (sB k=sB k')=false:=by rw[sJ p1 p2];exact decide_eq_false q6
            rw[←hD,decide_eq_false (fun h=>hne (hne2 q6) h.2.2.2.2)]
            exact wR (aI @hal (aI @hbl (aI @hg (aI @hg2 (aI @hxl (aI @hyl (aI @hh (aI @hh2 (aI @q7 (aI @Bool.not_true @Bool.not_false)))))))))) trivial ah
          ·have:j=x.length:=by omega
           subst this
           have hxy:=IR q5 he2
           refine wS (aI @hal (aI @hbl (aI @hg (aI @hg2 (aI @hxl @hyl))))) trivial ?_
           exact bE (i+1) [] [0,1] ⟨hlt,hx hxy⟩
        ·rw[←hD,decide_eq_false (fun h=>hne (fun h2=>q5 (by rw[h2])) h.2.2.2.2)]
         exact wR (aI @hal (aI @hbl (aI @hg (aI @hg2 (aI @hxl @hyl))))) trivial ah
       ·have:i=v.length:=by omega
        subst this
        rw[←hD,decide_eq_true ⟨q0,q1,q2,rfl,IR q4 he⟩]
        exact wR (aI @hal @hbl) trivial ah
     ·rw[←hD,decide_eq_false (fun h=>q4 (by rw[h.2.2.2.2]))]
      subst q3
      refine gI oW Tryz.func207 Tryz.results207 ?_
      exact wR (aI @Sr (aI @hal (aI @hbl (aI @Bool.not_true (aI @Bool.not_false (aI @Bool.and_true (aI @Bool.true_and (aI @Bool.false_and @Bool.and_false)))))))) trivial ah
    ·rw[←hD,decide_eq_false (fun h=>q3 h.2.2.2.1)]
     have hq:=alX q3
     have hq2:=Su q3
     refine gI oW Tryz.func207 Tryz.results207 ?_
     exact wR (aI @hq (aI @hq2 (aI @hal (aI @hbl (aI @Bool.not_true (aI @Bool.not_false (aI @Bool.and_true (aI @Bool.true_and (aI @Bool.false_and @Bool.and_false))))))))) trivial ah
   ·rw[←hD,decide_eq_false (fun h=>q2 h.2.2.1)]
    refine gI oW Tryz.func207 Tryz.results207 ?_
    exact wR (aI @hal (aI @hbl (aI @Bool.not_true (aI @Bool.not_false (aI @Bool.and_true (aI @Bool.true_and (aI @Bool.false_and @Bool.and_false))))))) trivial ah
  ·rw[←hD,decide_eq_false (fun h=>q1 h.2.1)]
   refine gI oW Tryz.func207 Tryz.results207 ?_
   exact wR (aI @hal (aI @hbl (aI @Bool.not_true (aI @Bool.not_false (aI @Bool.and_true (aI @Bool.true_and (aI @Bool.false_and @Bool.and_false))))))) trivial ah
 ·rw[←hD,decide_eq_false (fun h=>q0 h.1)]
  refine gI oW Tryz.func207 Tryz.results207 ?_
  exact wR (aI @hal (aI @hbl (aI @Bool.not_true (aI @Bool.not_false (aI @Bool.and_true (aI @Bool.true_and (aI @Bool.false_and @Bool.and_false))))))) trivial ah
end Go.Proofs.YtjiolbcdfgclaaaGreatDoor
