/-
  Texts of this claim, merged; own names are short.
-/
import Derived.Test.YtjiolbcdfgclaaaGreatDoorWAR
import Derived.Test.YtjiolbcdfgclaaaGreatDoorWAJ
set_option linter.unusedVariables false
set_option linter.unusedSimpArgs false
set_option linter.unusedSectionVars false
set_option linter.defProp false
set_option maxRecDepth 100000
set_option maxHeartbeats 8000000
namespace Go.Proofs.YtjiolbcdfgclaaaGreatDoor
open Go Go.Pg
theorem BZ{α:Type}(d:α){a b:List α}{i:Nat}(ha:i<a.length)(hb:i<b.length)(h:a.take i=b.take i)(he:a.getD i d=b.getD i d):a.take (i+1)=b.take (i+1):=by
 rw[List.take_succ_eq_append_getElem ha,List.take_succ_eq_append_getElem hb,h]
 simp only[List.getD,List.getElem?_eq_getElem ha,List.getElem?_eq_getElem hb,Option.getD_some] at he
 rw[he]
theorem IR{α:Type}{a b:List α}(hl:a.length=b.length)(h:a.take a.length=b.take a.length):a=b:=by
 rw[List.take_length,hl,List.take_length] at h
 exact h
theorem gX(b:Bool):(b == b)=true:=by cases b<;>rfl
theorem Sr(b:Bool):(b != b)=false:=by cases b<;>rfl
theorem Su{a b:Bool}(h:a≠b):(a == b)=false:=by cases a<;>cases b<;>first|rfl|exact absurd rfl h
theorem alX{a b:Bool}(h:a≠b):(a != b)=true:=by cases a<;>cases b<;>first|rfl|exact absurd rfl h
theorem Cb(a:ByteArray):decide (a=a)=true:=decide_eq_true rfl
theorem Bc(a b:List Int)(hn:a.length≤1000000)(hn2:b.length≤1000000):Gxx 235 [fzi a,fzi b] (vb (decide (a=b))):=by
 have hal:=bP a
 have hbl:=bP b
 by_cases hl:a.length=b.length
 ·refine gI oW Tryz.func235 Tryz.results235 ?_
  refine wS (aI @hal @hbl) trivial ?_
  refine aK (fun i:Nat=>mkA [(0,fzi a),(1,fzi b),(5,vi i)] [] 0 (fun _ => .top)) (fun i=>i≤a.length∧a.take i=b.take i) (fun i=>a.length-i) 0 [] [] ?_ ⟨Nat.zero_le _,rfl⟩ ?_
  ·exact kE
  ·rintro i ⟨hi,he⟩
   rcases Nat.lt_or_ge i a.length with hlt|hge
   ·have hg:=mg a i hlt
    have hg2:=mg b i (by omega)
    have hx:=BZ (0:Int) hlt (by omega) he
    by_cases q:a.getD i 0=b.getD i 0
    ·have hx':=hx q
     generalize a.getD i 0=x at *
     generalize b.getD i 0=y at *
     refine wS (aI @hal (aI @hbl (aI @hg @hg2))) trivial ?_
     exact bE (i+1) [] [] ⟨hlt,hx'⟩
    ·rw[decide_eq_false (fun h=>q (by rw[h]))]
     generalize a.getD i 0=x at *
     generalize b.getD i 0=y at *
     exact wR (aI @hal (aI @hbl (aI @hg @hg2))) trivial ah
   ·have:i=a.length:=by omega
    subst this
    rw[decide_eq_true (IR hl he)]
    exact wR (aI @hal @hbl) trivial ah
 ·rw[decide_eq_false (fun h=>hl (by rw[h]))]
  refine gI oW Tryz.func235 Tryz.results235 ?_
  exact wR (aI @hal @hbl) trivial ah
theorem vF(a b:List En)(ha:octE a)(hb:octE b)(hn:a.length≤1000000)(hn2:b.length≤1000000):Gxx 236 [fzv a,fzv b] (vb (decide (a=b))):=by
 have hal:=aY a
 have hbl:=aY b
 by_cases hl:a.length=b.length
 ·refine gI oW Tryz.func236 Tryz.results236 ?_
  refine wS (aI @hal @hbl) trivial ?_
  refine aK (fun i:Nat=>mkA [(0,fzv a),(1,fzv b),(5,vi i)] [] 0 (fun _ => .top)) (fun i=>i≤a.length∧a.take i=b.take i) (fun i=>a.length-i) 0 [] [] ?_ ⟨Nat.zero_le _,rfl⟩ ?_
  ·exact kE
  ·rintro i ⟨hi,he⟩
   rcases Nat.lt_or_ge i a.length with hlt|hge
   ·have hg:=jr a i hlt
    have hg2:=jr b i (by omega)
    have hx:=BZ (([],0,0):En) hlt (by omega) he
    have o1:=lu ha i
    have o2:=lu hb i
    by_cases q:a.getD i ([],0,0)=b.getD i ([],0,0)
    ·have hx':=hx q
     rw[←q] at hg2
     generalize a.getD i ([],0,0)=x at *
     obtain⟨k,c,e⟩:=x
     refine wS (aI @hal (aI @hbl (aI @hg (aI @hg2 (aI @Cb (aI @Bool.not_true (aI @Bool.and_true @Bool.true_and))))))) trivial ?_
     exact bE (i+1) [] [] ⟨hlt,hx'⟩
    ·rw[decide_eq_false (fun h=>q (by rw[h]))]
     generalize a.getD i ([],0,0)=x at *
     generalize b.getD i ([],0,0)=y at *
     obtain⟨k,c,e⟩:=x
     obtain⟨k',c',e'⟩:=y
     simp only at hg hg2 o1 o2
     by_cases q1:k=k'
     ·subst q1
      by_cases q2:c=c'
      ·subst q2
       have q3:e≠e':=fun h=>q (by rw[h])
       exact wR (aI @hal (aI @hbl (aI @hg (aI @hg2 (aI @Cb (aI @Bool.not_true (aI @Bool.not_false (aI @Bool.and_true (aI @Bool.true_and (aI @Bool.false_and @Bool.and_false)))))))))) trivial ah
      ·exact wR (aI @hal (aI @hbl (aI @hg (aI @hg2 (aI @Cb (aI @Bool.not_true (aI @Bool.not_false (aI @Bool.and_true (aI @Bool.true_and (aI @Bool.false_and @Bool.and_false)))))))))) trivial ah
     ·have q4:decide (sB k=sB k')=false:=by rw[sJ o1 o2];exact decide_eq_false q1
      exact wR (aI @hal (aI @hbl (aI @hg (aI @hg2 (aI @q4 (aI @Bool.not_true (aI @Bool.not_false (aI @Bool.and_true (aI @Bool.true_and (aI @Bool.false_and @Bool.and_false)))))))))) trivial ah
   ·have:i=a.length:=by omega
    subst this
    rw[decide_eq_true (IR hl he)]
    exact wR (aI @hal @hbl) trivial ah
 ·rw[decide_eq_false (fun h=>hl (by rw[h]))]
  refine gI oW Tryz.func236 Tryz.results236 ?_
  exact wR (aI @hal @hbl) trivial ah
def Sv(a b:Cm):Bool:=decide (a.d=b.d∧a.z=b.z∧a.s=b.s∧a.b=b.b∧a.c=b.c)
theorem BD(a b:Cm)(hn:a.c.length≤1000000)(hn2:b.c.length≤1000000):Gxx 203 [.agg (cmF a),.agg (cmF b)] (vb (Sv a b)):=by
 have k1:=Bc a.c b.c hn hn2
 unfold Sv
 by_cases q0:a.d=b.d
 ·by_cases q1:a.z=b.z
  ·by_cases q2:a.s=b.s
   ·by_cases q3:a.b=b.b
    ·by_cases q4:a.c=b.c
     ·rw[decide_eq_true ⟨q0,q1,q2,q3,q4⟩]
      rw[decide_eq_true q4] at k1
      obtain⟨d1,z1,s1,c1,b1⟩:=a
      obtain⟨d2,z2,s2,c2,b2⟩:=b
      simp only at *
      try subst q3
      refine gI oW Tryz.func203 Tryz.results203 ?_
      exact wR (aI @gX (aI @Bool.not_true (aI @Bool.not_false (aI @Bool.and_true (aI @Bool.true_and (aI @Bool.false_and @Bool.and_false)))))) k1 ah
     ·rw[decide_eq_false (fun h=>q4 h.2.2.2.2)]
      rw[decide_eq_false q4] at k1
      obtain⟨d1,z1,s1,c1,b1⟩:=a
      obtain⟨d2,z2,s2,c2,b2⟩:=b
      simp only at *
      try subst q3
      refine gI oW Tryz.func203 Tryz.results203 ?_
      exact wR (aI @gX (aI @Bool.not_true (aI @Bool.not_false (aI @Bool.and_true (aI @Bool.true_and (aI @Bool.false_and @Bool.and_false)))))) k1 ah
    ·rw[decide_eq_false (fun h=>q3 h.2.2.2.1)]
     have hb:=Su q3
     obtain⟨d1,z1,s1,c1,b1⟩:=a
     obtain⟨d2,z2,s2,c2,b2⟩:=b
     simp only at *
     try subst q3
     refine gI oW Tryz.func203 Tryz.results203 ?_
     exact wR (aI @gX (aI @Bool.not_true (aI @Bool.not_false (aI @Bool.and_true (aI @Bool.true_and (aI @Bool.false_and (aI @Bool.and_false @hb))))))) k1 ah
   ·rw[decide_eq_false (fun h=>q2 h.2.2.1)]
    obtain⟨d1,z1,s1,c1,b1⟩:=a
    obtain⟨d2,z2,s2,c2,b2⟩:=b
    simp only at *
    try subst q3
    refine gI oW Tryz.func203 Tryz.results203 ?_
    exact wR (aI @gX (aI @Bool.not_true (aI @Bool.not_false (aI @Bool.and_true (aI @Bool.true_and (aI @Bool.false_and @Bool.and_false)))))) k1 ah
  ·rw[decide_eq_false (fun h=>q1 h.2.1)]
   obtain⟨d1,z1,s1,c1,b1⟩:=a
   obtain⟨d2,z2,s2,c2,b2⟩:=b
   simp only at *
   try subst q3
   refine gI oW Tryz.func203 Tryz.results203 ?_
   exact wR (aI @gX (aI @Bool.not_true (aI @Bool.not_false (aI @Bool.and_true (aI @Bool.true_and (aI @Bool.false_and @Bool.and_false)))))) k1 ah
 ·rw[decide_eq_false (fun h=>q0 h.1)]
  obtain⟨d1,z1,s1,c1,b1⟩:=a
  obtain⟨d2,z2,s2,c2,b2⟩:=b
  simp only at *
  try subst q3
  refine gI oW Tryz.func203 Tryz.results203 ?_
  exact wR (aI @gX (aI @Bool.not_true (aI @Bool.not_false (aI @Bool.and_true (aI @Bool.true_and (aI @Bool.false_and @Bool.and_false)))))) k1 ah
def Sz(a b:Ll):Bool:=decide (a.p=b.p∧a.s=b.s∧a.r=b.r)
theorem EZ(a b:Ll)(hn:a.r.length≤1000000)(hn2:b.r.length≤1000000):Gxx 204 [.agg (llF a),.agg (llF b)] (vb (Sz a b)):=by
 have k1:=Bc a.r b.r hn hn2
 unfold Sz
 by_cases q0:a.p=b.p
 ·by_cases q1:a.s=b.s
  ·by_cases q2:a.r=b.r
   ·rw[decide_eq_true ⟨q0,q1,q2⟩]
    rw[decide_eq_true q2] at k1
    obtain⟨p1,s1,r1⟩:=a
    obtain⟨p2,s2,r2⟩:=b
    simp only at *
    refine gI oW Tryz.func204 Tryz.results204 ?_
    exact wR (aI @gX (aI @Bool.not_true (aI @Bool.not_false (aI @Bool.and_true (aI @Bool.true_and (aI @Bool.false_and @Bool.and_false)))))) k1 ah
   ·rw[decide_eq_false (fun h=>q2 h.2.2)]
    rw[decide_eq_false q2] at k1
    obtain⟨p1,s1,r1⟩:=a
    obtain⟨p2,s2,r2⟩:=b
    simp only at *
    refine gI oW Tryz.func204 Tryz.results204 ?_
    exact wR (aI @gX (aI @Bool.not_true (aI @Bool.not_false (aI @Bool.and_true (aI @Bool.true_and (aI @Bool.false_and @Bool.and_false)))))) k1 ah
  ·rw[decide_eq_false (fun h=>q1 h.2.1)]
   obtain⟨p1,s1,r1⟩:=a
   obtain⟨p2,s2,r2⟩:=b
   simp only at *
   refine gI oW Tryz.func204 Tryz.results204 ?_
   exact wR (aI @gX (aI @Bool.not_true (aI @Bool.not_false (aI @Bool.and_true (aI @Bool.true_and (aI @Bool.false_and @Bool.and_false)))))) k1 ah
 ·rw[decide_eq_false (fun h=>q0 h.1)]
  obtain⟨p1,s1,r1⟩:=a
  obtain⟨p2,s2,r2⟩:=b
  simp only at *
  refine gI oW Tryz.func204 Tryz.results204 ?_
  exact wR (aI @gX (aI @Bool.not_true (aI @Bool.not_false (aI @Bool.and_true (aI @Bool.true_and (aI @Bool.false_and @Bool.and_false)))))) k1 ah
def SA(a b:Tp):Bool:=decide (a.z=b.z∧a.t=b.t∧a.b=b.b∧a.e=b.e)
theorem PN(a b:Tp)(ho:octE a.e)(ho2:octE b.e)(hn:a.e.length≤1000000)(hn2:b.e.length≤1000000):Gxx 205 [.agg (tpF a),.agg (tpF b)] (vb (SA a b)):=by
 have k1:=vF a.e b.e ho ho2 hn hn2
 unfold SA
 by_cases q0:a.z=b.z
 ·by_cases q1:a.t=b.t
  ·by_cases q2:a.b=b.b
   ·by_cases q3:a.e=b.e
    ·rw[decide_eq_true ⟨q0,q1,q2,q3⟩]
     rw[decide_eq_true q3] at k1
     obtain⟨z1,t1,e1,b1⟩:=a
     obtain⟨z2,t2,e2,b2⟩:=b
     simp only at *
     try subst q2
     refine gI oW Tryz.func205 Tryz.results205 ?_
     exact wR (aI @gX (aI @Bool.not_true (aI @Bool.not_false (aI @Bool.and_true (aI @Bool.true_and (aI @Bool.false_and @Bool.and_false)))))) k1 ah
    ·rw[decide_eq_false (fun h=>q3 h.2.2.2)]
     rw[decide_eq_false q3] at k1
     obtain⟨z1,t1,e1,b1⟩:=a
     obtain⟨z2,t2,e2,b2⟩:=b
     simp only at *
     try subst q2
     refine gI oW Tryz.func205 Tryz.results205 ?_
     exact wR (aI @gX (aI @Bool.not_true (aI @Bool.not_false (aI @Bool.and_true (aI @Bool.true_and (aI @Bool.false_and @Bool.and_false)))))) k1 ah
   ·rw[decide_eq_false (fun h=>q2 h.2.2.1)]
    have hb:=Su q2
    obtain⟨z1,t1,e1,b1⟩:=a
    obtain⟨z2,t2,e2,b2⟩:=b
    simp only at *
    try subst q2
    refine gI oW Tryz.func205 Tryz.results205 ?_
    exact wR (aI @gX (aI @Bool.not_true (aI @Bool.not_false (aI @Bool.and_true (aI @Bool.true_and (aI @Bool.false_and (aI @Bool.and_false @hb))))))) k1 ah
  ·rw[decide_eq_false (fun h=>q1 h.2.1)]
   obtain⟨z1,t1,e1,b1⟩:=a
   obtain⟨z2,t2,e2,b2⟩:=b
   simp only at *
   try subst q2
   refine gI oW Tryz.func205 Tryz.results205 ?_
   exact wR (aI @gX (aI @Bool.not_true (aI @Bool.not_false (aI @Bool.and_true (aI @Bool.true_and (aI @Bool.false_and @Bool.and_false)))))) k1 ah
 ·rw[decide_eq_false (fun h=>q0 h.1)]
  obtain⟨z1,t1,e1,b1⟩:=a
  obtain⟨z2,t2,e2,b2⟩:=b
  simp only at *
  try subst q2
  refine gI oW Tryz.func205 Tryz.results205 ?_
  exact wR (aI @gX (aI @Bool.not_true (aI @Bool.not_false (aI @Bool.and_true (aI @Bool.true_and (aI @Bool.false_and @Bool.and_false)))))) k1 ah
def SB(a b:Fq):Bool:=decide (a.z=b.z∧a.t=b.t∧a.l=b.l∧a.b=b.b∧a.e=b.e)
theorem BF(a b:Fq)(ho:octE a.e)(ho2:octE b.e)(hn:a.e.length≤1000000)(hn2:b.e.length≤1000000):Gxx 206 [.agg (fqF a),.agg (fqF b)] (vb (SB a b)):=by
 have k1:=vF a.e b.e ho ho2 hn hn2
 unfold SB
 by_cases q0:a.z=b.z
 ·by_cases q1:a.t=b.t
  ·by_cases q2:a.l=b.l
   ·by_cases q3:a.b=b.b
    ·by_cases q4:a.e=b.e
     ·rw[decide_eq_true ⟨q0,q1,q2,q3,q4⟩]
      rw[decide_eq_true q4] at k1
      obtain⟨z1,t1,l1,e1,b1⟩:=a
      obtain⟨z2,t2,l2,e2,b2⟩:=b
      simp only at *
      try subst q3
      refine gI oW Tryz.func206 Tryz.results206 ?_
      exact wR (aI @gX (aI @Bool.not_true (aI @Bool.not_false (aI @Bool.and_true (aI @Bool.true_and (aI @Bool.false_and @Bool.and_false)))))) k1 ah
     ·rw[decide_eq_false (fun h=>q4 h.2.2.2.2)]
      rw[decide_eq_false q4] at k1
      obtain⟨z1,t1,l1,e1,b1⟩:=a
      obtain⟨z2,t2,l2,e2,b2⟩:=b
      simp only at *
      try subst q3
      refine gI oW Tryz.func206 Tryz.results206 ?_
      exact wR (aI @gX (aI @Bool.not_true (aI @Bool.not_false (aI @Bool.and_true (aI @Bool.true_and (aI @Bool.false_and @Bool.and_false)))))) k1 ah
    ·rw[decide_eq_false (fun h=>q3 h.2.2.2.1)]
     have hb:=Su q3
     obtain⟨z1,t1,l1,e1,b1⟩:=a
     obtain⟨z2,t2,l2,e2,b2⟩:=b
     simp only at *
     try subst q3
     refine gI oW Tryz.func206 Tryz.results206 ?_
     exact wR (aI @gX (aI @Bool.not_true (aI @Bool.not_false (aI @Bool.and_true (aI @Bool.true_and (aI @Bool.false_and (aI @Bool.and_false @hb))))))) k1 ah
   ·rw[decide_eq_false (fun h=>q2 h.2.2.1)]
    obtain⟨z1,t1,l1,e1,b1⟩:=a
    obtain⟨z2,t2,l2,e2,b2⟩:=b
    simp only at *
    try subst q3
    refine gI oW Tryz.func206 Tryz.results206 ?_
    exact wR (aI @gX (aI @Bool.not_true (aI @Bool.not_false (aI @Bool.and_true (aI @Bool.true_and (aI @Bool.false_and @Bool.and_false)))))) k1 ah
  ·rw[decide_eq_false (fun h=>q1 h.2.1)]
   obtain⟨z1,t1,l1,e1,b1⟩:=a
   obtain⟨z2,t2,l2,e2,b2⟩:=b
   simp only at *
   try subst q3
   refine gI oW Tryz.func206 Tryz.results206 ?_
   exact wR (aI @gX (aI @Bool.not_true (aI @Bool.not_false (aI @Bool.and_true (aI @Bool.true_and (aI @Bool.false_and @Bool.and_false)))))) k1 ah
 ·rw[decide_eq_false (fun h=>q0 h.1)]
  obtain⟨z1,t1,l1,e1,b1⟩:=a
  obtain⟨z2,t2,l2,e2,b2⟩:=b
  simp only at *
  try subst q3
  refine gI oW Tryz.func206 Tryz.results206 ?_
  exact wR (aI @gX (aI @Bool.not_true (aI @Bool.not_false (aI @Bool.and_true (aI @Bool.true_and (aI @Bool.false_and @Bool.and_false)))))) k1 ah
def SC(a b:Rk):Bool:=decide (a.z=b.z∧a.t=b.t∧a.l=b.l∧a.b=b.b∧a.v=b.v)
theorem IU(a b:Rk)(ha:∀l∈a.v,octL l)(hb:∀l∈b.v,octL l)(hn:a.v.length≤1000000)(hn2:b.v.length≤1000000)(hm:∀l∈a.v,l.length≤1000000)(hm2:∀l∈b.v,l.length≤1000000):Gxx 207 [.agg (rkF a),.agg (rkF b)] (vb (SC a b)):=by
 have hA:∀i,octL (a.v.getD i [])∧(a.v.getD i []).length≤1000000:=fun i=>by
  rcases Nat.lt_or_ge i a.v.length with hi|hi
  ·exact⟨ha _ (jS _ _ _ hi),hm _ (jS _ _ _ hi)⟩
  ·rw[List.getD,List.getElem?_eq_none hi];exact⟨(fun e he=>by cases he),by simp⟩
 have hB:∀i,octL (b.v.getD i [])∧(b.v.getD i []).length≤1000000:=fun i=>by
  rcases Nat.lt_or_ge i b.v.length with hi|hi
  ·exact⟨hb _ (jS _ _ _ hi),hm2 _ (jS _ _ _ hi)⟩
  ·rw[List.getD,List.getElem?_eq_none hi];exact⟨(fun e he=>by cases he),by simp⟩
 unfold SC
 obtain⟨z,t,l,v,bb⟩:=a
 obtain⟨z',t',l',v',bb'⟩:=b
 simp only at *
 have hal:=mr v
 have hbl:=mr v'
 generalize hD:decide (z=z'∧t=t'∧l=l'∧bb=bb'∧v=v')=D
 by_cases q0:z=z'
 ·by_cases q1:t=t'
  ·by_cases q2:l=l'
   ·by_cases q3:bb=bb'
    ·by_cases q4:v.length=v'.length
     ·subst q3
      refine gI oW Tryz.func207 Tryz.results207 ?_
      refine wS (aI @Sr (aI @hal (aI @hbl (aI @Bool.not_true (aI @Bool.not_false (aI @Bool.and_true (aI @Bool.true_and (aI @Bool.false_and @Bool.and_false)))))))) trivial ?_
      refine aK (fun i:Nat=>mkA [(2,.ref 0 0),(3,.ref 1 0),(5,vi i)] [(0,(91,rkF ⟨z,t,l,v,bb⟩)),(1,(91,rkF ⟨z',t',l',v',bb⟩))] 2 (fun _ => .top)) (fun i=>i≤v.length∧v.take i=v'.take i) (fun i=>v.length-i) 0 [] [0,1] ?_ ⟨Nat.zero_le _,rfl⟩ ?_
      ·exact kE
      ·rintro i ⟨hi,he⟩
       rcases Nat.lt_or_ge i v.length with hlt|hge
       ·have hg:=uK v i hlt
        have hg2:=uK v' i (by omega)
        have hx:=BZ ([]:List (List Nat)) hlt (by omega) he
        have o1:=hA i
        have o2:=hB i
        have hne:v.getD i []≠v'.getD i []→v≠v':=fun h h2=>h (by rw[h2])
        generalize v.getD i []=x at *
        generalize v'.getD i []=y at *
        have hxl:=au x
        have hyl:=au y
        by_cases q5:x.length=y.length
        ·refine wS (aI @hal (aI @hbl (aI @hg (aI @hg2 (aI @hxl @hyl))))) trivial ?_
         refine aK (fun j:Nat=>mkA [(2,.ref 0 0),(3,.ref 1 0),(5,vi i),(6,vi j)] [(0,(91,rkF ⟨z,t,l,v,bb⟩)),(1,(91,rkF ⟨z',t',l',v',bb⟩))] 2 (fun _ => .top)) (fun j=>j≤x.length∧x.take j=y.take j) (fun j=>x.length-j) 0 [] [0,1] ?_ ⟨Nat.zero_le _,rfl⟩ ?_
         ·exact kE
         ·rintro j ⟨hj,he2⟩
          rcases Nat.lt_or_ge j x.length with hlt2|hge2
          ·have hh:=iK x j hlt2
           have hh2:=iK y j (by omega)
           have hx2:=BZ ([]:List Nat) hlt2 (by omega) he2
           have p1:=uZ o1.1 j
           have p2:=uZ o2.1 j
           have hne2:x.getD j []≠y.getD j []→x≠y:=fun h h2=>h (by rw[h2])
           generalize x.getD j []=k at *
           generalize y.getD j []=k' at *
           by_cases q6:k=k'
           ·subst q6
            refine wS (aI @hal (aI @hbl (aI @hg (aI @hg2 (aI @hxl (aI @hyl (aI @hh (aI @hh2 (aI @Cb (aI @Bool.not_true @Bool.not_false)))))))))) trivial ?_
            exact bE (j+1) [] [0,1] ⟨hlt2,hx2 rfl⟩
           ·have q7:decide (sB k=sB k')=false:=by rw[sJ p1 p2];exact decide_eq_false q6
            rw[←hD,decide_eq_false (fun h=>hne (hne2 q6) h.2.2.2.2)]
            exact wR (aI @hal (aI @hbl (aI @hg (aI @hg2 (aI @hxl (aI @hyl (aI @hh (aI @hh2 (aI @q7 (aI @Bool.not_true @Bool.not_false)))))))))) trivial ah
          ·have:j=x.length:=by omega
           subst this
           have hxy:=IR q5 he2
           refine wS (aI @hal (aI @hbl (aI @hg (aI @hg2 (aI @hxl @hyl))))) trivial ?_
           exact bE (i+1) [] [0,1] ⟨hlt,hx hxy⟩
        ·rw[←hD,decide_eq_false (fun h=>hne (fun h2=>q5 (by rw[h2])) h.2.2.2.2)]
         exact wR (aI @hal (aI @hbl (aI @hg (aI @hg2 (aI @hxl @hyl))))) trivial ah
       ·have:i=v.length:=by omega
        subst this
        rw[←hD,decide_eq_true ⟨q0,q1,q2,rfl,IR q4 he⟩]
        exact wR (aI @hal @hbl) trivial ah
     ·rw[←hD,decide_eq_false (fun h=>q4 (by rw[h.2.2.2.2]))]
      subst q3
      refine gI oW Tryz.func207 Tryz.results207 ?_
      exact wR (aI @Sr (aI @hal (aI @hbl (aI @Bool.not_true (aI @Bool.not_false (aI @Bool.and_true (aI @Bool.true_and (aI @Bool.false_and @Bool.and_false)))))))) trivial ah
    ·rw[←hD,decide_eq_false (fun h=>q3 h.2.2.2.1)]
     have hq:=alX q3
     have hq2:=Su q3
     refine gI oW Tryz.func207 Tryz.results207 ?_
     exact wR (aI @hq (aI @hq2 (aI @hal (aI @hbl (aI @Bool.not_true (aI @Bool.not_false (aI @Bool.and_true (aI @Bool.true_and (aI @Bool.false_and @Bool.and_false))))))))) trivial ah
   ·rw[←hD,decide_eq_false (fun h=>q2 h.2.2.1)]
    refine gI oW Tryz.func207 Tryz.results207 ?_
    exact wR (aI @hal (aI @hbl (aI @Bool.not_true (aI @Bool.not_false (aI @Bool.and_true (aI @Bool.true_and (aI @Bool.false_and @Bool.and_false))))))) trivial ah
  ·rw[←hD,decide_eq_false (fun h=>q1 h.2.1)]
   refine gI oW Tryz.func207 Tryz.results207 ?_
   exact wR (aI @hal (aI @hbl (aI @Bool.not_true (aI @Bool.not_false (aI @Bool.and_true (aI @Bool.true_and (aI @Bool.false_and @Bool.and_false))))))) trivial ah
 ·rw[←hD,decide_eq_false (fun h=>q0 h.1)]
  refine gI oW Tryz.func207 Tryz.results207 ?_
  exact wR (aI @hal (aI @hbl (aI @Bool.not_true (aI @Bool.not_false (aI @Bool.and_true (aI @Bool.true_and (aI @Bool.false_and @Bool.and_false))))))) trivial ah
abbrev skC(s:Sk)(a b c d e:V):List V:=[vi s.p.k,vi s.p.z,vi s.p.d,vu s.p.s,vi s.tl.t,vi s.tl.i,vb s.tl.b,vi s.cm.d,vi s.cm.z,vu s.cm.s,a,vb s.cm.b,vi s.ll.p,vu s.ll.s,b,vi s.tp.z,vi s.tp.t,c,vb s.tp.b,vi s.fq.z,vi s.fq.t,vi s.fq.l,d,vb s.fq.b,vi s.rk.z,vi s.rk.t,vi s.rk.l,e,vb s.rk.b]
def orN(x:V)(y:V):Prop:=x=y∨(x=nls∧∃k,y = .sl .fz k [])
theorem tK{x y:V}(h:orN x y):wk1 x y:=by
 rcases h with rfl|⟨rfl,k,rfl⟩
 ·exact .inl rfl
 ·exact oq _ _
theorem mJ(s:Sk){a b c d e:V}(ha:orN a (fzi s.cm.c))(hb:orN b (fzi s.ll.r))(hc:orN c (fzv s.tp.e))(hd:orN d (fzv s.fq.e))(he:orN e (fzl s.rk.v)):wkV (.agg (skC s a b c d e)) (.agg (skF s)):=by
 refine .inr ⟨_,_,rfl,rfl, ?_⟩
 (repeat' (first|exact trivial|refine iV (.inl rfl) ?_|refine iV (tK ha) ?_|refine iV (tK hb) ?_|refine iV (tK hc) ?_|refine iV (tK hd) ?_|refine iV (tK he) ?_))
theorem cu(x:V):orN x x := .inl rfl
theorem aj(k:Nat):orN nls (.sl .fz k []) := .inr ⟨rfl,k,rfl⟩
structure Sk.Ok (s:Sk):Prop where
 ps:0≤s.p.s∧s.p.s<18446744073709551616
 cs:0≤s.cm.s∧s.cm.s<18446744073709551616
 ls:0≤s.ll.s∧s.ll.s<18446744073709551616
 cn:s.cm.c.length≤1000000
 ln:s.ll.r.length≤1000000
 to:octE s.tp.e
 tn:s.tp.e.length≤1000000
 fo:octE s.fq.e
 fn:s.fq.e.length≤1000000
 ro:∀l∈s.rk.v,octL l
 rn:s.rk.v.length≤1000000
 rm:∀l∈s.rk.v,l.length≤1000000
def dn(s:Sk):Sk:=⟨s.p,if s.p.k=1 then s.tl else Tl.o,if s.p.k=2 then s.cm else Cm.o,if s.p.k=3 then s.ll else Ll.o,if s.p.k=4 then s.tp else Tp.o,if s.p.k=5 then s.fq else Fq.o,if s.p.k=6 then s.rk else Rk.o⟩
theorem pF{s:Sk}(h:s.Ok):(dn s).Ok:=by
 refine⟨h.ps, ?_, ?_, ?_, ?_, ?_, ?_, ?_, ?_, ?_, ?_, ?_⟩
 all_goals (simp only[dn];split)
 ·exact h.cs
 ·exact⟨by decide,by decide⟩
 ·exact h.ls
 ·exact⟨by decide,by decide⟩
 ·exact h.cn
 ·exact Nat.zero_le _
 ·exact h.ln
 ·exact Nat.zero_le _
 ·exact h.to
 ·intro e he;cases he
 ·exact h.tn
 ·exact Nat.zero_le _
 ·exact h.fo
 ·intro e he;cases he
 ·exact h.fn
 ·exact Nat.zero_le _
 ·exact h.ro
 ·intro e he;cases he
 ·exact h.rn
 ·exact Nat.zero_le _
 ·exact h.rm
 ·intro e he;cases he
theorem rW(s:Sk):Gxx 162 [.agg (skF s)] (.agg (skF (dn s))):=by
 by_cases q1:s.p.k=1
 ·have eo:dn s=⟨s.p,s.tl,Cm.o,Ll.o,Tp.o,Fq.o,Rk.o⟩:=by simp [dn,q1]
  rw[eo]
  refine Good.fzr (r := .agg (skC ⟨s.p,s.tl,Cm.o,Ll.o,Tp.o,Fq.o,Rk.o⟩ nls nls nls nls nls)) ?_ rfl (mJ ⟨s.p,s.tl,Cm.o,Ll.o,Tp.o,Fq.o,Rk.o⟩ (aj _) (aj _) (aj _) (aj _) (aj _))
  obtain⟨⟨pk,pz,pd,ps⟩,⟨t1,t2,t3⟩,⟨c1,c2,c3,c4,c5⟩,⟨l1,l2,l3⟩,⟨e1,e2,e3,e4⟩,⟨f1,f2,f3,f4,f5⟩,⟨r1,r2,r3,r4,r5⟩⟩:=s
  simp only at q1
  subst q1
  refine gI oD Tryz.func162 Tryz.results162 ?_
  exact wRA trivial trivial ah
 by_cases q2:s.p.k=2
 ·have eo:dn s=⟨s.p,Tl.o,s.cm,Ll.o,Tp.o,Fq.o,Rk.o⟩:=by simp [dn,q2]
  rw[eo]
  refine Good.fzr (r := .agg (skC ⟨s.p,Tl.o,s.cm,Ll.o,Tp.o,Fq.o,Rk.o⟩ (fzi s.cm.c) nls nls nls nls)) ?_ rfl (mJ ⟨s.p,Tl.o,s.cm,Ll.o,Tp.o,Fq.o,Rk.o⟩ (cu _) (aj _) (aj _) (aj _) (aj _))
  obtain⟨⟨pk,pz,pd,ps⟩,⟨t1,t2,t3⟩,⟨c1,c2,c3,c4,c5⟩,⟨l1,l2,l3⟩,⟨e1,e2,e3,e4⟩,⟨f1,f2,f3,f4,f5⟩,⟨r1,r2,r3,r4,r5⟩⟩:=s
  simp only at q2
  subst q2
  refine gI oD Tryz.func162 Tryz.results162 ?_
  exact wRA trivial trivial ah
 by_cases q3:s.p.k=3
 ·have eo:dn s=⟨s.p,Tl.o,Cm.o,s.ll,Tp.o,Fq.o,Rk.o⟩:=by simp [dn,q3]
  rw[eo]
  refine Good.fzr (r := .agg (skC ⟨s.p,Tl.o,Cm.o,s.ll,Tp.o,Fq.o,Rk.o⟩ nls (fzi s.ll.r) nls nls nls)) ?_ rfl (mJ ⟨s.p,Tl.o,Cm.o,s.ll,Tp.o,Fq.o,Rk.o⟩ (aj _) (cu _) (aj _) (aj _) (aj _))
  obtain⟨⟨pk,pz,pd,ps⟩,⟨t1,t2,t3⟩,⟨c1,c2,c3,c4,c5⟩,⟨l1,l2,l3⟩,⟨e1,e2,e3,e4⟩,⟨f1,f2,f3,f4,f5⟩,⟨r1,r2,r3,r4,r5⟩⟩:=s
  simp only at q3
  subst q3
  refine gI oD Tryz.func162 Tryz.results162 ?_
  exact wRA trivial trivial ah
 by_cases q4:s.p.k=4
 ·have eo:dn s=⟨s.p,Tl.o,Cm.o,Ll.o,s.tp,Fq.o,Rk.o⟩:=by simp [dn,q4]
  rw[eo]
  refine Good.fzr (r := .agg (skC ⟨s.p,Tl.o,Cm.o,Ll.o,s.tp,Fq.o,Rk.o⟩ nls nls (fzv s.tp.e) nls nls)) ?_ rfl (mJ ⟨s.p,Tl.o,Cm.o,Ll.o,s.tp,Fq.o,Rk.o⟩ (aj _) (aj _) (cu _) (aj _) (aj _))
  obtain⟨⟨pk,pz,pd,ps⟩,⟨t1,t2,t3⟩,⟨c1,c2,c3,c4,c5⟩,⟨l1,l2,l3⟩,⟨e1,e2,e3,e4⟩,⟨f1,f2,f3,f4,f5⟩,⟨r1,r2,r3,r4,r5⟩⟩:=s
  simp only at q4
  subst q4
  refine gI oD Tryz.func162 Tryz.results162 ?_
  exact wRA trivial trivial ah
 by_cases q5:s.p.k=5
 ·have eo:dn s=⟨s.p,Tl.o,Cm.o,Ll.o,Tp.o,s.fq,Rk.o⟩:=by simp [dn,q5]
  rw[eo]
  refine Good.fzr (r := .agg (skC ⟨s.p,Tl.o,Cm.o,Ll.o,Tp.o,s.fq,Rk.o⟩ nls nls nls (fzv s.fq.e) nls)) ?_ rfl (mJ ⟨s.p,Tl.o,Cm.o,Ll.o,Tp.o,s.fq,Rk.o⟩ (aj _) (aj _) (aj _) (cu _) (aj _))
  obtain⟨⟨pk,pz,pd,ps⟩,⟨t1,t2,t3⟩,⟨c1,c2,c3,c4,c5⟩,⟨l1,l2,l3⟩,⟨e1,e2,e3,e4⟩,⟨f1,f2,f3,f4,f5⟩,⟨r1,r2,r3,r4,r5⟩⟩:=s
  simp only at q5
  subst q5
  refine gI oD Tryz.func162 Tryz.results162 ?_
  exact wRA trivial trivial ah
 by_cases q6:s.p.k=6
 ·have eo:dn s=⟨s.p,Tl.o,Cm.o,Ll.o,Tp.o,Fq.o,s.rk⟩:=by simp [dn,q6]
  rw[eo]
  refine Good.fzr (r := .agg (skC ⟨s.p,Tl.o,Cm.o,Ll.o,Tp.o,Fq.o,s.rk⟩ nls nls nls nls (fzl s.rk.v))) ?_ rfl (mJ ⟨s.p,Tl.o,Cm.o,Ll.o,Tp.o,Fq.o,s.rk⟩ (aj _) (aj _) (aj _) (aj _) (cu _))
  obtain⟨⟨pk,pz,pd,ps⟩,⟨t1,t2,t3⟩,⟨c1,c2,c3,c4,c5⟩,⟨l1,l2,l3⟩,⟨e1,e2,e3,e4⟩,⟨f1,f2,f3,f4,f5⟩,⟨r1,r2,r3,r4,r5⟩⟩:=s
  simp only at q6
  subst q6
  refine gI oD Tryz.func162 Tryz.results162 ?_
  exact wRA trivial trivial ah
 have eo:dn s=⟨s.p,Tl.o,Cm.o,Ll.o,Tp.o,Fq.o,Rk.o⟩:=by simp [dn,q1,q2,q3,q4,q5,q6]
 rw[eo]
 refine Good.fzr (r := .agg (skC ⟨s.p,Tl.o,Cm.o,Ll.o,Tp.o,Fq.o,Rk.o⟩ nls nls nls nls nls)) ?_ rfl (mJ ⟨s.p,Tl.o,Cm.o,Ll.o,Tp.o,Fq.o,Rk.o⟩ (aj _) (aj _) (aj _) (aj _) (aj _))
 obtain⟨⟨pk,pz,pd,ps⟩,⟨t1,t2,t3⟩,⟨c1,c2,c3,c4,c5⟩,⟨l1,l2,l3⟩,⟨e1,e2,e3,e4⟩,⟨f1,f2,f3,f4,f5⟩,⟨r1,r2,r3,r4,r5⟩⟩:=s
 simp only at q1 q2 q3 q4 q5 q6
 refine gI oD Tryz.func162 Tryz.results162 ?_
 exact wRA trivial trivial ah
def samP(a b:Pm):Prop:=a.k=b.k∧a.z=b.z∧a.d=b.d∧a.s=b.s
instance (a b:Pm):Decidable (samP a b):=by unfold samP;infer_instance
def samT(a b:Tl):Prop:=a.t=b.t∧a.i=b.i∧a.b=b.b
instance (a b:Tl):Decidable (samT a b):=by unfold samT;infer_instance
def qi(a b:Sk):Bool:=decide (samP a.p b.p)&&(decide (samT a.tl b.tl)&&(Sv a.cm b.cm&&(Sz a.ll b.ll&&(SA a.tp b.tp&&(SB a.fq b.fq&&SC a.rk b.rk)))))
theorem alY(a b:Pm):((a.k == b.k)&&((a.z == b.z)&&((a.d == b.d)&&(a.s == b.s))))=decide (samP a b):=by
 rw[Bool.eq_iff_iff,decide_eq_true_eq];simp [samP]
theorem alZ(a b:Tl):((a.t == b.t)&&((a.i == b.i)&&(a.b == b.b)))=decide (samT a b):=by
 rw[Bool.eq_iff_iff,decide_eq_true_eq];simp [samT]
theorem rX(a b:Sk)(ha:a.Ok)(hb:b.Ok):Gxx 161 [.agg (skF a),.agg (skF b)] (vb (qi a b)):=by
 have k1:=BD a.cm b.cm ha.cn hb.cn
 have k2:=EZ a.ll b.ll ha.ln hb.ln
 have k3:=PN a.tp b.tp ha.to hb.to ha.tn hb.tn
 have k4:=BF a.fq b.fq ha.fo hb.fo ha.fn hb.fn
 have k5:=IU a.rk b.rk ha.ro hb.ro ha.rn hb.rn ha.rm hb.rm
 have e1:=alY a.p b.p
 have e2:=alZ a.tl b.tl
 unfold qi
 generalize decide (samP a.p b.p)=x1 at *
 generalize decide (samT a.tl b.tl)=x2 at *
 generalize Sv a.cm b.cm=x3 at *
 generalize Sz a.ll b.ll=x4 at *
 generalize SA a.tp b.tp=x5 at *
 generalize SB a.fq b.fq=x6 at *
 generalize SC a.rk b.rk=x7 at *
 clear ha hb
 obtain⟨⟨pk,pz,pd,ps⟩,⟨t1,t2,t3⟩,⟨c1,c2,c3,c4,c5⟩,⟨l1,l2,l3⟩,⟨e11,e12,e13,e14⟩,⟨f1,f2,f3,f4,f5⟩,⟨r1,r2,r3,r4,r5⟩⟩:=a
 obtain⟨⟨pk',pz',pd',ps'⟩,⟨t1',t2',t3'⟩,⟨c1',c2',c3',c4',c5'⟩,⟨l1',l2',l3'⟩,⟨e11',e12',e13',e14'⟩,⟨f1',f2',f3',f4',f5'⟩,⟨r1',r2',r3',r4',r5'⟩⟩:=b
 simp only at *
 cases x1
 ·refine gI oW Tryz.func161 Tryz.results161 ?_
  exact wR (aI @Bool.and_true (aI @Bool.true_and (aI @Bool.false_and (aI @Bool.and_false (aI @e1 @e2))))) trivial ah
 ·cases x2
  ·refine gI oW Tryz.func161 Tryz.results161 ?_
   exact wR (aI @Bool.and_true (aI @Bool.true_and (aI @Bool.false_and (aI @Bool.and_false (aI @e1 @e2))))) trivial ah
  ·cases x3
   ·refine gI oW Tryz.func161 Tryz.results161 ?_
    exact wR (aI @Bool.and_true (aI @Bool.true_and (aI @Bool.false_and (aI @Bool.and_false (aI @e1 @e2))))) k1 ah
   ·cases x4
    ·refine gI oW Tryz.func161 Tryz.results161 ?_
     exact wR (aI @Bool.and_true (aI @Bool.true_and (aI @Bool.false_and (aI @Bool.and_false (aI @e1 @e2))))) (aI k1 k2) ah
    ·cases x5
     ·refine gI oW Tryz.func161 Tryz.results161 ?_
      exact wR (aI @Bool.and_true (aI @Bool.true_and (aI @Bool.false_and (aI @Bool.and_false (aI @e1 @e2))))) (aI k1 (aI k2 k3)) ah
     ·cases x6
      ·refine gI oW Tryz.func161 Tryz.results161 ?_
       exact wR (aI @Bool.and_true (aI @Bool.true_and (aI @Bool.false_and (aI @Bool.and_false (aI @e1 @e2))))) (aI k1 (aI k2 (aI k3 k4))) ah
      ·cases x7
       ·refine gI oW Tryz.func161 Tryz.results161 ?_
        exact wR (aI @Bool.and_true (aI @Bool.true_and (aI @Bool.false_and (aI @Bool.and_false (aI @e1 @e2))))) (aI k1 (aI k2 (aI k3 (aI k4 k5)))) ah
       ·refine gI oW Tryz.func161 Tryz.results161 ?_
        exact wR (aI @Bool.and_true (aI @Bool.true_and (aI @Bool.false_and (aI @Bool.and_false (aI @e1 @e2))))) (aI k1 (aI k2 (aI k3 (aI k4 k5)))) ah
def kY(s:Sk):Int:=if s.p.k=1 then vTl s.tl else if s.p.k=2 then vCm s.cm else if s.p.k=3 then vLl s.ll else if s.p.k=4 then vTp s.tp else if s.p.k=5 then vFq s.fq else vRk s.rk
def parP(s:Sk):Prop:=if s.p.k=1 then True else if s.p.k=2 then s.cm.d=s.p.d∧s.cm.z=s.p.z∧s.cm.s=s.p.s else if s.p.k=3 then s.ll.p=s.p.z∧s.ll.s=s.p.s else if s.p.k=4 then s.tp.z=s.p.z else if s.p.k=5 then s.fq.z=s.p.z else s.rk.z=s.p.z
instance (s:Sk):Decidable (parP s):=by unfold parP;infer_instance
def vSk(s:Sk):Int:=if vp s.p.k s.p.z s.p.d s.p.s≠0 then vp s.p.k s.p.z s.p.d s.p.s else if kY s≠0 then kY s else if parP s then (if qi s (dn s)=true then 0 else 18) else 18
theorem E5(s:Sk)(h:vp s.p.k s.p.z s.p.d s.p.s≠0):Gxx 113 [.agg (skF s)] (vi (vSk s)):=by
 have h1:=bg s.p.k s.p.z s.p.d s.p.s
 unfold vSk
 rw[if_pos h]
 generalize vp s.p.k s.p.z s.p.d s.p.s=e at *
 obtain⟨⟨pk,pz,pd,ps⟩,⟨t1,t2,t3⟩,⟨c1,c2,c3,c4,c5⟩,⟨l1,l2,l3⟩,⟨e1,e2,e3,e4⟩,⟨f1,f2,f3,f4,f5⟩,⟨r1,r2,r3,r4,r5⟩⟩:=s
 simp only at *
 refine gI oD Tryz.func113 Tryz.results113 ?_
 exact wRA trivial h1 ah
theorem Ew(s:Sk)(ok:s.Ok)(hk:s.p.k=1)(h:vp s.p.k s.p.z s.p.d s.p.s=0):Gxx 113 [.agg (skF s)] (vi (vSk s)):=by
 have h1:=bg s.p.k s.p.z s.p.d s.p.s
 rw[h] at h1
 have h2:=nC s.tl
 have h3:=rW s
 have h4:=rX s (dn s) ok (pF ok)
 have e0:vSk s=if vTl s.tl≠0 then vTl s.tl else if True then (if qi s (dn s)=true then 0 else 18) else 18:=by
  unfold vSk kY parP
  rw[if_neg (fun h'=>h' h)]
  simp [hk]
 rw[e0]
 generalize qi s (dn s)=sm at *
 generalize dn s=s' at *
 generalize vTl s.tl=ve at *
 clear ok
 obtain⟨⟨pk,pz,pd,ps⟩,⟨t1,t2,t3⟩,⟨c1,c2,c3,c4,c5⟩,⟨l1,l2,l3⟩,⟨e1,e2,e3,e4⟩,⟨f1,f2,f3,f4,f5⟩,⟨r1,r2,r3,r4,r5⟩⟩:=s
 simp only at *
 subst hk
 by_cases q:ve=0
 ·rw[if_neg (by omega)]
  subst q
  rw[if_pos trivial]
  cases sm
  ·rw[if_neg (by simp)]
   refine gI oG Tryz.func113 Tryz.results113 ?_
   exact wRG (aI @Bool.and_true (aI @Bool.true_and (aI @Bool.false_and (aI @Bool.and_false (aI @Bool.not_true @Bool.not_false))))) (aI h1 (aI h2 (aI h3 h4))) ah
  ·rw[if_pos rfl]
   refine gI oG Tryz.func113 Tryz.results113 ?_
   exact wRG (aI @Bool.and_true (aI @Bool.true_and (aI @Bool.false_and (aI @Bool.and_false (aI @Bool.not_true @Bool.not_false))))) (aI h1 (aI h2 (aI h3 h4))) ah
 ·rw[if_pos q]
  refine gI oG Tryz.func113 Tryz.results113 ?_
  exact wRG (aI @Bool.and_true (aI @Bool.true_and (aI @Bool.false_and (aI @Bool.and_false (aI @Bool.not_true @Bool.not_false))))) (aI h1 h2) ah
theorem Ey(s:Sk)(ok:s.Ok)(hk:s.p.k=2)(h:vp s.p.k s.p.z s.p.d s.p.s=0):Gxx 113 [.agg (skF s)] (vi (vSk s)):=by
 have h1:=bg s.p.k s.p.z s.p.d s.p.s
 rw[h] at h1
 have h2:=lg s.cm
 have h3:=rW s
 have h4:=rX s (dn s) ok (pF ok)
 have e0:vSk s=if vCm s.cm≠0 then vCm s.cm else if s.cm.d=s.p.d∧s.cm.z=s.p.z∧s.cm.s=s.p.s then (if qi s (dn s)=true then 0 else 18) else 18:=by
  unfold vSk kY parP
  rw[if_neg (fun h'=>h' h)]
  simp [hk]
 rw[e0]
 generalize qi s (dn s)=sm at *
 generalize dn s=s' at *
 generalize vCm s.cm=ve at *
 clear ok
 obtain⟨⟨pk,pz,pd,ps⟩,⟨t1,t2,t3⟩,⟨c1,c2,c3,c4,c5⟩,⟨l1,l2,l3⟩,⟨e1,e2,e3,e4⟩,⟨f1,f2,f3,f4,f5⟩,⟨r1,r2,r3,r4,r5⟩⟩:=s
 simp only at *
 subst hk
 by_cases q:ve=0
 ·rw[if_neg (by omega)]
  subst q
  by_cases w0:c1=pd
  ·by_cases w1:c2=pz
   ·by_cases w2:c3=ps
    ·rw[if_pos ⟨w0,w1,w2⟩]
     cases sm
     ·rw[if_neg (by simp)]
      refine gI oG Tryz.func113 Tryz.results113 ?_
      exact wRG (aI @Bool.and_true (aI @Bool.true_and (aI @Bool.false_and (aI @Bool.and_false (aI @Bool.not_true @Bool.not_false))))) (aI h1 (aI h2 (aI h3 h4))) ah
     ·rw[if_pos rfl]
      refine gI oG Tryz.func113 Tryz.results113 ?_
      exact wRG (aI @Bool.and_true (aI @Bool.true_and (aI @Bool.false_and (aI @Bool.and_false (aI @Bool.not_true @Bool.not_false))))) (aI h1 (aI h2 (aI h3 h4))) ah
    ·rw[if_neg (fun h=>w2 h.2.2)]
     refine gI oG Tryz.func113 Tryz.results113 ?_
     exact wRG (aI @Bool.and_true (aI @Bool.true_and (aI @Bool.false_and (aI @Bool.and_false (aI @Bool.not_true @Bool.not_false))))) (aI h1 h2) ah
   ·rw[if_neg (fun h=>w1 h.2.1)]
    refine gI oG Tryz.func113 Tryz.results113 ?_
    exact wRG (aI @Bool.and_true (aI @Bool.true_and (aI @Bool.false_and (aI @Bool.and_false (aI @Bool.not_true @Bool.not_false))))) (aI h1 h2) ah
  ·rw[if_neg (fun h=>w0 h.1)]
   refine gI oG Tryz.func113 Tryz.results113 ?_
   exact wRG (aI @Bool.and_true (aI @Bool.true_and (aI @Bool.false_and (aI @Bool.and_false (aI @Bool.not_true @Bool.not_false))))) (aI h1 h2) ah
 ·rw[if_pos q]
  refine gI oG Tryz.func113 Tryz.results113 ?_
  exact wRG (aI @Bool.and_true (aI @Bool.true_and (aI @Bool.false_and (aI @Bool.and_false (aI @Bool.not_true @Bool.not_false))))) (aI h1 h2) ah
theorem Ez(s:Sk)(ok:s.Ok)(hk:s.p.k=3)(h:vp s.p.k s.p.z s.p.d s.p.s=0):Gxx 113 [.agg (skF s)] (vi (vSk s)):=by
 have h1:=bg s.p.k s.p.z s.p.d s.p.s
 rw[h] at h1
 have h2:=mG s.ll ok.ln
 have h3:=rW s
 have h4:=rX s (dn s) ok (pF ok)
 have e0:vSk s=if vLl s.ll≠0 then vLl s.ll else if s.ll.p=s.p.z∧s.ll.s=s.p.s then (if qi s (dn s)=true then 0 else 18) else 18:=by
  unfold vSk kY parP
  rw[if_neg (fun h'=>h' h)]
  simp [hk]
 rw[e0]
 generalize qi s (dn s)=sm at *
 generalize dn s=s' at *
 generalize vLl s.ll=ve at *
 clear ok
 obtain⟨⟨pk,pz,pd,ps⟩,⟨t1,t2,t3⟩,⟨c1,c2,c3,c4,c5⟩,⟨l1,l2,l3⟩,⟨e1,e2,e3,e4⟩,⟨f1,f2,f3,f4,f5⟩,⟨r1,r2,r3,r4,r5⟩⟩:=s
 simp only at *
 subst hk
 by_cases q:ve=0
 ·rw[if_neg (by omega)]
  subst q
  by_cases w0:l1=pz
  ·by_cases w1:l2=ps
   ·rw[if_pos ⟨w0,w1⟩]
    cases sm
    ·rw[if_neg (by simp)]
     refine gI oG Tryz.func113 Tryz.results113 ?_
     exact wRG (aI @Bool.and_true (aI @Bool.true_and (aI @Bool.false_and (aI @Bool.and_false (aI @Bool.not_true @Bool.not_false))))) (aI h1 (aI h2 (aI h3 h4))) ah
    ·rw[if_pos rfl]
     refine gI oG Tryz.func113 Tryz.results113 ?_
     exact wRG (aI @Bool.and_true (aI @Bool.true_and (aI @Bool.false_and (aI @Bool.and_false (aI @Bool.not_true @Bool.not_false))))) (aI h1 (aI h2 (aI h3 h4))) ah
   ·rw[if_neg (fun h=>w1 h.2)]
    refine gI oG Tryz.func113 Tryz.results113 ?_
    exact wRG (aI @Bool.and_true (aI @Bool.true_and (aI @Bool.false_and (aI @Bool.and_false (aI @Bool.not_true @Bool.not_false))))) (aI h1 h2) ah
  ·rw[if_neg (fun h=>w0 h.1)]
   refine gI oG Tryz.func113 Tryz.results113 ?_
   exact wRG (aI @Bool.and_true (aI @Bool.true_and (aI @Bool.false_and (aI @Bool.and_false (aI @Bool.not_true @Bool.not_false))))) (aI h1 h2) ah
 ·rw[if_pos q]
  refine gI oG Tryz.func113 Tryz.results113 ?_
  exact wRG (aI @Bool.and_true (aI @Bool.true_and (aI @Bool.false_and (aI @Bool.and_false (aI @Bool.not_true @Bool.not_false))))) (aI h1 h2) ah
theorem EC(s:Sk)(ok:s.Ok)(hk:s.p.k=4)(h:vp s.p.k s.p.z s.p.d s.p.s=0):Gxx 113 [.agg (skF s)] (vi (vSk s)):=by
 have h1:=bg s.p.k s.p.z s.p.d s.p.s
 rw[h] at h1
 have h2:=pX s.tp ok.to ok.tn
 have h3:=rW s
 have h4:=rX s (dn s) ok (pF ok)
 have e0:vSk s=if vTp s.tp≠0 then vTp s.tp else if s.tp.z=s.p.z then (if qi s (dn s)=true then 0 else 18) else 18:=by
  unfold vSk kY parP
  rw[if_neg (fun h'=>h' h)]
  simp [hk]
 rw[e0]
 generalize qi s (dn s)=sm at *
 generalize dn s=s' at *
 generalize vTp s.tp=ve at *
 clear ok
 obtain⟨⟨pk,pz,pd,ps⟩,⟨t1,t2,t3⟩,⟨c1,c2,c3,c4,c5⟩,⟨l1,l2,l3⟩,⟨e1,e2,e3,e4⟩,⟨f1,f2,f3,f4,f5⟩,⟨r1,r2,r3,r4,r5⟩⟩:=s
 simp only at *
 subst hk
 by_cases q:ve=0
 ·rw[if_neg (by omega)]
  subst q
  by_cases w0:e1=pz
  ·rw[if_pos w0]
   cases sm
   ·rw[if_neg (by simp)]
    refine gI oG Tryz.func113 Tryz.results113 ?_
    exact wRG (aI @Bool.and_true (aI @Bool.true_and (aI @Bool.false_and (aI @Bool.and_false (aI @Bool.not_true @Bool.not_false))))) (aI h1 (aI h2 (aI h3 h4))) ah
   ·rw[if_pos rfl]
    refine gI oG Tryz.func113 Tryz.results113 ?_
    exact wRG (aI @Bool.and_true (aI @Bool.true_and (aI @Bool.false_and (aI @Bool.and_false (aI @Bool.not_true @Bool.not_false))))) (aI h1 (aI h2 (aI h3 h4))) ah
  ·rw[if_neg (fun h=>w0 h)]
   refine gI oG Tryz.func113 Tryz.results113 ?_
   exact wRG (aI @Bool.and_true (aI @Bool.true_and (aI @Bool.false_and (aI @Bool.and_false (aI @Bool.not_true @Bool.not_false))))) (aI h1 h2) ah
 ·rw[if_pos q]
  refine gI oG Tryz.func113 Tryz.results113 ?_
  exact wRG (aI @Bool.and_true (aI @Bool.true_and (aI @Bool.false_and (aI @Bool.and_false (aI @Bool.not_true @Bool.not_false))))) (aI h1 h2) ah
theorem ED(s:Sk)(ok:s.Ok)(hk:s.p.k=5)(h:vp s.p.k s.p.z s.p.d s.p.s=0):Gxx 113 [.agg (skF s)] (vi (vSk s)):=by
 have h1:=bg s.p.k s.p.z s.p.d s.p.s
 rw[h] at h1
 have h2:=lm s.fq ok.fo ok.fn
 have h3:=rW s
 have h4:=rX s (dn s) ok (pF ok)
 have e0:vSk s=if vFq s.fq≠0 then vFq s.fq else if s.fq.z=s.p.z then (if qi s (dn s)=true then 0 else 18) else 18:=by
  unfold vSk kY parP
  rw[if_neg (fun h'=>h' h)]
  simp [hk]
 rw[e0]
 generalize qi s (dn s)=sm at *
 generalize dn s=s' at *
 generalize vFq s.fq=ve at *
 clear ok
 obtain⟨⟨pk,pz,pd,ps⟩,⟨t1,t2,t3⟩,⟨c1,c2,c3,c4,c5⟩,⟨l1,l2,l3⟩,⟨e1,e2,e3,e4⟩,⟨f1,f2,f3,f4,f5⟩,⟨r1,r2,r3,r4,r5⟩⟩:=s
 simp only at *
 subst hk
 by_cases q:ve=0
 ·rw[if_neg (by omega)]
  subst q
  by_cases w0:f1=pz
  ·rw[if_pos w0]
   cases sm
   ·rw[if_neg (by simp)]
    refine gI oG Tryz.func113 Tryz.results113 ?_
    exact wRG (aI @Bool.and_true (aI @Bool.true_and (aI @Bool.false_and (aI @Bool.and_false (aI @Bool.not_true @Bool.not_false))))) (aI h1 (aI h2 (aI h3 h4))) ah
   ·rw[if_pos rfl]
    refine gI oG Tryz.func113 Tryz.results113 ?_
    exact wRG (aI @Bool.and_true (aI @Bool.true_and (aI @Bool.false_and (aI @Bool.and_false (aI @Bool.not_true @Bool.not_false))))) (aI h1 (aI h2 (aI h3 h4))) ah
  ·rw[if_neg (fun h=>w0 h)]
   refine gI oG Tryz.func113 Tryz.results113 ?_
   exact wRG (aI @Bool.and_true (aI @Bool.true_and (aI @Bool.false_and (aI @Bool.and_false (aI @Bool.not_true @Bool.not_false))))) (aI h1 h2) ah
 ·rw[if_pos q]
  refine gI oG Tryz.func113 Tryz.results113 ?_
  exact wRG (aI @Bool.and_true (aI @Bool.true_and (aI @Bool.false_and (aI @Bool.and_false (aI @Bool.not_true @Bool.not_false))))) (aI h1 h2) ah
theorem EE(s:Sk)(ok:s.Ok)(hk:s.p.k=6)(h:vp s.p.k s.p.z s.p.d s.p.s=0):Gxx 113 [.agg (skF s)] (vi (vSk s)):=by
 have h1:=bg s.p.k s.p.z s.p.d s.p.s
 rw[h] at h1
 have h2:=nG s.rk ok.ro ok.rn ok.rm
 have h3:=rW s
 have h4:=rX s (dn s) ok (pF ok)
 have e0:vSk s=if vRk s.rk≠0 then vRk s.rk else if s.rk.z=s.p.z then (if qi s (dn s)=true then 0 else 18) else 18:=by
  unfold vSk kY parP
  rw[if_neg (fun h'=>h' h)]
  simp [hk]
 rw[e0]
 generalize qi s (dn s)=sm at *
 generalize dn s=s' at *
 generalize vRk s.rk=ve at *
 clear ok
 obtain⟨⟨pk,pz,pd,ps⟩,⟨t1,t2,t3⟩,⟨c1,c2,c3,c4,c5⟩,⟨l1,l2,l3⟩,⟨e1,e2,e3,e4⟩,⟨f1,f2,f3,f4,f5⟩,⟨r1,r2,r3,r4,r5⟩⟩:=s
 simp only at *
 subst hk
 by_cases q:ve=0
 ·rw[if_neg (by omega)]
  subst q
  by_cases w0:r1=pz
  ·rw[if_pos w0]
   cases sm
   ·rw[if_neg (by simp)]
    refine gI oG Tryz.func113 Tryz.results113 ?_
    exact wRG (aI @Bool.and_true (aI @Bool.true_and (aI @Bool.false_and (aI @Bool.and_false (aI @Bool.not_true @Bool.not_false))))) (aI h1 (aI h2 (aI h3 h4))) ah
   ·rw[if_pos rfl]
    refine gI oG Tryz.func113 Tryz.results113 ?_
    exact wRG (aI @Bool.and_true (aI @Bool.true_and (aI @Bool.false_and (aI @Bool.and_false (aI @Bool.not_true @Bool.not_false))))) (aI h1 (aI h2 (aI h3 h4))) ah
  ·rw[if_neg (fun h=>w0 h)]
   refine gI oG Tryz.func113 Tryz.results113 ?_
   exact wRG (aI @Bool.and_true (aI @Bool.true_and (aI @Bool.false_and (aI @Bool.and_false (aI @Bool.not_true @Bool.not_false))))) (aI h1 h2) ah
 ·rw[if_pos q]
  refine gI oG Tryz.func113 Tryz.results113 ?_
  exact wRG (aI @Bool.and_true (aI @Bool.true_and (aI @Bool.false_and (aI @Bool.and_false (aI @Bool.not_true @Bool.not_false))))) (aI h1 h2) ah
theorem dW(s:Sk)(ok:s.Ok):Gxx 113 [.agg (skF s)] (vi (vSk s)):=by
 by_cases h:vp s.p.k s.p.z s.p.d s.p.s=0
 ·have hk:s.p.k=1∨s.p.k=2∨s.p.k=3∨s.p.k=4∨s.p.k=5∨s.p.k=6:=by unfold vp at h;repeat' split at h<;>omega
  rcases hk with hk|hk|hk|hk|hk|hk
  ·exact Ew s ok hk h
  ·exact Ey s ok hk h
  ·exact Ez s ok hk h
  ·exact EC s ok hk h
  ·exact ED s ok hk h
  ·exact EE s ok hk h
 ·exact E5 s h
end Go.Proofs.YtjiolbcdfgclaaaGreatDoor
