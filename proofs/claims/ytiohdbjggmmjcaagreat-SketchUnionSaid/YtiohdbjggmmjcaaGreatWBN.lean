/-
  Merged texts.
-/
import Derived.Test.YtiohdbjggmmjcaaGreatWAY
import Derived.Test.YtiohdbjggmmjcaaGreatWBM
set_option linter.unusedVariables false
set_option linter.unusedSimpArgs false
set_option linter.unusedSectionVars false
set_option linter.defProp false
set_option maxRecDepth 100000
set_option maxHeartbeats 8000000
namespace Go.Proofs.YtiohdbjggmmjcaaGreat
open Go Go.Pg
def jnF(x y:Fq):List En:=jn (x.e.length+y.e.length) x.e y.e
def jfF(x y:Fq):Bool:=jf (x.e.length+y.e.length) x.e y.e
def DD(x y:Fq):Int:=((srt bfE (jnF x y)).getD x.z.toNat eD).2.1
def qF(x y:Fq):Fq × Int :=
 if vFq x≠0 then (Fq.o,vFq x) else if vFq y≠0 then (Fq.o,vFq y) else if x.z≠y.z then (Fq.o,10)
 else if ((jnF x y).length:Int) > x.z then (⟨x.z,(aO x.t y.t).1,(aO (aO x.l y.l).1 (DD x y)).1,iU (DD x y) (jnF x y),(x.b||y.b||(aO x.t y.t).2||(aO x.l y.l).2||jfF x y)||(aO (aO x.l y.l).1 (DD x y)).2⟩,0)
 else (⟨x.z,(aO x.t y.t).1,(aO x.l y.l).1,jnF x y,x.b||y.b||(aO x.t y.t).2||(aO x.l y.l).2||jfF x y⟩,0)
theorem NT{P:En→Prop}:∀(n:Nat) (a b:List En),(∀z∈a,P z)→(∀z∈b,P z)→(∀x∈a,∀y∈b,P (x.1,(aO x.2.1 y.2.1).1,0))→∀z∈jn n a b,P z
 | 0,a,b,ha,hb,_,z,hz=>(List.mem_append.1 hz).elim (ha z) (hb z)
 | n+1,[],b,_,hb,_,z,hz=>hb z hz
 | n+1,x::a,[],ha,_,_,z,hz=>ha z hz
 | n+1,x::a,y::b,ha,hb,hs,z,hz=>by
  unfold jn at hz
  split at hz
  ·rcases List.mem_cons.1 hz with rfl|hz
   ·exact ha _ (List.mem_cons_self ..)
   ·exact NT n a (y::b) (fun w hw=>ha w (List.mem_cons_of_mem _ hw)) hb (fun u hu v hv=>hs u (List.mem_cons_of_mem _ hu) v hv) z hz
  ·split at hz
   ·rcases List.mem_cons.1 hz with rfl|hz
    ·exact hb _ (List.mem_cons_self ..)
    ·exact NT n (x::a) b ha (fun w hw=>hb w (List.mem_cons_of_mem _ hw)) (fun u hu v hv=>hs u hu v (List.mem_cons_of_mem _ hv)) z hz
   ·rcases List.mem_cons.1 hz with rfl|hz
    ·exact hs x (List.mem_cons_self ..) y (List.mem_cons_self ..)
    ·exact NT n a b (fun w hw=>ha w (List.mem_cons_of_mem _ hw)) (fun w hw=>hb w (List.mem_cons_of_mem _ hw)) (fun u hu v hv=>hs u (List.mem_cons_of_mem _ hu) v (List.mem_cons_of_mem _ hv)) z hz
theorem Ei:∀(n:Nat) (a b:List En),(jn n a b).length≤a.length+b.length
 | 0,a,b=>by simp [jn]
 | n+1,[],b=>by simp [jn]
 | n+1,x::a,[]=>by simp [jn]
 | n+1,x::a,y::b=>by
  unfold jn
  split
  ·have:=Ei n a (y::b);simp only[List.length_cons] at *;omega
  ·split
   ·have:=Ei n (x::a) b;simp only[List.length_cons] at *;omega
   ·have:=Ei n a b;simp only[List.length_cons] at *;omega
theorem uZ{x:Fq}(h:vFq x=0):∀y∈x.e,(1≤y.2.1∧y.2.1≤1099511627776)∧y.2.2=0:=fun y hy=>by
 obtain⟨i,hi,rfl⟩:=List.mem_iff_getElem.1 hy
 have:=sF ((jW h).2.2.2.2 i hi)
 have h1:=this.2
 simp only[List.getD,List.getElem?_eq_getElem hi,Option.getD_some] at h1
 exact h1
theorem XY{x y:Fq}(hx:vFq x=0)(hy:vFq y=0):∀z∈jnF x y,(1≤z.2.1∧z.2.1≤1099511627776)∧z.2.2=0 :=
 NT _ _ _ (uZ hx) (uZ hy) (fun u hu v hv=>by
  have h1:=(uZ hx u hu).1
  have h2:=(uZ hy v hv).1
  have h3:=acI u.2.1 v.2.1 (by omega) (by omega)
  have h4:=pR u.2.1 v.2.1
  exact⟨⟨by simp only;omega,by simp only;omega⟩,rfl⟩)
theorem aiK{x y:Fq}(hx:octE x.e)(hy:octE y.e):octE (jnF x y):=NT (P:=fun z=>oct z.1) _ _ _ hx hy (fun u hu v hv=>hx u hu)
theorem aix(x y:Fq)(hx:octE x.e)(hy:octE y.e)(c1:vFq x=0)(c2:vFq y=0)(cz:x.z=y.z)(cl:¬((jnF x y).length:Int) > x.z) :
  Gxx 52 [.agg (fqF x),.agg (fqF y)] (.tup [.agg [vi x.z,vi (aO x.t y.t).1,vi (aO x.l y.l).1,.sl (.own 0 119) 3 (ev (jnF x y)),vb (x.b||y.b||(aO x.t y.t).2||(aO x.l y.l).2||jfF x y)],vi 0]):=by
 obtain⟨i1,i2,i2',i3,i4⟩:=jW c1
 obtain⟨j1,j2,j2',j3,j4⟩:=jW c2
 have h1:=Ec x hx (by omega)
 have h2:=Ec y hy (by omega)
 rw[c1] at h1
 rw[c2] at h2
 have hj:=Zk x.e y.e hx hy (fun u hu=>by have:=(uZ c1 u hu).1;unfold W64;omega) (fun u hu=>by have:=(uZ c2 u hu).1;unfold W64;omega) (by omega) (by omega)
 have ejn:jn (x.e.length+y.e.length) x.e y.e=jnF x y:=rfl
 have ejf:jf (x.e.length+y.e.length) x.e y.e=jfF x y:=rfl
 rw[ejn,ejf] at hj
 have hJl:(jnF x y).length≤x.e.length+y.e.length:=Ei _ _ _
 have hJm:=XY c1 c2
 have hJe:=aG (jnF x y)
 have hzz:(x.z=y.z)=True:=eq_true cz
 have hgt:(((jnF x y).length:Int) > x.z)=False:=eq_false cl
 generalize jnF x y=J at *
 generalize jfF x y=jF at *
 have hz1':=fun (e:Nat→V) (bx:Bxx) (n:Nat) (h:Nat→V) (a b:Int) (sa:Bool) (hb:bx 3=some (36,[vi x.z,vi a,vi b,nls,vb sa]))=>qC e bx n h 3 x.t y.t x.z a b nls sa (by unfold W64;omega) (by unfold W64;omega) hb
 have hz2':=fun (e:Nat→V) (bx:Bxx) (n:Nat) (h:Nat→V) (a b:Int) (sa:Bool) (hb:bx 3=some (36,[vi x.z,vi a,vi b,nls,vb sa]))=>qC e bx n h 3 x.l y.l x.z a b nls sa (by unfold W64;omega) (by unfold W64;omega) hb
 generalize aO x.t y.t=aT at *
 generalize aO x.l y.l=aL at *
 obtain⟨T,f1⟩:=aT
 obtain⟨LO,f2⟩:=aL
 obtain⟨z,t,lo,l,b⟩:=x
 obtain⟨z2,t2,lo2,l2,b2⟩:=y
 simp only at *
 cases b
 ·obtain⟨B0,hB0⟩:∃fB,fB=upd (upd (upd (upd (fun _=>none) 0 (some (36,fqF ⟨z,t,lo,l,false⟩))) 1 (some (36,fqF ⟨z2,t2,lo2,l2,b2⟩))) 2 (some (36,[y0,y0,y0,yn,yf]))) 3 (some (36,[vi z,vi 0,vi 0,nls,vb b2])):=⟨_,rfl⟩
  obtain⟨B1,hB1⟩:∃fB,fB=upd B0 3 (some (36,[vi z,vi 0,vi 0,nls,vb (b2||f1)])):=⟨_,rfl⟩
  obtain⟨B2,hB2⟩:∃fB,fB=upd B1 3 (some (36,[vi z,vi 0,vi 0,nls,vb (b2||f1||f2)])):=⟨_,rfl⟩
  have b03:B0 3=some (36,[vi z,vi 0,vi 0,nls,vb b2]):=by rw[hB0];exact lF _ _ _
  have b13:B1 3=some (36,[vi z,vi 0,vi 0,nls,vb (b2||f1)]):=by rw[hB1];exact lF _ _ _
  have hz1:=fun (e:Nat→V) (n:Nat) (h:Nat→V)=>hz1' e B0 n h 0 0 _ b03
  have hz2:=fun (e:Nat→V) (n:Nat) (h:Nat→V)=>hz2' e B1 n h 0 0 _ b13
  refine gI (eu [] mix) Tryz.func52 Tryz.results52 ?_
  (repeat' (first|(simp (disch:=first|exact dqz|fail) only[pgz,simprocAttr,pgE,pgj,iC,hzz])|(refine tC ?_;first|refine cU h1 ?_|refine cU h2 ?_)|(refine tE ?_ ?_<;>intro hc)|refine xK ?_|fail))
  obtain⟨BX,hBX⟩:∃fB:(Nat→Bool)→Bxx,fB=fun S=>if S 9=true then B2 else if S 4=true then B1 else B0:=⟨_,rfl⟩
  obtain⟨NI,hNI⟩:∃fB:(Nat→Bool)→Nat,fB=fun S=>4:=⟨_,rfl⟩
  have hBi:∀S i,i≠4→i≠9→BX S=BX (ins S i):=fun S i q4 q9=>by rw[hBX];simp only[bV (Ne.symm q4),bV (Ne.symm q9)]
  have hNi:∀S i,NI S=NI (ins S i):=fun S i=>by rw[hNI]
  have hb0S:∀S,BX S 0=some (36,fqF ⟨z,t,lo,l,false⟩):=fun S=>by
   have q0:B0 0=some (36,fqF ⟨z,t,lo,l,false⟩):=by rw[hB0];rfl
   have q1:B1 0=some (36,fqF ⟨z,t,lo,l,false⟩):=by rw[hB1,TY _ _ _ _ (by decide)];exact q0
   rw[hBX];simp only
   split
   ·rw[hB2,TY _ _ _ _ (by decide)];exact q1
   ·split
    ·exact q1
    ·exact q0
  have hb1S:∀S,BX S 1=some (36,fqF ⟨z2,t2,lo2,l2,b2⟩):=fun S=>by
   have q0:B0 1=some (36,fqF ⟨z2,t2,lo2,l2,b2⟩):=by rw[hB0];rfl
   have q1:B1 1=some (36,fqF ⟨z2,t2,lo2,l2,b2⟩):=by rw[hB1,TY _ _ _ _ (by decide)];exact q0
   rw[hBX];simp only
   split
   ·rw[hB2,TY _ _ _ _ (by decide)];exact q1
   ·split
    ·exact q1
    ·exact q0
  have hnd:([40,41,42,43,44,45,46,47,48,49]:List Nat).Nodup:=by decide
  refine SH mix 10 [(40,.ref 0 1),(41,vi t),(42,.ref 1 1),(43,vi t2),(44,vi T),(45,.ref 0 2),(46,vi lo),(47,.ref 1 2),(48,vi lo2),(49,vi LO)] BX NI (by rw[hBX];show B0=_;simp only[hB0,NS]) (by rw[hNI]) (by decide) (by decide) (by decide) ?_ ?_
  ·intro S i o ho hi hS he hcl
   rcases (by omega:i=0∨i=1∨i=2∨i=3∨i=4∨i=5∨i=6∨i=7∨i=8∨i=9) with rfl|rfl|rfl|rfl|rfl|rfl|rfl|rfl|rfl|rfl
   all_goals (simp only[List.getElem?_cons_zero,List.getElem?_cons_succ,Option.some.injEq] at ho;subst ho)
   ·simp (disch:=first|exact dqz|fail) only[pgz,simprocAttr,hS,hb0S,hb1S,aC,aQ]
    exact bI 0 (T:=[(40,.ref 0 1),(41,vi t),(42,.ref 1 1),(43,vi t2),(44,vi T),(45,.ref 0 2),(46,vi lo),(47,.ref 1 2),(48,vi lo2),(49,vi LO)]) rfl hnd (hBi S 0 (by decide) (by decide)) (hNi S 0)
   ·have s0:=he 0 (by decide)
    simp (disch:=first|exact dqz|fail) only[pgz,simprocAttr,hS,hb0S,hb1S,aC,aQ,s0]
    exact bI 1 (T:=[(40,.ref 0 1),(41,vi t),(42,.ref 1 1),(43,vi t2),(44,vi T),(45,.ref 0 2),(46,vi lo),(47,.ref 1 2),(48,vi lo2),(49,vi LO)]) rfl hnd (hBi S 1 (by decide) (by decide)) (hNi S 1)
   ·simp (disch:=first|exact dqz|fail) only[pgz,simprocAttr,hS,hb0S,hb1S,aC,aQ]
    exact bI 2 (T:=[(40,.ref 0 1),(41,vi t),(42,.ref 1 1),(43,vi t2),(44,vi T),(45,.ref 0 2),(46,vi lo),(47,.ref 1 2),(48,vi lo2),(49,vi LO)]) rfl hnd (hBi S 2 (by decide) (by decide)) (hNi S 2)
   ·have s2:=he 2 (by decide)
    simp (disch:=first|exact dqz|fail) only[pgz,simprocAttr,hS,hb0S,hb1S,aC,aQ,s2]
    exact bI 3 (T:=[(40,.ref 0 1),(41,vi t),(42,.ref 1 1),(43,vi t2),(44,vi T),(45,.ref 0 2),(46,vi lo),(47,.ref 1 2),(48,vi lo2),(49,vi LO)]) rfl hnd (hBi S 3 (by decide) (by decide)) (hNi S 3)
   ·have s1:=he 1 (by decide)
    have s3:=he 3 (by decide)
    have n9:S 9=false:=by
     cases h5:S 9 with
     | false=>rfl
     | true=>have:=hcl 9 _ rfl h5 4 (by decide);rw[hS] at this;cases this
    have e0:BX S=B0:=by rw[hBX];simp only[hS,n9];rfl
    have e1:BX (ins S 4)=B1:=by rw[hBX];simp only[Ad,bV (show 9≠4 by decide),n9];rfl
    simp (disch:=first|exact dqz|fail) only[pgz,simprocAttr,hS,e0,aC,aQ,s1,s3]
    refine cZ (hz1 _ _ _) ?_ (by simp only[List.map_cons,List.map_nil,pgo,simprocAttr,aC,aQ,s1,s3])
    exact bI 4 (T:=[(40,.ref 0 1),(41,vi t),(42,.ref 1 1),(43,vi t2),(44,vi T),(45,.ref 0 2),(46,vi lo),(47,.ref 1 2),(48,vi lo2),(49,vi LO)]) rfl hnd (by rw[e1,hB1]) (hNi S 4)
   ·simp (disch:=first|exact dqz|fail) only[pgz,simprocAttr,hS,hb0S,hb1S,aC,aQ]
    exact bI 5 (T:=[(40,.ref 0 1),(41,vi t),(42,.ref 1 1),(43,vi t2),(44,vi T),(45,.ref 0 2),(46,vi lo),(47,.ref 1 2),(48,vi lo2),(49,vi LO)]) rfl hnd (hBi S 5 (by decide) (by decide)) (hNi S 5)
   ·have s5:=he 5 (by decide)
    simp (disch:=first|exact dqz|fail) only[pgz,simprocAttr,hS,hb0S,hb1S,aC,aQ,s5]
    exact bI 6 (T:=[(40,.ref 0 1),(41,vi t),(42,.ref 1 1),(43,vi t2),(44,vi T),(45,.ref 0 2),(46,vi lo),(47,.ref 1 2),(48,vi lo2),(49,vi LO)]) rfl hnd (hBi S 6 (by decide) (by decide)) (hNi S 6)
   ·simp (disch:=first|exact dqz|fail) only[pgz,simprocAttr,hS,hb0S,hb1S,aC,aQ]
    exact bI 7 (T:=[(40,.ref 0 1),(41,vi t),(42,.ref 1 1),(43,vi t2),(44,vi T),(45,.ref 0 2),(46,vi lo),(47,.ref 1 2),(48,vi lo2),(49,vi LO)]) rfl hnd (hBi S 7 (by decide) (by decide)) (hNi S 7)
   ·have s7:=he 7 (by decide)
    simp (disch:=first|exact dqz|fail) only[pgz,simprocAttr,hS,hb0S,hb1S,aC,aQ,s7]
    exact bI 8 (T:=[(40,.ref 0 1),(41,vi t),(42,.ref 1 1),(43,vi t2),(44,vi T),(45,.ref 0 2),(46,vi lo),(47,.ref 1 2),(48,vi lo2),(49,vi LO)]) rfl hnd (hBi S 8 (by decide) (by decide)) (hNi S 8)
   ·have s6:=he 6 (by decide)
    have s8:=he 8 (by decide)
    have s4:=he 4 (by decide)
    have e0:BX S=B1:=by rw[hBX];simp only[hS,s4];rfl
    have e1:BX (ins S 9)=B2:=by rw[hBX];simp only[Ad];rfl
    simp (disch:=first|exact dqz|fail) only[pgz,simprocAttr,hS,e0,aC,aQ,s6,s8,s4]
    refine cZ (hz2 _ _ _) ?_ (by simp only[List.map_cons,List.map_nil,pgo,simprocAttr,aC,aQ,s6,s8,s4])
    exact bI 9 (T:=[(40,.ref 0 1),(41,vi t),(42,.ref 1 1),(43,vi t2),(44,vi T),(45,.ref 0 2),(46,vi lo),(47,.ref 1 2),(48,vi lo2),(49,vi LO)]) rfl hnd (by rw[e1,hB2]) (hNi S 9)
  ·intro S hall
   have s0:=hall 0 (by decide) (by decide)
   have s1:=hall 1 (by decide) (by decide)
   have s2:=hall 2 (by decide) (by decide)
   have s3:=hall 3 (by decide) (by decide)
   have s4:=hall 4 (by decide) (by decide)
   have s5:=hall 5 (by decide) (by decide)
   have s6:=hall 6 (by decide) (by decide)
   have s7:=hall 7 (by decide) (by decide)
   have s8:=hall 8 (by decide) (by decide)
   have s9:=hall 9 (by decide) (by decide)
   have e0:BX S=B2:=by rw[hBX];simp only[s9];rfl
   have n0:NI S=4:=by rw[hNI]
   simp only[List.drop_succ_cons,List.drop_zero,List.map_cons,List.map_nil]
   rw[e0,n0]
   have b23:B2 3=some (36,[vi z,vi 0,vi 0,nls,vb (b2||f1||f2)]):=by rw[hB2];exact lF _ _ _
   have b20:B2 0=some (36,fqF ⟨z,t,lo,l,false⟩):=by rw[hB2,TY _ _ _ _ (by decide),hB1,TY _ _ _ _ (by decide),hB0];rfl
   have b21:B2 1=some (36,fqF ⟨z2,t2,lo2,l2,b2⟩):=by rw[hB2,TY _ _ _ _ (by decide),hB1,TY _ _ _ _ (by decide),hB0];rfl
   have b22:B2 2=some (36,[vi 0,vi 0,vi 0,nls,vb false]):=by rw[hB2,TY _ _ _ _ (by decide),hB1,TY _ _ _ _ (by decide),hB0];rfl
   (repeat' (first|(simp (disch:=first|exact dqz|fail) only[pgz,simprocAttr,s0,s1,s2,s3,s4,s5,s6,s7,s8,s9,aC,aQ,pgE,pgj,iC,b23,b20,b21,b22,hJe,hgt])|(refine tC ?_;refine dZ _ (hj _ _ _ _ _ _ _ _ (by simp only[upd,b23];rfl)) rfl ?_)|(refine tE ?_ ?_<;>intro hc)|refine xK ?_|fail))
   refine bZ [4] (.tup [.agg [vi z,vi T,vi LO,.sl (.own 4 119) 3 (ev J),vb (b2||f1||f2||jF)],vi 0]) (by simp (disch:=first|assumption|omega) only[pgr,pgo,tyf,simprocAttr,b22];first|rfl|skip) (by decide) (by simp only[pgo,simprocAttr]) ?_
   first|rfl|simp [V.map,V.mapL,nz,pgo]
 ·obtain⟨B0,hB0⟩:∃fB,fB=upd (upd (upd (upd (fun _=>none) 0 (some (36,fqF ⟨z,t,lo,l,true⟩))) 1 (some (36,fqF ⟨z2,t2,lo2,l2,b2⟩))) 2 (some (36,[y0,y0,y0,yn,yf]))) 3 (some (36,[vi z,vi 0,vi 0,nls,vb true])):=⟨_,rfl⟩
  obtain⟨B1,hB1⟩:∃fB,fB=upd B0 3 (some (36,[vi z,vi 0,vi 0,nls,vb (true||f1)])):=⟨_,rfl⟩
  obtain⟨B2,hB2⟩:∃fB,fB=upd B1 3 (some (36,[vi z,vi 0,vi 0,nls,vb (true||f1||f2)])):=⟨_,rfl⟩
  have b03:B0 3=some (36,[vi z,vi 0,vi 0,nls,vb true]):=by rw[hB0];exact lF _ _ _
  have b13:B1 3=some (36,[vi z,vi 0,vi 0,nls,vb (true||f1)]):=by rw[hB1];exact lF _ _ _
  have hz1:=fun (e:Nat→V) (n:Nat) (h:Nat→V)=>hz1' e B0 n h 0 0 _ b03
  have hz2:=fun (e:Nat→V) (n:Nat) (h:Nat→V)=>hz2' e B1 n h 0 0 _ b13
  refine gI (eu [] mix) Tryz.func52 Tryz.results52 ?_
  (repeat' (first|(simp (disch:=first|exact dqz|fail) only[pgz,simprocAttr,pgE,pgj,iC,hzz])|(refine tC ?_;first|refine cU h1 ?_|refine cU h2 ?_)|(refine tE ?_ ?_<;>intro hc)|refine xK ?_|fail))
  obtain⟨BX,hBX⟩:∃fB:(Nat→Bool)→Bxx,fB=fun S=>if S 9=true then B2 else if S 4=true then B1 else B0:=⟨_,rfl⟩
  obtain⟨NI,hNI⟩:∃fB:(Nat→Bool)→Nat,fB=fun S=>4:=⟨_,rfl⟩
  have hBi:∀S i,i≠4→i≠9→BX S=BX (ins S i):=fun S i q4 q9=>by rw[hBX];simp only[bV (Ne.symm q4),bV (Ne.symm q9)]
  have hNi:∀S i,NI S=NI (ins S i):=fun S i=>by rw[hNI]
  have hb0S:∀S,BX S 0=some (36,fqF ⟨z,t,lo,l,true⟩):=fun S=>by
   have q0:B0 0=some (36,fqF ⟨z,t,lo,l,true⟩):=by rw[hB0];rfl
   have q1:B1 0=some (36,fqF ⟨z,t,lo,l,true⟩):=by rw[hB1,TY _ _ _ _ (by decide)];exact q0
   rw[hBX];simp only
   split
   ·rw[hB2,TY _ _ _ _ (by decide)];exact q1
   ·split
    ·exact q1
    ·exact q0
  have hb1S:∀S,BX S 1=some (36,fqF ⟨z2,t2,lo2,l2,b2⟩):=fun S=>by
   have q0:B0 1=some (36,fqF ⟨z2,t2,lo2,l2,b2⟩):=by rw[hB0];rfl
   have q1:B1 1=some (36,fqF ⟨z2,t2,lo2,l2,b2⟩):=by rw[hB1,TY _ _ _ _ (by decide)];exact q0
   rw[hBX];simp only
   split
   ·rw[hB2,TY _ _ _ _ (by decide)];exact q1
   ·split
    ·exact q1
    ·exact q0
  have hnd:([40,41,42,43,44,45,46,47,48,49]:List Nat).Nodup:=by decide
  refine SH mix 10 [(40,.ref 0 1),(41,vi t),(42,.ref 1 1),(43,vi t2),(44,vi T),(45,.ref 0 2),(46,vi lo),(47,.ref 1 2),(48,vi lo2),(49,vi LO)] BX NI (by rw[hBX];show B0=_;simp only[hB0,NS]) (by rw[hNI]) (by decide) (by decide) (by decide) ?_ ?_
  ·intro S i o ho hi hS he hcl
   rcases (by omega:i=0∨i=1∨i=2∨i=3∨i=4∨i=5∨i=6∨i=7∨i=8∨i=9) with rfl|rfl|rfl|rfl|rfl|rfl|rfl|rfl|rfl|rfl
   all_goals (simp only[List.getElem?_cons_zero,List.getElem?_cons_succ,Option.some.injEq] at ho;subst ho)
   ·simp (disch:=first|exact dqz|fail) only[pgz,simprocAttr,hS,hb0S,hb1S,aC,aQ]
    exact bI 0 (T:=[(40,.ref 0 1),(41,vi t),(42,.ref 1 1),(43,vi t2),(44,vi T),(45,.ref 0 2),(46,vi lo),(47,.ref 1 2),(48,vi lo2),(49,vi LO)]) rfl hnd (hBi S 0 (by decide) (by decide)) (hNi S 0)
   ·have s0:=he 0 (by decide)
    simp (disch:=first|exact dqz|fail) only[pgz,simprocAttr,hS,hb0S,hb1S,aC,aQ,s0]
    exact bI 1 (T:=[(40,.ref 0 1),(41,vi t),(42,.ref 1 1),(43,vi t2),(44,vi T),(45,.ref 0 2),(46,vi lo),(47,.ref 1 2),(48,vi lo2),(49,vi LO)]) rfl hnd (hBi S 1 (by decide) (by decide)) (hNi S 1)
   ·simp (disch:=first|exact dqz|fail) only[pgz,simprocAttr,hS,hb0S,hb1S,aC,aQ]
    exact bI 2 (T:=[(40,.ref 0 1),(41,vi t),(42,.ref 1 1),(43,vi t2),(44,vi T),(45,.ref 0 2),(46,vi lo),(47,.ref 1 2),(48,vi lo2),(49,vi LO)]) rfl hnd (hBi S 2 (by decide) (by decide)) (hNi S 2)
   ·have s2:=he 2 (by decide)
    simp (disch:=first|exact dqz|fail) only[pgz,simprocAttr,hS,hb0S,hb1S,aC,aQ,s2]
    exact bI 3 (T:=[(40,.ref 0 1),(41,vi t),(42,.ref 1 1),(43,vi t2),(44,vi T),(45,.ref 0 2),(46,vi lo),(47,.ref 1 2),(48,vi lo2),(49,vi LO)]) rfl hnd (hBi S 3 (by decide) (by decide)) (hNi S 3)
   ·have s1:=he 1 (by decide)
    have s3:=he 3 (by decide)
    have n9:S 9=false:=by
     cases h5:S 9 with
     | false=>rfl
     | true=>have:=hcl 9 _ rfl h5 4 (by decide);rw[hS] at this;cases this
    have e0:BX S=B0:=by rw[hBX];simp only[hS,n9];rfl
    have e1:BX (ins S 4)=B1:=by rw[hBX];simp only[Ad,bV (show 9≠4 by decide),n9];rfl
    simp (disch:=first|exact dqz|fail) only[pgz,simprocAttr,hS,e0,aC,aQ,s1,s3]
    refine cZ (hz1 _ _ _) ?_ (by simp only[List.map_cons,List.map_nil,pgo,simprocAttr,aC,aQ,s1,s3])
    exact bI 4 (T:=[(40,.ref 0 1),(41,vi t),(42,.ref 1 1),(43,vi t2),(44,vi T),(45,.ref 0 2),(46,vi lo),(47,.ref 1 2),(48,vi lo2),(49,vi LO)]) rfl hnd (by rw[e1,hB1]) (hNi S 4)
   ·simp (disch:=first|exact dqz|fail) only[pgz,simprocAttr,hS,hb0S,hb1S,aC,aQ]
    exact bI 5 (T:=[(40,.ref 0 1),(41,vi t),(42,.ref 1 1),(43,vi t2),(44,vi T),(45,.ref 0 2),(46,vi lo),(47,.ref 1 2),(48,vi lo2),(49,vi LO)]) rfl hnd (hBi S 5 (by decide) (by decide)) (hNi S 5)
   ·have s5:=he 5 (by decide)
    simp (disch:=first|exact dqz|fail) only[pgz,simprocAttr,hS,hb0S,hb1S,aC,aQ,s5]
    exact bI 6 (T:=[(40,.ref 0 1),(41,vi t),(42,.ref 1 1),(43,vi t2),(44,vi T),(45,.ref 0 2),(46,vi lo),(47,.ref 1 2),(48,vi lo2),(49,vi LO)]) rfl hnd (hBi S 6 (by decide) (by decide)) (hNi S 6)
   ·simp (disch:=first|exact dqz|fail) only[pgz,simprocAttr,hS,hb0S,hb1S,aC,aQ]
    exact bI 7 (T:=[(40,.ref 0 1),(41,vi t),(42,.ref 1 1),(43,vi t2),(44,vi T),(45,.ref 0 2),(46,vi lo),(47,.ref 1 2),(48,vi lo2),(49,vi LO)]) rfl hnd (hBi S 7 (by decide) (by decide)) (hNi S 7)
   ·have s7:=he 7 (by decide)
    simp (disch:=first|exact dqz|fail) only[pgz,simprocAttr,hS,hb0S,hb1S,aC,aQ,s7]
    exact bI 8 (T:=[(40,.ref 0 1),(41,vi t),(42,.ref 1 1),(43,vi t2),(44,vi T),(45,.ref 0 2),(46,vi lo),(47,.ref 1 2),(48,vi lo2),(49,vi LO)]) rfl hnd (hBi S 8 (by decide) (by decide)) (hNi S 8)
   ·have s6:=he 6 (by decide)
    have s8:=he 8 (by decide)
    have s4:=he 4 (by decide)
    have e0:BX S=B1:=by rw[hBX];simp only[hS,s4];rfl
    have e1:BX (ins S 9)=B2:=by rw[hBX];simp only[Ad];rfl
    simp (disch:=first|exact dqz|fail) only[pgz,simprocAttr,hS,e0,aC,aQ,s6,s8,s4]
    refine cZ (hz2 _ _ _) ?_ (by simp only[List.map_cons,List.map_nil,pgo,simprocAttr,aC,aQ,s6,s8,s4])
    exact bI 9 (T:=[(40,.ref 0 1),(41,vi t),(42,.ref 1 1),(43,vi t2),(44,vi T),(45,.ref 0 2),(46,vi lo),(47,.ref 1 2),(48,vi lo2),(49,vi LO)]) rfl hnd (by rw[e1,hB2]) (hNi S 9)
  ·intro S hall
   have s0:=hall 0 (by decide) (by decide)
   have s1:=hall 1 (by decide) (by decide)
   have s2:=hall 2 (by decide) (by decide)
   have s3:=hall 3 (by decide) (by decide)
   have s4:=hall 4 (by decide) (by decide)
   have s5:=hall 5 (by decide) (by decide)
   have s6:=hall 6 (by decide) (by decide)
   have s7:=hall 7 (by decide) (by decide)
   have s8:=hall 8 (by decide) (by decide)
   have s9:=hall 9 (by decide) (by decide)
   have e0:BX S=B2:=by rw[hBX];simp only[s9];rfl
   have n0:NI S=4:=by rw[hNI]
   simp only[List.drop_succ_cons,List.drop_zero,List.map_cons,List.map_nil]
   rw[e0,n0]
   have b23:B2 3=some (36,[vi z,vi 0,vi 0,nls,vb (true||f1||f2)]):=by rw[hB2];exact lF _ _ _
   have b20:B2 0=some (36,fqF ⟨z,t,lo,l,true⟩):=by rw[hB2,TY _ _ _ _ (by decide),hB1,TY _ _ _ _ (by decide),hB0];rfl
   have b21:B2 1=some (36,fqF ⟨z2,t2,lo2,l2,b2⟩):=by rw[hB2,TY _ _ _ _ (by decide),hB1,TY _ _ _ _ (by decide),hB0];rfl
   have b22:B2 2=some (36,[vi 0,vi 0,vi 0,nls,vb false]):=by rw[hB2,TY _ _ _ _ (by decide),hB1,TY _ _ _ _ (by decide),hB0];rfl
   (repeat' (first|(simp (disch:=first|exact dqz|fail) only[pgz,simprocAttr,s0,s1,s2,s3,s4,s5,s6,s7,s8,s9,aC,aQ,pgE,pgj,iC,b23,b20,b21,b22,hJe,hgt])|(refine tC ?_;refine dZ _ (hj _ _ _ _ _ _ _ _ (by simp only[upd,b23];rfl)) rfl ?_)|(refine tE ?_ ?_<;>intro hc)|refine xK ?_|fail))
   refine bZ [4] (.tup [.agg [vi z,vi T,vi LO,.sl (.own 4 119) 3 (ev J),vb (true||f1||f2||jF)],vi 0]) (by simp (disch:=first|assumption|omega) only[pgr,pgo,tyf,simprocAttr,b22];first|rfl|skip) (by decide) (by simp only[pgo,simprocAttr]) ?_
   first|rfl|simp [V.map,V.mapL,nz,pgo]
theorem aiy(x y:Fq)(hx:octE x.e)(hy:octE y.e)(c1:vFq x=0)(c2:vFq y=0)(cz:x.z=y.z)(cl:((jnF x y).length:Int) > x.z) :
  Gxx 52 [.agg (fqF x),.agg (fqF y)] (.tup [.agg [vi x.z,vi (aO x.t y.t).1,vi (aO (aO x.l y.l).1 (DD x y)).1,.sl (.own 0 119) 3 (ev (iU (DD x y) (jnF x y))),vb ((x.b||y.b||(aO x.t y.t).2||(aO x.l y.l).2||jfF x y)||(aO (aO x.l y.l).1 (DD x y)).2)],vi 0]):=by
 obtain⟨i1,i2,i2',i3,i4⟩:=jW c1
 obtain⟨j1,j2,j2',j3,j4⟩:=jW c2
 have h1:=Ec x hx (by omega)
 have h2:=Ec y hy (by omega)
 rw[c1] at h1
 rw[c2] at h2
 have hj:=Zk x.e y.e hx hy (fun u hu=>by have:=(uZ c1 u hu).1;unfold W64;omega) (fun u hu=>by have:=(uZ c2 u hu).1;unfold W64;omega) (by omega) (by omega)
 have ejn:jn (x.e.length+y.e.length) x.e y.e=jnF x y:=rfl
 have ejf:jf (x.e.length+y.e.length) x.e y.e=jfF x y:=rfl
 rw[ejn,ejf] at hj
 have hJl:(jnF x y).length≤x.e.length+y.e.length:=Ei _ _ _
 have hJm:=XY c1 c2
 have hd:=aiU (jnF x y) x.z.toNat (by omega)
 have ecf:((srt bfE (jnF x y)).getD x.z.toNat eD).2.1=DD x y:=rfl
 rw[ecf] at hd
 have hcf:1≤DD x y∧DD x y≤1099511627776:=(hJm _ ((OO bfE _ _).1 (nJ (srt bfE (jnF x y)) x.z.toNat eD (by rw[wI];omega)))).1
 have hcin:cin (jnF x y):=fun u hu=>(hJm u hu).1
 have hlo:=Eh (jnF x y) (DD x y) hcin (fun u hu=>(hJm u hu).2) hcf (by omega)
 have hJe:=aG (jnF x y)
 have hzz:(x.z=y.z)=True:=eq_true cz
 have hgt:(((jnF x y).length:Int) > x.z)=True:=eq_true cl
 generalize jnF x y=J at *
 generalize jfF x y=jF at *
 generalize DD x y=d at *
 have hz1':=fun (e:Nat→V) (bx:Bxx) (n:Nat) (h:Nat→V) (a b:Int) (sa:Bool) (hb:bx 3=some (36,[vi x.z,vi a,vi b,nls,vb sa]))=>qC e bx n h 3 x.t y.t x.z a b nls sa (by unfold W64;omega) (by unfold W64;omega) hb
 have hz2':=fun (e:Nat→V) (bx:Bxx) (n:Nat) (h:Nat→V) (a b:Int) (sa:Bool) (hb:bx 3=some (36,[vi x.z,vi a,vi b,nls,vb sa]))=>qC e bx n h 3 x.l y.l x.z a b nls sa (by unfold W64;omega) (by unfold W64;omega) hb
 have hLO:=pR x.l y.l
 generalize aO x.t y.t=aT at *
 generalize aO x.l y.l=aL at *
 obtain⟨T,f1⟩:=aT
 obtain⟨LO,f2⟩:=aL
 have hz3':=fun (e:Nat→V) (bx:Bxx) (n:Nat) (h:Nat→V) (a:Int) (en:V) (sa:Bool) (hb:bx 3=some (36,[vi x.z,vi a,vi LO,en,vb sa]))=>qC e bx n h 3 LO d x.z a LO en sa (by simp only at hLO;unfold W64;omega) (by unfold W64;omega) hb
 obtain⟨z,t,lo,l,b⟩:=x
 obtain⟨z2,t2,lo2,l2,b2⟩:=y
 simp only at *
 cases b
 ·obtain⟨B0,hB0⟩:∃fB,fB=upd (upd (upd (upd (fun _=>none) 0 (some (36,fqF ⟨z,t,lo,l,false⟩))) 1 (some (36,fqF ⟨z2,t2,lo2,l2,b2⟩))) 2 (some (36,[y0,y0,y0,yn,yf]))) 3 (some (36,[vi z,vi 0,vi 0,nls,vb b2])):=⟨_,rfl⟩
  obtain⟨B1,hB1⟩:∃fB,fB=upd B0 3 (some (36,[vi z,vi 0,vi 0,nls,vb (b2||f1)])):=⟨_,rfl⟩
  obtain⟨B2,hB2⟩:∃fB,fB=upd B1 3 (some (36,[vi z,vi 0,vi 0,nls,vb (b2||f1||f2)])):=⟨_,rfl⟩
  have b03:B0 3=some (36,[vi z,vi 0,vi 0,nls,vb b2]):=by rw[hB0];exact lF _ _ _
  have b13:B1 3=some (36,[vi z,vi 0,vi 0,nls,vb (b2||f1)]):=by rw[hB1];exact lF _ _ _
  have hz1:=fun (e:Nat→V) (n:Nat) (h:Nat→V)=>hz1' e B0 n h 0 0 _ b03
  have hz2:=fun (e:Nat→V) (n:Nat) (h:Nat→V)=>hz2' e B1 n h 0 0 _ b13
  refine gI (eu [] mix) Tryz.func52 Tryz.results52 ?_
  (repeat' (first|(simp (disch:=first|exact dqz|fail) only[pgz,simprocAttr,pgE,pgj,iC,hzz])|(refine tC ?_;first|refine cU h1 ?_|refine cU h2 ?_)|(refine tE ?_ ?_<;>intro hc)|refine xK ?_|fail))
  obtain⟨BX,hBX⟩:∃fB:(Nat→Bool)→Bxx,fB=fun S=>if S 9=true then B2 else if S 4=true then B1 else B0:=⟨_,rfl⟩
  obtain⟨NI,hNI⟩:∃fB:(Nat→Bool)→Nat,fB=fun S=>4:=⟨_,rfl⟩
  have hBi:∀S i,i≠4→i≠9→BX S=BX (ins S i):=fun S i q4 q9=>by rw[hBX];simp only[bV (Ne.symm q4),bV (Ne.symm q9)]
  have hNi:∀S i,NI S=NI (ins S i):=fun S i=>by rw[hNI]
  have hb0S:∀S,BX S 0=some (36,fqF ⟨z,t,lo,l,false⟩):=fun S=>by
   have q0:B0 0=some (36,fqF ⟨z,t,lo,l,false⟩):=by rw[hB0];rfl
   have q1:B1 0=some (36,fqF ⟨z,t,lo,l,false⟩):=by rw[hB1,TY _ _ _ _ (by decide)];exact q0
   rw[hBX];simp only
   split
   ·rw[hB2,TY _ _ _ _ (by decide)];exact q1
   ·split
    ·exact q1
    ·exact q0
  have hb1S:∀S,BX S 1=some (36,fqF ⟨z2,t2,lo2,l2,b2⟩):=fun S=>by
   have q0:B0 1=some (36,fqF ⟨z2,t2,lo2,l2,b2⟩):=by rw[hB0];rfl
   have q1:B1 1=some (36,fqF ⟨z2,t2,lo2,l2,b2⟩):=by rw[hB1,TY _ _ _ _ (by decide)];exact q0
   rw[hBX];simp only
   split
   ·rw[hB2,TY _ _ _ _ (by decide)];exact q1
   ·split
    ·exact q1
    ·exact q0
  have hnd:([40,41,42,43,44,45,46,47,48,49]:List Nat).Nodup:=by decide
  refine SH mix 10 [(40,.ref 0 1),(41,vi t),(42,.ref 1 1),(43,vi t2),(44,vi T),(45,.ref 0 2),(46,vi lo),(47,.ref 1 2),(48,vi lo2),(49,vi LO)] BX NI (by rw[hBX];show B0=_;simp only[hB0,NS]) (by rw[hNI]) (by decide) (by decide) (by decide) ?_ ?_
  ·intro S i o ho hi hS he hcl
   rcases (by omega:i=0∨i=1∨i=2∨i=3∨i=4∨i=5∨i=6∨i=7∨i=8∨i=9) with rfl|rfl|rfl|rfl|rfl|rfl|rfl|rfl|rfl|rfl
   all_goals (simp only[List.getElem?_cons_zero,List.getElem?_cons_succ,Option.some.injEq] at ho;subst ho)
   ·simp (disch:=first|exact dqz|fail) only[pgz,simprocAttr,hS,hb0S,hb1S,aC,aQ]
    exact bI 0 (T:=[(40,.ref 0 1),(41,vi t),(42,.ref 1 1),(43,vi t2),(44,vi T),(45,.ref 0 2),(46,vi lo),(47,.ref 1 2),(48,vi lo2),(49,vi LO)]) rfl hnd (hBi S 0 (by decide) (by decide)) (hNi S 0)
   ·have s0:=he 0 (by decide)
    simp (disch:=first|exact dqz|fail) only[pgz,simprocAttr,hS,hb0S,hb1S,aC,aQ,s0]
    exact bI 1 (T:=[(40,.ref 0 1),(41,vi t),(42,.ref 1 1),(43,vi t2),(44,vi T),(45,.ref 0 2),(46,vi lo),(47,.ref 1 2),(48,vi lo2),(49,vi LO)]) rfl hnd (hBi S 1 (by decide) (by decide)) (hNi S 1)
   ·simp (disch:=first|exact dqz|fail) only[pgz,simprocAttr,hS,hb0S,hb1S,aC,aQ]
    exact bI 2 (T:=[(40,.ref 0 1),(41,vi t),(42,.ref 1 1),(43,vi t2),(44,vi T),(45,.ref 0 2),(46,vi lo),(47,.ref 1 2),(48,vi lo2),(49,vi LO)]) rfl hnd (hBi S 2 (by decide) (by decide)) (hNi S 2)
   ·have s2:=he 2 (by decide)
    simp (disch:=first|exact dqz|fail) only[pgz,simprocAttr,hS,hb0S,hb1S,aC,aQ,s2]
    exact bI 3 (T:=[(40,.ref 0 1),(41,vi t),(42,.ref 1 1),(43,vi t2),(44,vi T),(45,.ref 0 2),(46,vi lo),(47,.ref 1 2),(48,vi lo2),(49,vi LO)]) rfl hnd (hBi S 3 (by decide) (by decide)) (hNi S 3)
   ·have s1:=he 1 (by decide)
    have s3:=he 3 (by decide)
    have n9:S 9=false:=by
     cases h5:S 9 with
     | false=>rfl
     | true=>have:=hcl 9 _ rfl h5 4 (by decide);rw[hS] at this;cases this
    have e0:BX S=B0:=by rw[hBX];simp only[hS,n9];rfl
    have e1:BX (ins S 4)=B1:=by rw[hBX];simp only[Ad,bV (show 9≠4 by decide),n9];rfl
    simp (disch:=first|exact dqz|fail) only[pgz,simprocAttr,hS,e0,aC,aQ,s1,s3]
    refine cZ (hz1 _ _ _) ?_ (by simp only[List.map_cons,List.map_nil,pgo,simprocAttr,aC,aQ,s1,s3])
    exact bI 4 (T:=[(40,.ref 0 1),(41,vi t),(42,.ref 1 1),(43,vi t2),(44,vi T),(45,.ref 0 2),(46,vi lo),(47,.ref 1 2),(48,vi lo2),(49,vi LO)]) rfl hnd (by rw[e1,hB1]) (hNi S 4)
   ·simp (disch:=first|exact dqz|fail) only[pgz,simprocAttr,hS,hb0S,hb1S,aC,aQ]
    exact bI 5 (T:=[(40,.ref 0 1),(41,vi t),(42,.ref 1 1),(43,vi t2),(44,vi T),(45,.ref 0 2),(46,vi lo),(47,.ref 1 2),(48,vi lo2),(49,vi LO)]) rfl hnd (hBi S 5 (by decide) (by decide)) (hNi S 5)
   ·have s5:=he 5 (by decide)
    simp (disch:=first|exact dqz|fail) only[pgz,simprocAttr,hS,hb0S,hb1S,aC,aQ,s5]
    exact bI 6 (T:=[(40,.ref 0 1),(41,vi t),(42,.ref 1 1),(43,vi t2),(44,vi T),(45,.ref 0 2),(46,vi lo),(47,.ref 1 2),(48,vi lo2),(49,vi LO)]) rfl hnd (hBi S 6 (by decide) (by decide)) (hNi S 6)
   ·simp (disch:=first|exact dqz|fail) only[pgz,simprocAttr,hS,hb0S,hb1S,aC,aQ]
    exact bI 7 (T:=[(40,.ref 0 1),(41,vi t),(42,.ref 1 1),(43,vi t2),(44,vi T),(45,.ref 0 2),(46,vi lo),(47,.ref 1 2),(48,vi lo2),(49,vi LO)]) rfl hnd (hBi S 7 (by decide) (by decide)) (hNi S 7)
   ·have s7:=he 7 (by decide)
    simp (disch:=first|exact dqz|fail) only[pgz,simprocAttr,hS,hb0S,hb1S,aC,aQ,s7]
    exact bI 8 (T:=[(40,.ref 0 1),(41,vi t),(42,.ref 1 1),(43,vi t2),(44,vi T),(45,.ref 0 2),(46,vi lo),(47,.ref 1 2),(48,vi lo2),(49,vi LO)]) rfl hnd (hBi S 8 (by decide) (by decide)) (hNi S 8)
   ·have s6:=he 6 (by decide)
    have s8:=he 8 (by decide)
    have s4:=he 4 (by decide)
    have e0:BX S=B1:=by rw[hBX];simp only[hS,s4];rfl
    have e1:BX (ins S 9)=B2:=by rw[hBX];simp only[Ad];rfl
    simp (disch:=first|exact dqz|fail) only[pgz,simprocAttr,hS,e0,aC,aQ,s6,s8,s4]
    refine cZ (hz2 _ _ _) ?_ (by simp only[List.map_cons,List.map_nil,pgo,simprocAttr,aC,aQ,s6,s8,s4])
    exact bI 9 (T:=[(40,.ref 0 1),(41,vi t),(42,.ref 1 1),(43,vi t2),(44,vi T),(45,.ref 0 2),(46,vi lo),(47,.ref 1 2),(48,vi lo2),(49,vi LO)]) rfl hnd (by rw[e1,hB2]) (hNi S 9)
  ·intro S hall
   have s0:=hall 0 (by decide) (by decide)
   have s1:=hall 1 (by decide) (by decide)
   have s2:=hall 2 (by decide) (by decide)
   have s3:=hall 3 (by decide) (by decide)
   have s4:=hall 4 (by decide) (by decide)
   have s5:=hall 5 (by decide) (by decide)
   have s6:=hall 6 (by decide) (by decide)
   have s7:=hall 7 (by decide) (by decide)
   have s8:=hall 8 (by decide) (by decide)
   have s9:=hall 9 (by decide) (by decide)
   have e0:BX S=B2:=by rw[hBX];simp only[s9];rfl
   have n0:NI S=4:=by rw[hNI]
   simp only[List.drop_succ_cons,List.drop_zero,List.map_cons,List.map_nil]
   rw[e0,n0]
   have b23:B2 3=some (36,[vi z,vi 0,vi 0,nls,vb (b2||f1||f2)]):=by rw[hB2];exact lF _ _ _
   have b20:B2 0=some (36,fqF ⟨z,t,lo,l,false⟩):=by rw[hB2,TY _ _ _ _ (by decide),hB1,TY _ _ _ _ (by decide),hB0];rfl
   have b21:B2 1=some (36,fqF ⟨z2,t2,lo2,l2,b2⟩):=by rw[hB2,TY _ _ _ _ (by decide),hB1,TY _ _ _ _ (by decide),hB0];rfl
   have b22:B2 2=some (36,[vi 0,vi 0,vi 0,nls,vb false]):=by rw[hB2,TY _ _ _ _ (by decide),hB1,TY _ _ _ _ (by decide),hB0];rfl
   have htf:dX (aJ 4) (fun _=>V.top)=fun _=>V.top:=rfl
   (repeat' (first|(simp (disch:=first|exact dqz|fail) only[pgz,simprocAttr,s0,s1,s2,s3,s4,s5,s6,s7,s8,s9,aC,aQ,pgE,pgj,iC,b23,b20,b21,b22,hJe,hgt,htf])|(refine tC ?_;refine dZ _ (hj _ _ _ _ _ _ _ _ (by simp only[upd,b23];rfl)) rfl ?_)|(refine tE ?_ ?_<;>intro hc)|refine xK ?_|fail))
   obtain⟨m,hm⟩:∃m,m=5+l.length+l2.length:=⟨_,rfl⟩
   have hm4:¬4=m:=by omega
   have hpz:∀(ty:TypeId) (k:Nat) (xs:List V),aJ m (.sl (.own 4 ty) k xs) = .sl (.own 4 ty) k xs:=fun ty k xs=>by simp [aJ,V.has,V.any,Tag.is,hm4]
   have htm:dX (aJ m) (fun _=>V.top)=fun _=>V.top:=funext fun _=>by show aJ m .top = .top;unfold aJ;split<;>rfl
   obtain⟨bF,hbF⟩:∃fB,fB=upd (upd (fun _=>none) 2 (some (36,[vi 0,vi 0,vi 0,nls,vb false]))) 3 (some (36,[vi z,vi T,vi LO,.sl (.own 4 119) 3 (ev J),vb (b2||f1||f2||jF)])):=⟨_,rfl⟩
   have g3:bF 3=some (36,[vi z,vi T,vi LO,.sl (.own 4 119) 3 (ev J),vb (b2||f1||f2||jF)]):=by rw[hbF];exact lF _ _ _
   have g2:bF 2=some (36,[vi 0,vi 0,vi 0,nls,vb false]):=by rw[hbF];rfl
   have gn:∀c,c≠3→c≠2→bF c=none:=fun c k3 k2=>by rw[hbF,TY _ _ _ _ k3,TY _ _ _ _ k2]
   refine sO (ι:=Nat) (fun i=>⟨iP [(4,.ref 2 0),(8,.ref 3 0),(9,.sl (.own m 3) 1 (iv ((J.take i).map fun y=>y.2.1))),(65,.sl (.own 4 119) 3 (ev J)),(66,vi J.length),(67,vi i)],bF,m+1+2*i,fun _ => .top⟩) (fun i=>i≤J.length) (fun i=>J.length-i) 0 ?_ (Nat.zero_le _) ?_
   ·refine kP ?_ (fun c x' hx => ?_) (by show 5+l.length+l2.length≤m+1+2*0;omega)
    ·simp only[mQ,pY,pgo,simprocAttr,and_true]
     exact⟨bJ _,bJ _,FZ _ _,bJ _,bJ _,bJ _⟩
    ·have hx:bF c=some x':=hx
     by_cases k3:c=3
     ·subst k3
      rw[g3] at hx;cases hx
      first|exact⟨_,rfl,rfl,fZ _⟩|(refine⟨_,rfl,rfl,bJ _,bJ _,bJ _,bJ _, ?_,trivial⟩;simp;exact bJ _)
     ·by_cases k2:c=2
      ·subst k2
       rw[g2] at hx;cases hx
       exact⟨(36,[vi 0,vi 0,vi 0,nls,vb false]),by rw[TY _ _ _ _ (by decide),TY _ _ _ _ (by decide),iG,TY _ _ _ _ (by decide),TY _ _ _ _ (by decide),b22];rfl,rfl,fZ _⟩
      ·rw[gn c k3 k2] at hx;cases hx
   ·rintro i hi
    have hi:i≤J.length:=hi
    have hil:(iv ((J.take i).map fun y=>y.2.1)).length=i:=by rw[aZ,List.length_map,List.length_take];omega
    rcases Nat.lt_or_ge i J.length with hlt|hge
    ·have hg:=eY J i hlt
     have hcs:iv ((J.take i).map fun y=>y.2.1)++[vi (J.getD i ([],0,0)).2.1]=iv ((J.take (i+1)).map fun y=>y.2.1):=by
      rw[←sJ J i hlt,List.map_append];simp [iv]
     have hlt2:((i:Int)<(J.length:Int))=True:=eq_true (by omega)
     generalize J.getD i ([],0,0)=en at *
     (repeat' (first|(simp (disch:=first|exact dqz|fail) only[pgz,simprocAttr,pgE,pgj,iC,hJe,hlt2,hg,hcs,hil,hpz,htm])|(refine tE ?_ ?_<;>intro hc)|refine xK ?_|fail))
     have h4b:(if (4 == m)=true then V.top else V.sl (Tag.own 4 119) 3 (ev J))=V.sl (Tag.own 4 119) 3 (ev J):=if_neg (by simpa using hm4)
     refine lY (i+1) hlt (by show J.length-(i+1)<J.length-i;omega) (kP (EnvIs.w ?_) (fun c x' hx => ?_) (by (try simp only);(first|omega|(split<;>omega))))
     ·((try simp only[bu,jm,cO,cu,pgo,simprocAttr,and_true,true_and]);try (repeat' (first|exact trivial|rfl|apply aI)))
      all_goals first|exact h4b|skip
     ·have hx:bF c=some x':=hx
      by_cases k3:c=3
      ·subst k3
       rw[g3] at hx;cases hx
       exact⟨_,by rw[iG,TY _ _ _ _ (by omega),TY _ _ _ _ (by omega),g3];simp only[Option.map_some,List.map_cons,List.map_nil,hpz];rfl,rfl,fZ _⟩
      ·by_cases k2:c=2
       ·subst k2
        rw[g2] at hx;cases hx
        exact⟨_,by rw[iG,TY _ _ _ _ (by omega),TY _ _ _ _ (by omega),g2];rfl,rfl,fZ _⟩
       ·rw[gn c k3 k2] at hx;cases hx
    ·have hie:i=J.length:=by omega
     subst hie
     rw[List.take_length]
     have hlt2:((J.length:Int)<(J.length:Int))=False:=eq_false (by omega)
     have hso:=fun s=>aeN (J.map fun y=>y.2.1) (by rw[List.length_map];omega) m 3 s
     have hmV:∀(e2:Nat→V) (b2:Bxx) (n2:Nat) (h2:Nat→V) (ψ:V→V),St.mapV ⟨e2,b2,n2,h2⟩ ψ=⟨dX ψ e2,mapB ψ b2,n2,dX ψ h2⟩:=fun _ _ _ _ _=>rfl
     have hSl:((J.map fun y=>y.2.1).mergeSort fun x y=>decide (x≤y)).length=J.length:=by rw[List.length_mergeSort,List.length_map]
     have hSi:=aZ ((J.map fun y=>y.2.1).mergeSort fun x y=>decide (x≤y))
     have hSg:=kF ((J.map fun y=>y.2.1).mergeSort fun x y=>decide (x≤y)) (J.length-1-z.toNat) (by omega)
     rw[hd] at hSg
     rw[hSl] at hSi
     generalize ((J.map fun y=>y.2.1).mergeSort fun x y=>decide (x≤y))=SS at *
     have hth:∀ty,tuO m 1 (iv SS) (.sl (.own m ty) 1 (iv (J.map fun y=>y.2.1))) = .sl (.own m ty) 1 (iv SS):=fun ty=>Ae m 1 _ ty _ (by rw[hSi,aZ,List.length_map])
     have htn:∀(ty:TypeId) (k:Nat) (xs:List V),tuO m 1 (iv SS) (.sl (.own 4 ty) k xs) = .sl (.own 4 ty) k xs:=fun ty k xs=>afa m 1 _ 4 ty k xs hm4
     have hix:((J.length:Int)-1-z).toNat=J.length-1-z.toNat:=by omega
     (repeat' (first|(simp (disch:=first|exact dqz|fail) only[pgz,simprocAttr,pgE,pgj,iC,hJe,hlt2,hmV,hth,htn,ac7,Ph,hSi,hix,hSg,g3,g2,id_eq])|(refine tC ?_;first|refine dZ _ (hso _) rfl ?_|refine cG [4] hlo ?_|refine dZ _ (hz3' _ _ _ _ _ _ _ (by first|rfl|simp [upd])) rfl ?_)|(refine tE ?_ ?_<;>intro hc)|refine xK ?_|fail))
     refine bZ [m+1+2*J.length] (.tup [.agg [vi z,vi T,vi (aO LO d).1,.sl (.own (m+1+2*J.length) 119) 3 (ev (iU d J)),vb (b2||f1||f2||jF||(aO LO d).2)],vi 0]) (by simp (disch:=first|assumption|omega) only[pgr,pgo,tyf,simprocAttr,g2];first|rfl|skip) (by simp) (by simp only[pgo,simprocAttr];first|rfl|simp) ?_
     simp [V.map,V.mapL,nz,pgo]
 ·obtain⟨B0,hB0⟩:∃fB,fB=upd (upd (upd (upd (fun _=>none) 0 (some (36,fqF ⟨z,t,lo,l,true⟩))) 1 (some (36,fqF ⟨z2,t2,lo2,l2,b2⟩))) 2 (some (36,[y0,y0,y0,yn,yf]))) 3 (some (36,[vi z,vi 0,vi 0,nls,vb true])):=⟨_,rfl⟩
  obtain⟨B1,hB1⟩:∃fB,fB=upd B0 3 (some (36,[vi z,vi 0,vi 0,nls,vb (true||f1)])):=⟨_,rfl⟩
  obtain⟨B2,hB2⟩:∃fB,fB=upd B1 3 (some (36,[vi z,vi 0,vi 0,nls,vb (true||f1||f2)])):=⟨_,rfl⟩
  have b03:B0 3=some (36,[vi z,vi 0,vi 0,nls,vb true]):=by rw[hB0];exact lF _ _ _
  have b13:B1 3=some (36,[vi z,vi 0,vi 0,nls,vb (true||f1)]):=by rw[hB1];exact lF _ _ _
  have hz1:=fun (e:Nat→V) (n:Nat) (h:Nat→V)=>hz1' e B0 n h 0 0 _ b03
  have hz2:=fun (e:Nat→V) (n:Nat) (h:Nat→V)=>hz2' e B1 n h 0 0 _ b13
  refine gI (eu [] mix) Tryz.func52 Tryz.results52 ?_
  (repeat' (first|(simp (disch:=first|exact dqz|fail) only[pgz,simprocAttr,pgE,pgj,iC,hzz])|(refine tC ?_;first|refine cU h1 ?_|refine cU h2 ?_)|(refine tE ?_ ?_<;>intro hc)|refine xK ?_|fail))
  obtain⟨BX,hBX⟩:∃fB:(Nat→Bool)→Bxx,fB=fun S=>if S 9=true then B2 else if S 4=true then B1 else B0:=⟨_,rfl⟩
  obtain⟨NI,hNI⟩:∃fB:(Nat→Bool)→Nat,fB=fun S=>4:=⟨_,rfl⟩
  have hBi:∀S i,i≠4→i≠9→BX S=BX (ins S i):=fun S i q4 q9=>by rw[hBX];simp only[bV (Ne.symm q4),bV (Ne.symm q9)]
  have hNi:∀S i,NI S=NI (ins S i):=fun S i=>by rw[hNI]
  have hb0S:∀S,BX S 0=some (36,fqF ⟨z,t,lo,l,true⟩):=fun S=>by
   have q0:B0 0=some (36,fqF ⟨z,t,lo,l,true⟩):=by rw[hB0];rfl
   have q1:B1 0=some (36,fqF ⟨z,t,lo,l,true⟩):=by rw[hB1,TY _ _ _ _ (by decide)];exact q0
   rw[hBX];simp only
   split
   ·rw[hB2,TY _ _ _ _ (by decide)];exact q1
   ·split
    ·exact q1
    ·exact q0
  have hb1S:∀S,BX S 1=some (36,fqF ⟨z2,t2,lo2,l2,b2⟩):=fun S=>by
   have q0:B0 1=some (36,fqF ⟨z2,t2,lo2,l2,b2⟩):=by rw[hB0];rfl
   have q1:B1 1=some (36,fqF ⟨z2,t2,lo2,l2,b2⟩):=by rw[hB1,TY _ _ _ _ (by decide)];exact q0
   rw[hBX];simp only
   split
   ·rw[hB2,TY _ _ _ _ (by decide)];exact q1
   ·split
    ·exact q1
    ·exact q0
  have hnd:([40,41,42,43,44,45,46,47,48,49]:List Nat).Nodup:=by decide
  refine SH mix 10 [(40,.ref 0 1),(41,vi t),(42,.ref 1 1),(43,vi t2),(44,vi T),(45,.ref 0 2),(46,vi lo),(47,.ref 1 2),(48,vi lo2),(49,vi LO)] BX NI (by rw[hBX];show B0=_;simp only[hB0,NS]) (by rw[hNI]) (by decide) (by decide) (by decide) ?_ ?_
  ·intro S i o ho hi hS he hcl
   rcases (by omega:i=0∨i=1∨i=2∨i=3∨i=4∨i=5∨i=6∨i=7∨i=8∨i=9) with rfl|rfl|rfl|rfl|rfl|rfl|rfl|rfl|rfl|rfl
   all_goals (simp only[List.getElem?_cons_zero,List.getElem?_cons_succ,Option.some.injEq] at ho;subst ho)
   ·simp (disch:=first|exact dqz|fail) only[pgz,simprocAttr,hS,hb0S,hb1S,aC,aQ]
    exact bI 0 (T:=[(40,.ref 0 1),(41,vi t),(42,.ref 1 1),(43,vi t2),(44,vi T),(45,.ref 0 2),(46,vi lo),(47,.ref 1 2),(48,vi lo2),(49,vi LO)]) rfl hnd (hBi S 0 (by decide) (by decide)) (hNi S 0)
   ·have s0:=he 0 (by decide)
    simp (disch:=first|exact dqz|fail) only[pgz,simprocAttr,hS,hb0S,hb1S,aC,aQ,s0]
    exact bI 1 (T:=[(40,.ref 0 1),(41,vi t),(42,.ref 1 1),(43,vi t2),(44,vi T),(45,.ref 0 2),(46,vi lo),(47,.ref 1 2),(48,vi lo2),(49,vi LO)]) rfl hnd (hBi S 1 (by decide) (by decide)) (hNi S 1)
   ·simp (disch:=first|exact dqz|fail) only[pgz,simprocAttr,hS,hb0S,hb1S,aC,aQ]
    exact bI 2 (T:=[(40,.ref 0 1),(41,vi t),(42,.ref 1 1),(43,vi t2),(44,vi T),(45,.ref 0 2),(46,vi lo),(47,.ref 1 2),(48,vi lo2),(49,vi LO)]) rfl hnd (hBi S 2 (by decide) (by decide)) (hNi S 2)
   ·have s2:=he 2 (by decide)
    simp (disch:=first|exact dqz|fail) only[pgz,simprocAttr,hS,hb0S,hb1S,aC,aQ,s2]
    exact bI 3 (T:=[(40,.ref 0 1),(41,vi t),(42,.ref 1 1),(43,vi t2),(44,vi T),(45,.ref 0 2),(46,vi lo),(47,.ref 1 2),(48,vi lo2),(49,vi LO)]) rfl hnd (hBi S 3 (by decide) (by decide)) (hNi S 3)
   ·have s1:=he 1 (by decide)
    have s3:=he 3 (by decide)
    have n9:S 9=false:=by
     cases h5:S 9 with
     | false=>rfl
     | true=>have:=hcl 9 _ rfl h5 4 (by decide);rw[hS] at this;cases this
    have e0:BX S=B0:=by rw[hBX];simp only[hS,n9];rfl
    have e1:BX (ins S 4)=B1:=by rw[hBX];simp only[Ad,bV (show 9≠4 by decide),n9];rfl
    simp (disch:=first|exact dqz|fail) only[pgz,simprocAttr,hS,e0,aC,aQ,s1,s3]
    refine cZ (hz1 _ _ _) ?_ (by simp only[List.map_cons,List.map_nil,pgo,simprocAttr,aC,aQ,s1,s3])
    exact bI 4 (T:=[(40,.ref 0 1),(41,vi t),(42,.ref 1 1),(43,vi t2),(44,vi T),(45,.ref 0 2),(46,vi lo),(47,.ref 1 2),(48,vi lo2),(49,vi LO)]) rfl hnd (by rw[e1,hB1]) (hNi S 4)
   ·simp (disch:=first|exact dqz|fail) only[pgz,simprocAttr,hS,hb0S,hb1S,aC,aQ]
    exact bI 5 (T:=[(40,.ref 0 1),(41,vi t),(42,.ref 1 1),(43,vi t2),(44,vi T),(45,.ref 0 2),(46,vi lo),(47,.ref 1 2),(48,vi lo2),(49,vi LO)]) rfl hnd (hBi S 5 (by decide) (by decide)) (hNi S 5)
   ·have s5:=he 5 (by decide)
    simp (disch:=first|exact dqz|fail) only[pgz,simprocAttr,hS,hb0S,hb1S,aC,aQ,s5]
    exact bI 6 (T:=[(40,.ref 0 1),(41,vi t),(42,.ref 1 1),(43,vi t2),(44,vi T),(45,.ref 0 2),(46,vi lo),(47,.ref 1 2),(48,vi lo2),(49,vi LO)]) rfl hnd (hBi S 6 (by decide) (by decide)) (hNi S 6)
   ·simp (disch:=first|exact dqz|fail) only[pgz,simprocAttr,hS,hb0S,hb1S,aC,aQ]
    exact bI 7 (T:=[(40,.ref 0 1),(41,vi t),(42,.ref 1 1),(43,vi t2),(44,vi T),(45,.ref 0 2),(46,vi lo),(47,.ref 1 2),(48,vi lo2),(49,vi LO)]) rfl hnd (hBi S 7 (by decide) (by decide)) (hNi S 7)
   ·have s7:=he 7 (by decide)
    simp (disch:=first|exact dqz|fail) only[pgz,simprocAttr,hS,hb0S,hb1S,aC,aQ,s7]
    exact bI 8 (T:=[(40,.ref 0 1),(41,vi t),(42,.ref 1 1),(43,vi t2),(44,vi T),(45,.ref 0 2),(46,vi lo),(47,.ref 1 2),(48,vi lo2),(49,vi LO)]) rfl hnd (hBi S 8 (by decide) (by decide)) (hNi S 8)
   ·have s6:=he 6 (by decide)
    have s8:=he 8 (by decide)
    have s4:=he 4 (by decide)
    have e0:BX S=B1:=by rw[hBX];simp only[hS,s4];rfl
    have e1:BX (ins S 9)=B2:=by rw[hBX];simp only[Ad];rfl
    simp (disch:=first|exact dqz|fail) only[pgz,simprocAttr,hS,e0,aC,aQ,s6,s8,s4]
    refine cZ (hz2 _ _ _) ?_ (by simp only[List.map_cons,List.map_nil,pgo,simprocAttr,aC,aQ,s6,s8,s4])
    exact bI 9 (T:=[(40,.ref 0 1),(41,vi t),(42,.ref 1 1),(43,vi t2),(44,vi T),(45,.ref 0 2),(46,vi lo),(47,.ref 1 2),(48,vi lo2),(49,vi LO)]) rfl hnd (by rw[e1,hB2]) (hNi S 9)
  ·intro S hall
   have s0:=hall 0 (by decide) (by decide)
   have s1:=hall 1 (by decide) (by decide)
   have s2:=hall 2 (by decide) (by decide)
   have s3:=hall 3 (by decide) (by decide)
   have s4:=hall 4 (by decide) (by decide)
   have s5:=hall 5 (by decide) (by decide)
   have s6:=hall 6 (by decide) (by decide)
   have s7:=hall 7 (by decide) (by decide)
   have s8:=hall 8 (by decide) (by decide)
   have s9:=hall 9 (by decide) (by decide)
   have e0:BX S=B2:=by rw[hBX];simp only[s9];rfl
   have n0:NI S=4:=by rw[hNI]
   simp only[List.drop_succ_cons,List.drop_zero,List.map_cons,List.map_nil]
   rw[e0,n0]
   have b23:B2 3=some (36,[vi z,vi 0,vi 0,nls,vb (true||f1||f2)]):=by rw[hB2];exact lF _ _ _
   have b20:B2 0=some (36,fqF ⟨z,t,lo,l,true⟩):=by rw[hB2,TY _ _ _ _ (by decide),hB1,TY _ _ _ _ (by decide),hB0];rfl
   have b21:B2 1=some (36,fqF ⟨z2,t2,lo2,l2,b2⟩):=by rw[hB2,TY _ _ _ _ (by decide),hB1,TY _ _ _ _ (by decide),hB0];rfl
   have b22:B2 2=some (36,[vi 0,vi 0,vi 0,nls,vb false]):=by rw[hB2,TY _ _ _ _ (by decide),hB1,TY _ _ _ _ (by decide),hB0];rfl
   have htf:dX (aJ 4) (fun _=>V.top)=fun _=>V.top:=rfl
   (repeat' (first|(simp (disch:=first|exact dqz|fail) only[pgz,simprocAttr,s0,s1,s2,s3,s4,s5,s6,s7,s8,s9,aC,aQ,pgE,pgj,iC,b23,b20,b21,b22,hJe,hgt,htf])|(refine tC ?_;refine dZ _ (hj _ _ _ _ _ _ _ _ (by simp only[upd,b23];rfl)) rfl ?_)|(refine tE ?_ ?_<;>intro hc)|refine xK ?_|fail))
   obtain⟨m,hm⟩:∃m,m=5+l.length+l2.length:=⟨_,rfl⟩
   have hm4:¬4=m:=by omega
   have hpz:∀(ty:TypeId) (k:Nat) (xs:List V),aJ m (.sl (.own 4 ty) k xs) = .sl (.own 4 ty) k xs:=fun ty k xs=>by simp [aJ,V.has,V.any,Tag.is,hm4]
   have htm:dX (aJ m) (fun _=>V.top)=fun _=>V.top:=funext fun _=>by show aJ m .top = .top;unfold aJ;split<;>rfl
   obtain⟨bF,hbF⟩:∃fB,fB=upd (upd (fun _=>none) 2 (some (36,[vi 0,vi 0,vi 0,nls,vb false]))) 3 (some (36,[vi z,vi T,vi LO,.sl (.own 4 119) 3 (ev J),vb (true||f1||f2||jF)])):=⟨_,rfl⟩
   have g3:bF 3=some (36,[vi z,vi T,vi LO,.sl (.own 4 119) 3 (ev J),vb (true||f1||f2||jF)]):=by rw[hbF];exact lF _ _ _
   have g2:bF 2=some (36,[vi 0,vi 0,vi 0,nls,vb false]):=by rw[hbF];rfl
   have gn:∀c,c≠3→c≠2→bF c=none:=fun c k3 k2=>by rw[hbF,TY _ _ _ _ k3,TY _ _ _ _ k2]
   refine sO (ι:=Nat) (fun i=>⟨iP [(4,.ref 2 0),(8,.ref 3 0),(9,.sl (.own m 3) 1 (iv ((J.take i).map fun y=>y.2.1))),(65,.sl (.own 4 119) 3 (ev J)),(66,vi J.length),(67,vi i)],bF,m+1+2*i,fun _ => .top⟩) (fun i=>i≤J.length) (fun i=>J.length-i) 0 ?_ (Nat.zero_le _) ?_
   ·refine kP ?_ (fun c x' hx => ?_) (by show 5+l.length+l2.length≤m+1+2*0;omega)
    ·simp only[mQ,pY,pgo,simprocAttr,and_true]
     exact⟨bJ _,bJ _,FZ _ _,bJ _,bJ _,bJ _⟩
    ·have hx:bF c=some x':=hx
     by_cases k3:c=3
     ·subst k3
      rw[g3] at hx;cases hx
      first|exact⟨_,rfl,rfl,fZ _⟩|(refine⟨_,rfl,rfl,bJ _,bJ _,bJ _,bJ _, ?_,trivial⟩;simp;exact bJ _)
     ·by_cases k2:c=2
      ·subst k2
       rw[g2] at hx;cases hx
       exact⟨(36,[vi 0,vi 0,vi 0,nls,vb false]),by rw[TY _ _ _ _ (by decide),TY _ _ _ _ (by decide),iG,TY _ _ _ _ (by decide),TY _ _ _ _ (by decide),b22];rfl,rfl,fZ _⟩
      ·rw[gn c k3 k2] at hx;cases hx
   ·rintro i hi
    have hi:i≤J.length:=hi
    have hil:(iv ((J.take i).map fun y=>y.2.1)).length=i:=by rw[aZ,List.length_map,List.length_take];omega
    rcases Nat.lt_or_ge i J.length with hlt|hge
    ·have hg:=eY J i hlt
     have hcs:iv ((J.take i).map fun y=>y.2.1)++[vi (J.getD i ([],0,0)).2.1]=iv ((J.take (i+1)).map fun y=>y.2.1):=by
      rw[←sJ J i hlt,List.map_append];simp [iv]
     have hlt2:((i:Int)<(J.length:Int))=True:=eq_true (by omega)
     generalize J.getD i ([],0,0)=en at *
     (repeat' (first|(simp (disch:=first|exact dqz|fail) only[pgz,simprocAttr,pgE,pgj,iC,hJe,hlt2,hg,hcs,hil,hpz,htm])|(refine tE ?_ ?_<;>intro hc)|refine xK ?_|fail))
     have h4b:(if (4 == m)=true then V.top else V.sl (Tag.own 4 119) 3 (ev J))=V.sl (Tag.own 4 119) 3 (ev J):=if_neg (by simpa using hm4)
     refine lY (i+1) hlt (by show J.length-(i+1)<J.length-i;omega) (kP (EnvIs.w ?_) (fun c x' hx => ?_) (by (try simp only);(first|omega|(split<;>omega))))
     ·((try simp only[bu,jm,cO,cu,pgo,simprocAttr,and_true,true_and]);try (repeat' (first|exact trivial|rfl|apply aI)))
      all_goals first|exact h4b|skip
     ·have hx:bF c=some x':=hx
      by_cases k3:c=3
      ·subst k3
       rw[g3] at hx;cases hx
       exact⟨_,by rw[iG,TY _ _ _ _ (by omega),TY _ _ _ _ (by omega),g3];simp only[Option.map_some,List.map_cons,List.map_nil,hpz];rfl,rfl,fZ _⟩
      ·by_cases k2:c=2
       ·subst k2
        rw[g2] at hx;cases hx
        exact⟨_,by rw[iG,TY _ _ _ _ (by omega),TY _ _ _ _ (by omega),g2];rfl,rfl,fZ _⟩
       ·rw[gn c k3 k2] at hx;cases hx
    ·have hie:i=J.length:=by omega
     subst hie
     rw[List.take_length]
     have hlt2:((J.length:Int)<(J.length:Int))=False:=eq_false (by omega)
     have hso:=fun s=>aeN (J.map fun y=>y.2.1) (by rw[List.length_map];omega) m 3 s
     have hmV:∀(e2:Nat→V) (b2:Bxx) (n2:Nat) (h2:Nat→V) (ψ:V→V),St.mapV ⟨e2,b2,n2,h2⟩ ψ=⟨dX ψ e2,mapB ψ b2,n2,dX ψ h2⟩:=fun _ _ _ _ _=>rfl
     have hSl:((J.map fun y=>y.2.1).mergeSort fun x y=>decide (x≤y)).length=J.length:=by rw[List.length_mergeSort,List.length_map]
     have hSi:=aZ ((J.map fun y=>y.2.1).mergeSort fun x y=>decide (x≤y))
     have hSg:=kF ((J.map fun y=>y.2.1).mergeSort fun x y=>decide (x≤y)) (J.length-1-z.toNat) (by omega)
     rw[hd] at hSg
     rw[hSl] at hSi
     generalize ((J.map fun y=>y.2.1).mergeSort fun x y=>decide (x≤y))=SS at *
     have hth:∀ty,tuO m 1 (iv SS) (.sl (.own m ty) 1 (iv (J.map fun y=>y.2.1))) = .sl (.own m ty) 1 (iv SS):=fun ty=>Ae m 1 _ ty _ (by rw[hSi,aZ,List.length_map])
     have htn:∀(ty:TypeId) (k:Nat) (xs:List V),tuO m 1 (iv SS) (.sl (.own 4 ty) k xs) = .sl (.own 4 ty) k xs:=fun ty k xs=>afa m 1 _ 4 ty k xs hm4
     have hix:((J.length:Int)-1-z).toNat=J.length-1-z.toNat:=by omega
     (repeat' (first|(simp (disch:=first|exact dqz|fail) only[pgz,simprocAttr,pgE,pgj,iC,hJe,hlt2,hmV,hth,htn,ac7,Ph,hSi,hix,hSg,g3,g2,id_eq])|(refine tC ?_;first|refine dZ _ (hso _) rfl ?_|refine cG [4] hlo ?_|refine dZ _ (hz3' _ _ _ _ _ _ _ (by first|rfl|simp [upd])) rfl ?_)|(refine tE ?_ ?_<;>intro hc)|refine xK ?_|fail))
     refine bZ [m+1+2*J.length] (.tup [.agg [vi z,vi T,vi (aO LO d).1,.sl (.own (m+1+2*J.length) 119) 3 (ev (iU d J)),vb (true||f1||f2||jF||(aO LO d).2)],vi 0]) (by simp (disch:=first|assumption|omega) only[pgr,pgo,tyf,simprocAttr,g2];first|rfl|skip) (by simp) (by simp only[pgo,simprocAttr];first|rfl|simp) ?_
     simp [V.map,V.mapL,nz,pgo]
end Go.Proofs.YtiohdbjggmmjcaaGreat
