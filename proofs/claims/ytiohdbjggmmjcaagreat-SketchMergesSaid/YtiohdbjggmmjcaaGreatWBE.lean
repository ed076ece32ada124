/-
  Texts of this claim, merged; own names are short.
-/
import Derived.Test.YtiohdbjggmmjcaaGreatWBD
import Derived.Test.YtiohdbjggmmjcaaGreatWAW
import Derived.Test.YtiohdbjggmmjcaaGreatWAY
import Derived.Test.YtiohdbjggmmjcaaGreatWBC
set_option linter.unusedVariables false
set_option linter.unusedSimpArgs false
set_option linter.unusedSectionVars false
set_option linter.defProp false
set_option maxRecDepth 100000
set_option maxHeartbeats 8000000
namespace Go.Proofs.YtiohdbjggmmjcaaGreat
open Go Go.Pg
theorem tu(n:Int):bits .and .i64 n 15=n%16:=iK n 4 (by decide)
theorem CP(n:Int):bits .and .i64 n 7=n%8:=iK n 3 (by decide)
theorem zF(n:Int):bits .and .i64 n 63=n%64:=iK n 6 (by decide)
def shK(n:Int)(j:Nat):Int:=n.fdiv (2^min j IntKind.i64.bits)
def spS(s:Sk)(n:Int):Sk :=
 if n%16=0 then { s with p:={ s.p with k:=shK n 4%8-1 } }
 else if n%16=1 then { s with p:={ s.p with z:=shK n 4%64 } }
 else if n%16=2 then { s with p:={ s.p with d:=shK n 4%16 } }
 else if n%16=3 then { s with p:={ s.p with s:=IntKind.u64.wrap (s.p.s+1) } }
 else if n%16=4 then { s with tl:={ s.tl with i:=IntKind.i64.wrap (s.tl.i+1) } }
 else if n%16=5 then { s with tp:={ s.tp with z:=IntKind.i64.wrap (s.tp.z+1) } }
 else if n%16=6 then { s with rk:={ s.rk with t:=IntKind.i64.wrap (s.rk.t+1) } }
 else if n%16=7 then { s with cm:={ s.cm with b:=true } }
 else if n%16=8 then { s with ll:={ s.ll with r:=s.ll.r++[0] } }
 else if n%16=9 then { s with fq:={ s.fq with l:=IntKind.i64.wrap (s.fq.l+1) } }
 else s
theorem afl{s:Sk}(h:s.Ok)(hl:s.ll.r.length≤999999)(n:Int):(spS s n).Ok:=by
 unfold spS
 (repeat' split)<;>first
  | exact h
  | exact⟨h.ps,h.cs,h.ls,h.cn,h.ln,h.to,h.tn,h.fo,h.fn,h.ro,h.rn,h.rm⟩
  | exact⟨OM _,h.cs,h.ls,h.cn,h.ln,h.to,h.tn,h.fo,h.fn,h.ro,h.rn,h.rm⟩
  | exact⟨h.ps,h.cs,h.ls,h.cn,by simp only[List.length_append,List.length_cons,List.length_nil];omega,h.to,h.tn,h.fo,h.fn,h.ro,h.rn,h.rm⟩
theorem acE(s:Sk)(n:Int)(hl:s.ll.r.length≤999999):Pg.Good Tryz.prog 6 [.agg (skF s),vi n] (.agg (skF (spS s n))):=by
 obtain⟨⟨pk,pz,pd,ps⟩,⟨t1,t2,t3⟩,⟨c1,c2,c3,c4,c5⟩,⟨l1,l2,l3⟩,⟨e1,e2,e3,e4⟩,⟨f1,f2,f3,f4,f5⟩,⟨r1,r2,r3,r4,r5⟩⟩:=s
 simp only at hl
 unfold spS shK
 by_cases h0:n%16=0
 ·rw[if_pos h0]
  refine gI oW Tryz.func6 Tryz.results6 ?_
  exact wR (aI @tu (aI @CP (aI @zF @h0))) trivial ay
 rw[if_neg h0]
 by_cases h1:n%16=1
 ·rw[if_pos h1]
  refine gI oW Tryz.func6 Tryz.results6 ?_
  exact wR (aI @tu (aI @CP (aI @zF @h1))) trivial ay
 rw[if_neg h1]
 by_cases h2:n%16=2
 ·rw[if_pos h2]
  refine gI oW Tryz.func6 Tryz.results6 ?_
  exact wR (aI @tu (aI @CP (aI @zF @h2))) trivial ay
 rw[if_neg h2]
 by_cases h3:n%16=3
 ·rw[if_pos h3]
  refine gI oW Tryz.func6 Tryz.results6 ?_
  exact wR (aI @tu (aI @CP (aI @zF @h3))) trivial ay
 rw[if_neg h3]
 by_cases h4:n%16=4
 ·rw[if_pos h4]
  refine gI oW Tryz.func6 Tryz.results6 ?_
  exact wR (aI @tu (aI @CP (aI @zF @h4))) trivial ay
 rw[if_neg h4]
 by_cases h5:n%16=5
 ·rw[if_pos h5]
  refine gI oW Tryz.func6 Tryz.results6 ?_
  exact wR (aI @tu (aI @CP (aI @zF @h5))) trivial ay
 rw[if_neg h5]
 by_cases h6:n%16=6
 ·rw[if_pos h6]
  refine gI oW Tryz.func6 Tryz.results6 ?_
  exact wR (aI @tu (aI @CP (aI @zF @h6))) trivial ay
 rw[if_neg h6]
 by_cases h7:n%16=7
 ·rw[if_pos h7]
  refine gI oW Tryz.func6 Tryz.results6 ?_
  exact wR (aI @tu (aI @CP (aI @zF @h7))) trivial ay
 rw[if_neg h7]
 by_cases h8:n%16=8
 ·rw[if_pos h8]
  have hil:=aZ l3
  refine Good.fzr (r := .agg (skC ⟨⟨pk,pz,pd,ps⟩,⟨t1,t2,t3⟩,⟨c1,c2,c3,c4,c5⟩,⟨l1,l2,l3⟩,⟨e1,e2,e3,e4⟩,⟨f1,f2,f3,f4,f5⟩,⟨r1,r2,r3,r4,r5⟩⟩ (fzi c4) (.sl (.own 0 3) 1 (iv (l3++[0]))) (fzv e3) (fzv f4) (fzl r4))) ?_ rfl (aH _)
  refine gI oW Tryz.func6 Tryz.results6 ?_
  exact wR (aI @tu (aI @CP (aI @zF (aI @h8 (aI @aZ @Fp))))) trivial (ids [2])
 rw[if_neg h8]
 by_cases h9:n%16=9
 ·rw[if_pos h9]
  refine gI oW Tryz.func6 Tryz.results6 ?_
  exact wR (aI @tu (aI @CP (aI @zF @h9))) trivial ay
 rw[if_neg h9]
 refine gI oW Tryz.func6 Tryz.results6 ?_
 exact wR (aI @tu (aI @CP @zF)) trivial ay
def Gz(v:List (List (List Nat))):Nat→Int
 | 0=>1
 | n+1=>Gz v n+(v.getD n []).length
def ac9(s:Sk):Int:=if s.p.k=1 then 1 else if s.p.k=2 then s.cm.c.length else if s.p.k=3 then s.ll.r.length else if s.p.k=4 then 1+s.tp.e.length else if s.p.k=5 then 1+s.fq.e.length else if s.p.k=6 then Gz s.rk.v s.rk.v.length else 0
theorem acF(v:List (List (List Nat)))(hm:∀l∈v,l.length≤1000000):∀n,n≤v.length→1≤Gz v n∧Gz v n≤1+n*1000000:=by
 intro n
 induction n with
 | zero=>intro _;exact⟨Int.le_refl _,by simp [Gz]⟩
 | succ n ih =>
  intro hn
  have h1:=ih (by omega)
  have h2:(v.getD n []).length≤1000000:=by
   have:v.getD n []=v[n]:=by simp [List.getD,show n<v.length by omega]
   rw[this];exact hm _ (List.getElem_mem _)
  simp only[Gz]
  omega
theorem acG(s:Sk)(ok:s.Ok):Pg.Good Tryz.prog 46 [.agg (skF s)] (vi (ac9 s)):=by
 have b1:=ok.cn
 have b2:=ok.ln
 have b3:=ok.tn
 have b4:=ok.fn
 have b5:=ok.rn
 have b6:=acF s.rk.v ok.rm
 clear ok
 unfold ac9
 obtain⟨⟨pk,pz,pd,ps⟩,⟨t1,t2,t3⟩,⟨c1,c2,c3,c4,c5⟩,⟨l1,l2,l3⟩,⟨e1,e2,e3,e4⟩,⟨f1,f2,f3,f4,f5⟩,⟨r1,r2,r3,r4,r5⟩⟩:=s
 simp only at *
 by_cases h1:pk=1
 ·rw[if_pos h1]
  refine gI oW Tryz.func46 Tryz.results46 ?_
  exact wR (aI @h1 (aI @aG (aI @aZ @fD))) trivial ay
 rw[if_neg h1]
 by_cases h2:pk=2
 ·rw[if_pos h2]
  refine gI oW Tryz.func46 Tryz.results46 ?_
  exact wR (aI @h2 (aI @aG (aI @aZ @fD))) trivial ay
 rw[if_neg h2]
 by_cases h3:pk=3
 ·rw[if_pos h3]
  refine gI oW Tryz.func46 Tryz.results46 ?_
  exact wR (aI @h3 (aI @aG (aI @aZ @fD))) trivial ay
 rw[if_neg h3]
 by_cases h4:pk=4
 ·rw[if_pos h4]
  refine gI oW Tryz.func46 Tryz.results46 ?_
  exact wR (aI @h4 (aI @aG (aI @aZ @fD))) trivial ay
 rw[if_neg h4]
 by_cases h5:pk=5
 ·rw[if_pos h5]
  refine gI oW Tryz.func46 Tryz.results46 ?_
  exact wR (aI @h5 (aI @aG (aI @aZ @fD))) trivial ay
 rw[if_neg h5]
 by_cases h6:pk=6
 ·rw[if_pos h6]
  have hel:=fD r4
  refine gI oW Tryz.func46 Tryz.results46 ?_
  refine wS (aI @h6 (aI @aG (aI @aZ @fD))) trivial ?_
  refine df (fun i:Nat=>mkA [(3,vi (Gz r4 i)),(41,fzl r4),(42,vi r4.length),(43,vi i)] [] 0 (fun _ => .top)) (fun i=>i≤r4.length) (fun i=>r4.length-i) 0 [] [] ?_ (Nat.zero_le _) ?_
  ·exact kE
   all_goals first|exact dE rfl|skip
  ·intro i hi
   replace hi:i≤r4.length:=hi
   rcases Nat.lt_or_ge i r4.length with hlt|hge
   ·have hg:=nG r4 i hlt
    have eun:Gz r4 (i+1)=Gz r4 i+(r4.getD i []).length:=rfl
    have hb:=b6 i hi
    have hb2:=b6 (i+1) hlt
    rw[eun] at hb2
    generalize hlev:r4.getD i []=lev at *
    have hsl:=eG lev
    refine wS (aI @hel (aI @hg @hsl)) trivial ?_
    (refine dh (i+1) [] [] (hlt) (by first|omega|(simp only[List.length_cons];omega)) ?_;(refine dN ?_ ?_ (gu _ _ _) (by decide) (by decide) (by decide) (by decide);(repeat' (first|exact trivial|refine dI _ _ rfl rfl ?_ ?_));all_goals (try simp only[pgs,pgl,pgx,pgf,pgw,di,dL,dm,dM,fA,iO,fO,pgn,simprocAttr]);all_goals (try (repeat' (first|apply aI)));all_goals (try (first|exact trivial|exact dE (by omega)|exact eH rfl|exact bP rfl rfl|exact jq rfl))))
    all_goals first|exact dE (by rw[eun,hlev])|exact dE eun.symm|skip
   ·have:i=r4.length:=by omega
    subst this
    exact wR @hel trivial ay
 rw[if_neg h6]
 refine gI oW Tryz.func46 Tryz.results46 ?_
 exact wR trivial trivial ay
theorem nP(a b:Sk):Pg.Good Tryz.prog 47 [.agg (skF a),.agg (skF b)] (vb (decide (samP a.p b.p))):=by
 refine gI oW Tryz.func47 Tryz.results47 ?_
 exact wR @ac2 trivial ay
theorem TQ(l:Ll)(k:List Nat)(w:Int):(lN l k w).1.r.length≤l.r.length:=by
 unfold lN
 split
 ·exact Nat.zero_le _
 ·split
  ·exact Nat.zero_le _
  ·simp
theorem Y8(s:Sk)(k:List Nat)(w:Int)(co:List Nat)(at':Int):(bg s k w co at').1.ll.r.length≤s.ll.r.length:=by
 unfold bg
 (repeat' split)<;>first|exact Nat.zero_le _|exact Nat.le_refl _|exact TQ _ _ _
theorem Y9(p:Pm)(h:vp p.k p.z p.d p.s=0):(kT p).ll.r.length≤256:=by
 unfold kT
 (repeat' split)<;>first|exact Nat.zero_le _|skip
 rename_i h3
 have h4:=qo (afj (by rw[h3] at h;exact h))
 simpa [zer] using h4.2.1
theorem Za(p:Pm)(h:vp p.k p.z p.d p.s=0)(its:List (List Nat × Int))(co:List Nat)(i:Nat):(mg p its co i).1.ll.r.length≤256:=by
 induction i with
 | zero=>exact Y9 p h
 | succ i ih=>exact Nat.le_trans (Y8 _ _ _ _ _) ih
theorem NQ(l:List Int):(oL l).ll.r.length≤256:=Za _ (Gy _) _ _ _
abbrev S1:Sk:=⟨⟨1,0,0,0⟩,Tl.o,Cm.o,Ll.o,Tp.o,Fq.o,Rk.o⟩
abbrev S2:Sk:=⟨⟨1,0,0,0⟩,⟨3,1,false⟩,Cm.o,Ll.o,Tp.o,Fq.o,Rk.o⟩
theorem Zb:octE []:=fun _ h=>by cases h
theorem ada(p:Pm)(t:Tl)(h:0≤p.s∧p.s<18446744073709551616):Sk.Ok ⟨p,t,Cm.o,Ll.o,Tp.o,Fq.o,Rk.o⟩ :=
 ⟨h,(⟨by decide,by decide⟩:(0:Int)≤0∧(0:Int)<18446744073709551616),(⟨by decide,by decide⟩:(0:Int)≤0∧(0:Int)<18446744073709551616),Nat.zero_le _,Nat.zero_le _,Zb,Nat.zero_le _,Zb,Nat.zero_le _,(fun _ h=>by cases h),Nat.zero_le _,(fun _ h=>by cases h)⟩
theorem afm:Pg.Good Tryz.prog 45 [.agg [vi 1,vi 0,vi 0,vu 0]] (.tup [.agg (skF S1),vi 0]):=by
 have h1:Pg.Good Tryz.prog 60 [.agg [vi 1,vi 0,vi 0,vu 0]] (vi 0):=lC 1 0 0 0
 refine Good.wkt (vs:=[.agg (skC S1 nls nls nls nls nls),vi 0]) ?_ ⟨iy S1 (aX _) (aX _) (aX _) (aX _) (aX _),aH _,trivial⟩
 refine gI oW Tryz.func45 Tryz.results45 ?_
 exact wR trivial (aI h1 abR) ay
theorem afn:Pg.Good Tryz.prog 45 [.agg [vi 1,vi 1,vi 0,vu 0]] (.tup [.agg (skF Sk.o),vi 10]):=by
 have h1:Pg.Good Tryz.prog 60 [.agg [vi 1,vi 1,vi 0,vu 0]] (vi 10):=lC 1 1 0 0
 refine Good.wkt (vs:=[.agg (skC Sk.o nls nls nls nls nls),vi 10]) ?_ ⟨uX,aH _,trivial⟩
 refine gI oW Tryz.func45 Tryz.results45 ?_
 exact wR trivial h1 ay
theorem NR:Pg.Good Tryz.prog 10 [.agg (skF S1),.agg [vs [97],vi 3],nls,vi 5] (.tup [.agg (skF S2),vi 5,vi 0]):=by
 have h1:Pg.Good Tryz.prog 20 [.agg (skF S1)] (vi 0):=jo S1 (ada _ _ ⟨by decide,by decide⟩)
 have h2:Pg.Good Tryz.prog 23 [.agg [vs [97],vi 3]] (vi 0):=bz [97] 3
 have h3:Pg.Good Tryz.prog 24 [vi 5] (vb true):=abS 5
 have h4:Pg.Good Tryz.prog 25 [.agg (tlF Tl.o),.agg [vs [97],vi 3]] (.tup [.agg [vi 3,vi 1,vb false],vi 0]):=O1 Tl.o [97] 3
 refine Good.wkt (vs:=[.agg (skC S2 nls nls nls nls nls),vi 5,vi 0]) ?_ ⟨iy S2 (aX _) (aX _) (aX _) (aX _) (aX _),aH _,aH _,trivial⟩
 refine gI oW Tryz.func10 Tryz.results10 ?_
 exact wR trivial (aI h1 (aI h2 (aI h3 h4))) ay
theorem Aj:Pg.Good Tryz.prog 13 [] (vb true):=by
 have h4:Pg.Good Tryz.prog 46 [.agg (skF S2)] (vi 1):=acG S2 (ada _ _ ⟨by decide,by decide⟩)
 have ha:(⟨#[97]⟩:ByteArray)=sB [97]:=by rfl
 refine gI oW Tryz.func13 Tryz.results13 ?_
 exact wR @ha (aI afm (aI afn (aI NR h4))) ay
end Go.Proofs.YtiohdbjggmmjcaaGreat
section
namespace Go.Proofs.YtiohdbjggmmjcaaGreat
open Go Go.Pg
theorem TR(n:Int):Pg.Good Tryz.prog 87 [vi n] (vb (decide (0≤n∧n≤1073741824))):=by
 by_cases h1:0≤n
 ·by_cases h2:n≤1073741824
  ·rw[decide_eq_true ⟨h1,h2⟩]
   refine aK (dw mix) Tryz.func87 rfl Tryz.results87 rfl (by kernel_rfl) (Nat.le_of_ble_eq_true (by kernel_rfl)) ?_
   (repeat' (first|(simp (disch:=first|exact dqz|fail) only[pgz,simprocAttr])|(refine tS ?_ ?_<;>intro hc)|(with_reducible refine cK ?_)))
   (refine rT [] ?_;first|rfl|simp only[pgo,simprocAttr]|skip)
  ·rw[decide_eq_false (fun h=>h2 h.2)]
   refine aK (dw mix) Tryz.func87 rfl Tryz.results87 rfl (by kernel_rfl) (Nat.le_of_ble_eq_true (by kernel_rfl)) ?_
   (repeat' (first|(simp (disch:=first|exact dqz|fail) only[pgz,simprocAttr])|(refine tS ?_ ?_<;>intro hc)|(with_reducible refine cK ?_)))
   (refine rT [] ?_;first|rfl|simp only[pgo,simprocAttr]|skip)
 ·rw[decide_eq_false (fun h=>h1 h.1)]
  refine aK (dw mix) Tryz.func87 rfl Tryz.results87 rfl (by kernel_rfl) (Nat.le_of_ble_eq_true (by kernel_rfl)) ?_
  (repeat' (first|(simp (disch:=first|exact dqz|fail) only[pgz,simprocAttr])|(refine tS ?_ ?_<;>intro hc)|(with_reducible refine cK ?_)))
  (refine rT [] ?_;first|rfl|simp only[pgo,simprocAttr]|skip)
def B0(z t lo:Int)(v:List (List (List Nat)))(b:Bool)(k:List Nat)(w:Int):Nat→Option (TypeId × List V) :=
 upd (upd (upd (fun _=>none) 0 (some (tRk,[vi z,vi t,vi lo,fzl v,vb b]))) 1 (some (45,[vs k,vi w]))) 2 (some (tRk,[y0,y0,y0,yn,yf]))
theorem Zc(n:Nat):FrB n (fun _=>none):=fun k x h=>by cases h
theorem uU(n:Nat):FrE n (fun _ => .top):=fun _=>rfl
theorem CQ{t w:Int}(ht:0≤t∧t≤1099511627776)(hw:0≤w):aO t w=if t+w > 1099511627776 then (1099511627776,true) else (t+w,false):=by
 unfold aO lw
 rw[oh ht.1,oh hw,oh (by decide)]
 by_cases h:t+w > 1099511627776
 ·rw[if_pos (.inr (by omega)),if_pos h]
 ·rw[if_neg (by omega),if_neg h]
theorem acH{t w:Int}(ht:0≤t∧t≤1099511627776)(hw:0≤w)(h:(aO t w).2=true):t+w > 1099511627776:=by
 rw[CQ ht hw] at h
 split at h
 ·assumption
 ·cases h
theorem Pz{t w:Int}(ht:0≤t∧t≤1099511627776)(hw:0≤w)(h:¬(aO t w).2=true):¬t+w > 1099511627776:=by
 rw[CQ ht hw] at h
 split at h
 ·exact absurd rfl h
 ·assumption
theorem RkAt.upd2{lo n:Nat}{bx:Nat→Option (TypeId × List V)}{b Lb:Nat}{z t l z' t' l':Int}{sat sat':Bool}{v:List (List (List Nat))}{cs:List V}(h:RkAt lo n bx b Lb z t l sat v cs):RkAt lo n (upd bx b (some (tRk,[vi z',vi t',vi l',.bs Lb tLs 0 1 v.length,.c (.bool sat')]))) b Lb z' t' l' sat' v cs:=by
 have:=h.n1;have:=h.n2
 have hL:upd bx b (some (tRk,[vi z',vi t',vi l',.bs Lb tLs 0 1 v.length,.c (.bool sat')])) Lb=bx Lb:=by rw[upd,if_neg (by omega)]
 refine⟨if_pos rfl,by rw[hL];exact h.hL,h.lv,h.n1,h.n2,h.n3,fun c x h1 h2 hx=>h.old c x h1 h2 ?_⟩
 rw[upd,if_neg h1] at hx
 exact hx
theorem RkAt.mono{lo n m:Nat}{bx:Nat→Option (TypeId × List V)}{b Lb:Nat}{z t l:Int}{sat:Bool}{v:List (List (List Nat))}{cs:List V}(h:RkAt lo n bx b Lb z t l sat v cs)(hm:n≤m):RkAt lo m bx b Lb z t l sat v cs :=
 ⟨h.hb,h.hL,h.lv.mono hm,h.n1,h.n2,by have:=h.n3;omega,h.old⟩
theorem RkAt.mapB{lo n:Nat}{bx:Nat→Option (TypeId × List V)}{b Lb:Nat}{z t l:Int}{sat:Bool}{v:List (List (List Nat))}{cs:List V}(h:RkAt lo n bx b Lb z t l sat v cs){id:Nat}(hi:n≤id){ψ:V→V}(hψ:∀v,v.has id=false→ψ v=v):mapB ψ bx=bx:=by
 have h1:=h.n1;have h2:=h.n2;have h3:=h.n3
 refine O9 fun c x hx w hw => ?_
 by_cases hcb:c=b
 ·subst hcb
  rw[h.hb] at hx
  simp only[Option.some.injEq] at hx
  subst hx
  simp only[List.mem_cons,List.not_mem_nil,or_false] at hw
  rcases hw with rfl|rfl|rfl|rfl|rfl<;>exact hψ _ rfl
 ·by_cases hcL:c=Lb
  ·subst hcL
   rcases h.hL with ⟨_,_,k3⟩|hL
   ·rw[k3] at hx;cases hx
   ·rw[hL] at hx
    simp only[Option.some.injEq] at hx
    subst hx
    have:=h.lv.mapN (ψ:=ψ) (fun c l hc hid=>hψ c (wO hc (fun hm=>by have:=(hid _ hm).2;omega)))
    obtain⟨j,hj,rfl⟩:=List.mem_iff_getElem.1 hw
    have h9:=congrArg (fun l=>l[j]?) this
    simp only[List.getElem?_map,List.getElem?_eq_getElem hj,Option.map_some,Option.some.injEq] at h9
    exact h9
  ·exact hψ _ (YI ((h.old c x hcb hcL hx).2 w hw) (by omega))
section
attribute [local instance 2000] nestI
end
end Go.Proofs.YtiohdbjggmmjcaaGreat
end
