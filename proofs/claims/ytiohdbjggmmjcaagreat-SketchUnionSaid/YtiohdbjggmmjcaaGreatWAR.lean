/-
  Merged texts.
-/
import Derived.Test.YtiohdbjggmmjcaaGreatWAQ
import Derived.Test.YtiohdbjggmmjcaaGreatWAP
import Derived.Test.YtiohdbjggmmjcaaGreatWAN
set_option linter.unusedVariables false
set_option linter.unusedSimpArgs false
set_option linter.unusedSectionVars false
set_option linter.defProp false
set_option maxRecDepth 100000
set_option maxHeartbeats 8000000
namespace Go.Proofs.YtiohdbjggmmjcaaGreat
open Go Go.Pg
theorem OH(ψ:V→V)(f:Nat→V):unE (dX ψ f)=dX ψ (unE f):=rfl
theorem OI(ψ:V→V)(f:Nat→V):unH (dX ψ f)=dX ψ (unH f):=rfl
theorem oq(args:List V)(e:Nat→V)(b:Bxx)(n:Nat)(h:Nat→V):P5 args ⟨e,b,n,h⟩=⟨qJ args 0,b,n,gm e h⟩:=rfl
theorem jK(P:Program)(rs:List ResultVar)(s':St)(r:V)(s:St):ZP P rs s' r .ret s=Il P rs s' r s:=rfl
theorem gU(P:Program)(rs:List ResultVar)(s':St)(r:V)(s:St):ZP P rs s' r .normal s=Il P rs s' r s:=rfl
theorem Fz{P:Program}{rs:List ResultVar}{s':St}{r:V}{e:Nat→V}{b:Bxx}{n:Nat}{h:Nat→V}(h1:nO P ⟨e,b,n,h⟩ rs=some r)(h2:(⟨unE h,b,n,unH h⟩:St)=s'):Il P rs s' r ⟨e,b,n,h⟩:=⟨h1,by subst h2;exact⟨rfl,rfl,rfl,Nat.le_refl _⟩⟩
theorem Xo{P:Program}{rs:List ResultVar}{e':Nat→V}{b':Bxx}{n':Nat}{h':Nat→V}{r:V}{e:Nat→V}{b:Bxx}{n:Nat}{h:Nat→V}(h1:nO P ⟨e,b,n,h⟩ rs=some r)(h2:unE h=e')(h3:unH h=h')(h4:b=b')(h5:n≤n'):Il P rs ⟨e',b',n',h'⟩ r ⟨e,b,n,h⟩:=⟨h1,h2,h3,h4,h5⟩
theorem iK(n:Int)(j:Nat)(hj:j≤62):bits .and .i64 n (2^j-1)=n%2^j:=by
 have hb:IntKind.i64.bits=64:=rfl
 have e1:(BitVec.ofInt 64 (2^j-1)).toNat=2^j-1:=by
  have hle:(2:Nat)^j≤2^62:=Nat.pow_le_pow_right (by omega) hj
  have h1:((2:Int)^j-1)=((2^j-1:Nat):Int):=by
   have:0<(2:Nat)^j:=Nat.two_pow_pos j
   rw[Int.natCast_sub (by omega)]
   simp
  rw[h1,BitVec.toNat_ofInt]
  rw[show ((2^64:Nat):Int)=18446744073709551616 from rfl]
  omega
 have e2:(((BitVec.ofInt 64 n).toNat%2^j:Nat):Int)=n%2^j:=by
  rw[BitVec.toNat_ofInt,Int.natCast_emod,Int.toNat_of_nonneg (Int.emod_nonneg _ (by decide))]
  have:((2^64:Nat):Int)=2^j*2^(64-j):=by
   rw[←Int.pow_add,show j+(64-j)=64 by omega]
   rfl
  rw[show (((2^j:Nat)):Int)=2^j by simp,this]
  exact Int.emod_emod_of_dvd n ⟨_,rfl⟩
 show IntKind.i64.wrap (((BitVec.ofInt 64 n &&& BitVec.ofInt 64 (2^j-1)).toNat:Nat):Int)=_
 rw[BitVec.toNat_and,e1,Nat.and_two_pow_sub_one_eq_mod,e2]
 have h0:0≤n%2^j:=Int.emod_nonneg _ (by have:(0:Int)<2^j:=Int.pow_pos (by decide);omega)
 have h1:n%2^j<2^j:=Int.emod_lt_of_pos _ (Int.pow_pos (by decide))
 have h2:(2:Int)^j≤2^62:=by
  have:=Nat.pow_le_pow_right (n:=2) (by omega) hj
  exact_mod_cast this
 have h3:(2:Int)^62=4611686018427387904:=rfl
 exact WE _ (by omega) (by omega)
theorem aeH(n:Int):bits .and .i64 n 255=n%256:=iK n 8 (by decide)
theorem ahF(n:Int):bits .and .i64 n 15=n%16:=iK n 4 (by decide)
theorem getD_some{α:Type}(l:List α)(i:Nat)(d:α)(h:i<l.length):l[i]?=some (l.getD i d):=by simp [List.getD,h]
def fb(l:List Nat):List Nat:=if l.length=0 then [45] else ahC l
theorem abE(l:List Nat)(h:(l.all fun b=>decide (b<256))=true):oct l:=fun b hb=>by simpa using List.all_eq_true.1 h b hb
def hdW(l:List (List Nat)):List Nat:=l.headD []
def ahG(l:List (List Nat)):Bool:=l.isEmpty || !decide ((aeG (hdW l)).2=0)
def ahH(l:List (List Nat)):Bool:=l.isEmpty || !decide ((pk (hdW l)).2=0)
def its(acc:List (List Nat × Int))(l:List (List Nat))(bad:Bool):List (List Nat × Int) × List (List Nat) × Bool :=
 match bad,l with
 | true,l=>(acc,l,true)
 | false,[]=>(acc,[],false)
 | false,[k]=>(acc++[((pk k).1,(aeG []).1)],[],true)
 | false,k::w::r=>its (acc++[((pk k).1,(aeG w).1)]) r (ahH (k::w::r)||ahG (w::r))
termination_by l.length
theorem sh5(n:Int):Int.fdiv n (2^min 5 IntKind.i64.bits)=n.fdiv 32:=rfl
theorem sh7(n:Int):Int.fdiv n (2^min 7 IntKind.i64.bits)=n.fdiv 128:=rfl
def rQ:List (List Nat):=[[97],[98],[99],[100],[101],[102],[97,97],[98,32,99],[37,54,49],[65,58,49],[0],[122,47,255]]
def u8i(n:Int):Nat:=(n%256).toNat
theorem agk(n:Int):IntKind.u8.wrap n=((u8i n:Nat):Int):=by rw[IntKind.wrap_u8];unfold u8i;omega
def Ry(n:Int):List Nat:=if n.fdiv 256%16=15 then [u8i n,u8i (n.fdiv 2),u8i (n.fdiv 8)] else rQ.getD ((n%256).toNat%12) []
theorem OJ(n:Int):oct (Ry n)∧(Ry n).length≤12:=by
 unfold Ry
 split
 ·refine⟨?_,by simp⟩
  intro b hb
  simp at hb
  rcases hb with rfl|rfl|rfl<;>(unfold u8i;omega)
 ·generalize hk:(n%256).toNat%12=k
  have hlt:k<12:=by omega
  have:∀k,k<12→((rQ.getD k []).all fun b=>decide (b<256))=true∧(rQ.getD k []).length≤12:=by decide
  exact⟨abE _ (this k hlt).1,(this k hlt).2⟩
theorem sh8(n:Int):Int.fdiv n (2^min 8 IntKind.i64.bits)=n.fdiv 256:=rfl
theorem sh1(n:Int):Int.fdiv n (2^min 1 IntKind.i64.bits)=n.fdiv 2:=rfl
theorem sh3(n:Int):Int.fdiv n (2^min 3 IntKind.i64.bits)=n.fdiv 8:=rfl
theorem bs3(a b c:Nat):[V.c (.int .u8 (a:Int)),V.c (.int .u8 (b:Int)),V.c (.int .u8 (c:Int))]=bv [a,b,c]:=rfl
theorem ahI(e:Nat→V)(b:Bxx)(n:Nat)(h:Nat→V):eP Tryz.prog ⟨e,b,n,h⟩ 98 12 [(0,.c (.string ⟨#[97]⟩)),(1,.c (.string ⟨#[98]⟩)),(2,.c (.string ⟨#[99]⟩)),(3,.c (.string ⟨#[100]⟩)),(4,.c (.string ⟨#[101]⟩)),(5,.c (.string ⟨#[102]⟩)),(6,.c (.string ⟨#[97,97]⟩)),(7,.c (.string ⟨#[98,32,99]⟩)),(8,.c (.string ⟨#[37,54,49]⟩)),(9,.c (.string ⟨#[65,58,49]⟩)),(10,.c (.string ⟨#[0]⟩)),(11,.c (.string ⟨#[122,47,255]⟩))]=some (.sl (.own n 9) 1 (sv rQ),⟨e,b,n+1,h⟩):=by
 rw[ae,aet,Option.bind_some,aga,Option.bind_some,af9,Option.bind_some]
 rfl
theorem ahJ(e:Nat→V)(bx:Bxx)(n:Nat)(h:Nat→V)(a b c:Nat):eP Tryz.prog ⟨e,bx,n,h⟩ 48 3 [(0,.c (.int .u8 (a:Int))),(1,.c (.int .u8 (b:Int))),(2,.c (.int .u8 (c:Int)))]=some (.sl (.own n 5) 1 (bv [a,b,c]),⟨e,bx,n+1,h⟩):=by
 rw[ae,Md,Option.bind_some,ac0,Option.bind_some,acZ,Option.bind_some]
 rfl
theorem k12:rQ.length=12:=rfl
theorem ahK(n:Int):Int.tmod (n%256) 12=(((n%256).toNat%12:Nat):Int):=by
 rw[Int.tmod_eq_emod_of_nonneg (by omega)]
 omega
theorem ahL(k:Nat)(h:k<12):(sv rQ)[k]?=some (.c (.string (sB (rQ.getD k [])))):=lV rQ k h
theorem m12(n:Nat):n%12<12:=Nat.mod_lt _ (by omega)
theorem abG(l:List Nat):V.idsL (bv l)=[]:=by
 induction l with
 | nil=>rfl
 | cons a l ih=>simpa [bv,V.idsL,V.ids] using ih
theorem agl(n:Int):Gxx 22 [vi n] (vs (Ry n)):=by
 refine gI oW Tryz.func22 Tryz.results22 ?_
 unfold Ry
 have hm:=m12 (n%256).toNat
 have hk:=k12
 (repeat' first|refine wP' (aI @abG (aI @ahJ (aI @ahI (aI @k12 (aI @ahK (aI @ahL (aI @sh8 (aI @sh1 (aI @sh3 (aI @ahF (aI @aeH (aI @agk (aI @bs3 (aI @Xj @Int.cast_ofNat_Int)))))))))))))) trivial ?_|refine tS ?_ ?_<;>intro hc|fail)
 all_goals (refine rT [] ?_;first|rfl|simp only[pgo,simprocAttr]|skip)
 all_goals simp [*]
theorem ahM(n:Int):bits .and .i64 n 3=n%4:=iK n 2 (by decide)
theorem abH(n:Int):bits .and .i64 n 65535=n%65536:=iK n 16 (by decide)
def rU(n:Int):List Nat:=[u8i n,u8i (n.fdiv 8),u8i (n.fdiv 32),u8i (n.fdiv 128)]
def lD(n:Int):List Nat:=(rU n).take ((n%4).toNat+1)
theorem D7(n:Int):oct (lD n)∧(lD n).length≤4∧lD n≠[]:=by
 refine⟨Wj ?_ _, ?_, ?_⟩
 ·intro b hb
  simp [rU] at hb
  rcases hb with rfl|rfl|rfl|rfl<;>(unfold u8i;omega)
 ·simp only[lD,rU,List.length_take,List.length_cons,List.length_nil];omega
 ·intro h
  have:=congrArg List.length h
  simp only[lD,rU,List.length_take,List.length_cons,List.length_nil] at this
  omega
theorem ahN(e:Nat→V)(bx:Bxx)(n:Nat)(h:Nat→V)(a b c d:Nat):eP Tryz.prog ⟨e,bx,n,h⟩ 48 4 [(0,.c (.int .u8 (a:Int))),(1,.c (.int .u8 (b:Int))),(2,.c (.int .u8 (c:Int))),(3,.c (.int .u8 (d:Int)))]=some (.sl (.own n 5) 1 (bv [a,b,c,d]),⟨e,bx,n+1,h⟩):=by
 rw[ae,Md,Option.bind_some,ac0,Option.bind_some,acZ,Option.bind_some]
 rfl
theorem OL(n:Int):Gxx 9 [vi n] (fzb (lD n)):=by
 have hl:(bv (rU n)).length=4:=rfl
 have hcut:slV Tryz.prog 48 (.sl .fz 1 (bv (rU n))) none (some (.c (.int .i64 (n%4+1))))=some (fzb (lD n)):=by
  rw[EU]
  simp only[bdV,Option.bind_some,Md,agb]
  rw[if_pos ⟨trivial,by omega,by omega,by rw[hl];omega⟩]
  have e:(n%4+1).toNat=(n%4).toNat+1:=by omega
  simp only[e,Int.toNat_natCast,List.drop_zero,aaJ]
  rfl
 have hown:∀(s:St) id,lI Tryz.prog s 48 id 1 (bv (rU n)) none (some (.c (.int .i64 (n%4+1))))=some (fzb (lD n),s.mapV (frz id)):=fun s id=>by unfold lI;rw[hcut];rfl
 have hb4:([u8i n,u8i (n.fdiv 8),u8i (n.fdiv 32),u8i (n.fdiv 128)]:List Nat)=rU n:=rfl
 refine gI oW Tryz.func9 Tryz.results9 ?_
 (repeat' (first|(simp (disch:=first|exact dqz|fail) only[agi,simprocAttr,Tryz.f9,ahN,hb4,sh3,sh5,sh7,ahM,agk,hown,isC,Option.all_some,Option.all_none,Bool.and_true,Bool.true_and])|((with_reducible first|apply aj|apply ai|apply ak)<;>intro hc<;>(try simp only[hc])<;>(try simp only[pgd] at hc))|(with_reducible refine cK ?_)))
 (refine rT [] ?_;first|rfl|simp only[pgo,simprocAttr]|skip)
theorem bG(n a b:Int)(h:a≤n∧n≤b):Gxx 149 [vi n,vi a,vi b] (vb true):=by
 have:=eU n a b;rwa [D6 h] at this
theorem Jd{k z d s:Int}(h:vp k z d s=0):k=1∨k=2∨k=3∨k=4∨k=5∨k=6:=by unfold vp at h;repeat' split at h<;>omega
def vTl(t:Tl):Int:=if (0≤t.t∧t.t≤4294967295)∧(0≤t.i∧t.i≤4294967295)∧t.i≤t.t then 0 else 5
theorem pK(t:Tl):Gxx 93 [.agg (tlF t)] (vi (vTl t)):=by
 obtain⟨a,b,s⟩:=t
 skip
 refine gI oW Tryz.func93 Tryz.results93 ?_
 (repeat' first|refine wP trivial trivial ?_|refine cU (eU _ _ _) ?_|refine tX (aI @kX @lM) ?_ ?_<;>intro hc|fail)
 all_goals (refine rT [] ?_;first|rfl|simp only[pgo,simprocAttr]|skip)
 all_goals (unfold vTl;simp only;(repeat' split)<;>first|rfl|(exfalso;omega))
def Bz(a b:Tl):Tl:=⟨(lw a.t b.t 4294967295).1,(lw a.i b.i 4294967295).1,a.b||b.b||(lw a.t b.t 4294967295).2||(lw a.i b.i 4294967295).2⟩
theorem MV(a b:Tl)(h1:W64 a.t)(h2:W64 a.i)(h3:W64 b.t)(h4:W64 b.i):Gxx 101 [.agg (tlF a),.agg (tlF b)] (.agg (tlF (Bz a b))):=by
 obtain⟨a1,a2,a3⟩:=a
 obtain⟨b1,b2,b3⟩:=b
 simp only at h1 h2 h3 h4
 unfold Bz
 simp only
 have k1:=Fv a1 b1 4294967295 (by decide) h1 h3
 have k2:=Fv a2 b2 4294967295 (by decide) h2 h4
 generalize lw a1 b1 4294967295=x at *
 generalize lw a2 b2 4294967295=y at *
 obtain⟨x1,x2⟩:=x
 obtain⟨y1,y2⟩:=y
 simp only at k1 k2 ⊢
 refine gI oW Tryz.func101 Tryz.results101 ?_
 cases a3<;>cases b3<;>cases x2<;>cases y2
 all_goals
  (repeat' first|refine wP trivial (aI k1 k2) ?_|refine tX (aI @kX @lM) ?_ ?_<;>intro hc|fail)
  exact rE []
def rV(t:Tl)(k:List Nat)(w:Int):Tl × Int:=if vTl t≠0 then (Tl.o,vTl t) else if bT k w≠0 then (Tl.o,bT k w) else (Bz t ⟨w,1,false⟩,0)
theorem FB{t:Tl}(h:vTl t=0):W64 t.t∧W64 t.i:=by
 unfold vTl at h
 split at h
 ·unfold W64;omega
 ·cases h
theorem fU{k:List Nat}{w:Int}(h:bT k w=0):(1≤w∧w≤4294967295)∧1≤k.length∧k.length≤32:=by
 unfold bT at h
 split at h
 ·split at h
  ·omega
  ·cases h
 ·cases h
theorem BA(t:Tl)(k:List Nat)(w:Int):Gxx 34 [.agg (tlF t),.agg [vs k,vi w]] (.tup [.agg (tlF (rV t k w).1),vi (rV t k w).2]):=by
 have h1:=pK t
 have h2:=dn k w
 unfold rV
 by_cases c1:vTl t=0
 ·rw[if_neg (by omega)]
  rw[c1] at h1
  by_cases c2:bT k w=0
  ·rw[if_neg (by omega)]
   rw[c2] at h2
   have h3:=MV t ⟨w,1,false⟩ (FB c1).1 (FB c1).2 (show W64 w from by have:=fU c2;unfold W64;omega) (show W64 1 from ⟨by decide,by decide⟩)
   generalize Bz t ⟨w,1,false⟩=r at *
   refine gI oW Tryz.func34 Tryz.results34 ?_
   (repeat' first|refine wP trivial (aI h1 (aI h2 h3)) ?_|refine tX (aI @kX @lM) ?_ ?_<;>intro hc|fail)
   exact rE []
  ·rw[if_pos (by omega)]
   refine gI oW Tryz.func34 Tryz.results34 ?_
   (repeat' first|refine wP trivial (aI h1 h2) ?_|refine tX (aI @kX @lM) ?_ ?_<;>intro hc|fail)
   exact rE []
 ·rw[if_pos (by omega)]
  refine gI oW Tryz.func34 Tryz.results34 ?_
  (repeat' first|refine wP trivial h1 ?_|refine tX (aI @kX @lM) ?_ ?_<;>intro hc|fail)
  exact rE []
theorem xN{d z:Int}(hd:1≤d∧d≤8)(hz:1≤z∧z≤64):0≤d*z∧d*z≤512:=by
 refine⟨Int.mul_nonneg (by omega) (by omega), ?_⟩
 have h1:d*z≤8*z:=Int.mul_le_mul_of_nonneg_right hd.2 (by omega)
 omega
def ku(a b:Int)(l:List Int):Bool:=l.all fun n=>decide (a≤n∧n≤b)
theorem qm{a b:Int}{l:List Int}{i:Nat}(h:i<l.length):ku a b (l.take (i+1))=(ku a b (l.take i)&&decide (a≤l.getD i 0∧l.getD i 0≤b)):=by
 unfold ku
 rw[List.take_succ_eq_append_getElem h,List.all_append]
 simp [List.getD,h]
theorem tZ{a b:Int}{l:List Int}{i:Nat}(h:i<l.length)(hn:¬(a≤l.getD i 0∧l.getD i 0≤b)):ku a b l=false:=by
 unfold ku
 rw[←Bool.not_eq_true,List.all_eq_true]
 intro h'
 have:=h' l[i] (List.getElem_mem h)
 simp only[decide_eq_true_eq] at this
 apply hn
 simpa [List.getD,h] using this
theorem D8{a b:Int}{l:List Int}(h:ku a b l=true){i:Nat}(hi:i<l.length):a≤l.getD i 0∧l.getD i 0≤b:=by
 unfold ku at h
 have:=List.all_eq_true.1 h l[i] (List.getElem_mem hi)
 simpa [List.getD,hi] using this
def vCm(c:Cm):Int:=if ¬(1≤c.d∧c.d≤8∧1≤c.z∧c.z≤64) then 5 else if (c.c.length:Int)≠c.d*c.z then 18 else if ku 0 4294967295 c.c=true then 0 else 5
theorem l9(c:Cm):Gxx 94 [.agg (cmF c)] (vi (vCm c)):=by
 obtain⟨d,z,s,l,b⟩:=c
 unfold vCm
 simp only
 have hil:=aZ l
 by_cases c1:1≤d∧d≤8∧1≤z∧z≤64
 ·rw[if_neg (by simpa using c1)]
  have k1:=bG d 1 8 (by omega)
  have k2:=bG z 1 64 (by omega)
  have hm:=xN ⟨c1.1,c1.2.1⟩ c1.2.2
  by_cases c2:(l.length:Int)=d*z
  ·rw[if_neg (by omega)]
   generalize hdz:d*z=dz at *
   refine gI oW Tryz.func94 Tryz.results94 ?_
   (repeat' first|refine wP (aI @hdz @aZ) (aI k1 k2) ?_|refine tX (aI @kX @lM) ?_ ?_<;>intro hc|fail)
   refine df (fun i:Nat=>mkA [(1,.ref 0 0),(3,vi i)] [(0,(29,cmF ⟨d,z,s,l,b⟩))] 1 (fun _ => .top)) (fun i=>i≤l.length∧ku 0 4294967295 (l.take i)=true) (fun i=>l.length-i) 0 [] [0] ?_ ⟨Nat.zero_le _,rfl⟩ ?_
   ·exact kE
   ·rintro i ⟨hi,ha⟩
    rcases Nat.lt_or_ge i l.length with hlt|hge
    ·have hg:=kF l i hlt
     have hx:=tZ (a:=0) (b:=4294967295) hlt
     have hn:=qm (a:=0) (b:=4294967295) hlt
     rw[ha] at hn
     generalize l.getD i 0=n at *
     by_cases hc:0≤n∧n≤4294967295
     ·have k3:=bG n 0 4294967295 hc
      (repeat' first|refine wP (aI @aZ @hg) k3 ?_|refine tX (aI @kX @lM) ?_ ?_<;>intro hc|fail)
      exact bE (i+1) [] [0] ⟨hlt,by rw[hn,decide_eq_true hc];rfl⟩
     ·have k3:=eU n 0 4294967295
      rw[kG hc] at k3
      rw[hx hc,if_neg (by simp)]
      (repeat' first|refine wP (aI @aZ @hg) k3 ?_|refine tX (aI @kX @lM) ?_ ?_<;>intro hc|fail)
      exact rE []
    ·have:i=l.length:=by omega
     subst this
     rw[List.take_length] at ha
     rw[ha,if_pos rfl]
     (repeat' first|refine wP @aZ trivial ?_|refine tX (aI @kX @lM) ?_ ?_<;>intro hc|fail)
     exact rE []
  ·rw[if_pos c2]
   generalize hdz:d*z=dz at *
   refine gI oW Tryz.func94 Tryz.results94 ?_
   (repeat' first|refine wP (aI @hdz @aZ) (aI k1 k2) ?_|refine tX (aI @kX @lM) ?_ ?_<;>intro hc|fail)
   exact rE []
 ·rw[if_pos c1]
  by_cases c2:1≤d∧d≤8
  ·have k1:=bG d 1 8 c2
   have k2:=eU z 1 64
   rw[kG (by omega)] at k2
   refine gI oW Tryz.func94 Tryz.results94 ?_
   (repeat' first|refine wP trivial (aI k1 k2) ?_|refine tX (aI @kX @lM) ?_ ?_<;>intro hc|fail)
   exact rE []
  ·have k1:=eU d 1 8
   rw[kG c2] at k1
   refine gI oW Tryz.func94 Tryz.results94 ?_
   (repeat' first|refine wP trivial k1 ?_|refine tX (aI @kX @lM) ?_ ?_<;>intro hc|fail)
   exact rE []
theorem OM(n:Int):0≤IntKind.u64.wrap n∧IntKind.u64.wrap n<18446744073709551616:=by
 rw[IntKind.wrap_u64]
 omega
theorem Xp(x:Int):0≤al1 x∧al1 x<18446744073709551616:=OM _
theorem mO(t:List Int)(k:List Nat):0≤lL t k∧lL t k<18446744073709551616:=Xp _
def uP(s row z:Int)(k:List Nat):Int:=(lL (jy (Dn s row) 256) k).tmod z
theorem rW(s row z:Int)(k:List Nat)(hz:1≤z):0≤uP s row z k∧uP s row z k<z:=by
 unfold uP
 have h:=(mO (jy (Dn s row) 256) k).1
 rw[Int.tmod_eq_emod_of_nonneg h]
 exact⟨Int.emod_nonneg _ (by omega),Int.emod_lt_of_pos _ (by omega)⟩
theorem Rz(s row z:Int)(k:List Nat)(ho:oct k)(hr:0≤row∧row≤7)(hz:1≤z∧z≤64)(hk:1≤k.length∧k.length≤32):Gxx 151 [vu s,vi row,vi z,vs k] (.tup [vi (uP s row z k),vi 0]):=by
 have k1:=bG row 0 7 hr
 have k2:=bG z 1 64 hz
 have k3:=xI k
 rw[zT hk] at k3
 have k4:=OE (jy (Dn s row) 256) (lK _ _) k ho (by omega)
 have hc:=rW s row z k hz.1
 have hh:=mO (jy (Dn s row) 256) k
 unfold uP at *
 generalize lL (jy (Dn s row) 256) k=h at *
 refine gI oW Tryz.func151 Tryz.results151 ?_
 (repeat' first|refine wP trivial (aI k1 (aI k2 (aI k3 (aI (aeF s row hr) k4)))) ?_|refine cU (Jb _) ?_|refine tX (aI @kX @lM) ?_ ?_<;>intro hc|fail)
 exact rE []
def rX(s z row:Int)(k:List Nat):Int:=row*z+uP s row z k
theorem xO(s z row d:Int)(k:List Nat)(hz:1≤z)(hr:0≤row∧row<d):0≤rX s z row k∧rX s z row k<d*z:=by
 have h:=rW s row z k hz
 unfold rX
 have h1:0≤row*z:=Int.mul_nonneg hr.1 (by omega)
 have h2:(row+1)*z≤d*z:=Int.mul_le_mul_of_nonneg_right (by omega) (by omega)
 rw[Int.add_mul] at h2
 omega
theorem abI(c:Cm)(row:Int)(k:List Nat)(ho:oct k)(hr:0≤row∧row≤7)(hz:1≤c.z∧c.z≤64)(hk:1≤k.length∧k.length≤32):Gxx 102 [.agg (cmF c),vi row,vs k] (vi (rX c.s c.z row k)):=by
 obtain⟨d,z,s,l,b⟩:=c
 simp only at hz ⊢
 have k1:=Rz s row z k ho hr hz hk
 have hc:=rW s row z k hz.1
 have hcell:=xO s z row 8 k hz.1 (by omega)
 have hm:0≤row*z:=Int.mul_nonneg hr.1 (by omega)
 have hm2:row*z≤7*z:=Int.mul_le_mul_of_nonneg_right hr.2 (by omega)
 unfold rX at *
 generalize uP s row z k=q at *
 generalize hrz:row*z=rz at *
 refine gI oW Tryz.func102 Tryz.results102 ?_
 (repeat' first|refine wP @hrz k1 ?_|refine tX (aI @kX @lM) ?_ ?_<;>intro hc|fail)
 exact rE []
def xP(c:Cm)(k:List Nat)(w:Int)(row:Nat):Cm :=
 ⟨c.d,c.z,c.s,c.c.set (rX c.s c.z row k).toNat (lw (c.c.getD (rX c.s c.z row k).toNat 0) w 4294967295).1,c.b||(lw (c.c.getD (rX c.s c.z row k).toNat 0) w 4294967295).2⟩
def dW(c:Cm)(k:List Nat)(w:Int):Nat→Cm
 | 0=>c
 | n+1=>xP (dW c k w n) k w n
theorem Xq(a b m:Int)(hm:0≤m):0≤(lw a b m).1∧(lw a b m).1≤m:=by
 have h1:=jJ a
 have h2:=jJ b
 have h3:=oh hm
 unfold lw
 split
 ·simp only;omega
 ·simp only;omega
theorem BB(c:Cm)(k:List Nat)(w:Int)(n:Nat):(dW c k w n).d=c.d∧(dW c k w n).z=c.z∧(dW c k w n).s=c.s∧(dW c k w n).c.length=c.c.length:=by
 induction n with
 | zero=>exact⟨rfl,rfl,rfl,rfl⟩
 | succ n ih=>simp only[dW,xP,List.length_set];exact ih
theorem RD{a b:Int}{l:List Int}(h:ku a b l=true)(i:Nat)(n:Int)(hn:a≤n∧n≤b):ku a b (l.set i n)=true:=by
 unfold ku at *
 rw[List.all_eq_true] at *
 intro x hx
 rcases List.mem_or_eq_of_mem_set hx with h1|rfl
 ·exact h x h1
 ·exact decide_eq_true hn
theorem D9(c:Cm)(k:List Nat)(w:Int)(h:ku 0 4294967295 c.c=true)(n:Nat):ku 0 4294967295 (dW c k w n).c=true:=by
 induction n with
 | zero=>exact h
 | succ n ih=>exact RD ih _ _ (Xq _ _ _ (by decide))
def nH(c:Cm)(k:List Nat)(w:Int):Cm × Int:=if vCm c≠0 then (Cm.o,vCm c) else if bT k w≠0 then (Cm.o,bT k w) else (dW c k w c.d.toNat,0)
theorem Xr{c:Cm}(h:vCm c=0):(1≤c.d∧c.d≤8)∧(1≤c.z∧c.z≤64)∧(c.c.length:Int)=c.d*c.z∧ku 0 4294967295 c.c=true:=by
 unfold vCm at h
 split at h
 ·cases h
 ·rename_i h1
  split at h
  ·cases h
  ·rename_i h2
   split at h
   ·rename_i h3
    have h1:1≤c.d∧c.d≤8∧1≤c.z∧c.z≤64:=Classical.byContradiction h1
    exact⟨by omega,by omega,by omega,h3⟩
   ·cases h
theorem FC:wkV (.agg [vi 0,vi 0,vu 0,nls,vb false]) (.agg (cmF Cm.o)) := .inr ⟨_,_,rfl,rfl,⟨.inl rfl,.inl rfl,.inl rfl,o5 _ _,.inl rfl,trivial⟩⟩
theorem wF(c:Cm)(k:List Nat)(w:Int)(ho:oct k):Gxx 35 [.agg (cmF c),.agg [vs k,vi w]] (.tup [.agg (cmF (nH c k w).1),vi (nH c k w).2]):=by
 have h1:=l9 c
 have h2:=dn k w
 unfold nH
 by_cases c1:vCm c=0
 ·rw[if_neg (by omega)]
  rw[c1] at h1
  by_cases c2:bT k w=0
  ·rw[if_neg (by omega)]
   rw[c2] at h2
   obtain⟨i1,i2,i3,i4⟩:=Xr c1
   obtain⟨j1,j2⟩:=fU c2
   have hm:=xN i1 i2
   have hd:=BB c k w
   have hin:=D9 c k w i4
   have hcell:=fun (r:Nat) (hr:(r:Int)<c.d)=>xO c.s c.z r c.d k i2.1 ⟨by omega,hr⟩
   have e0:dW c k w 0=c:=rfl
   have es:∀n,dW c k w (n+1)=xP (dW c k w n) k w n:=fun _=>rfl
   have hcl:=fun (n:Nat) (hn:(n:Int)≤7)=>abI (dW c k w n) n k ho (by omega) (by rw[(hd n).2.1];exact i2) j2
   have ec:cmF (dW c k w c.d.toNat)=[vi c.d,vi c.z,vu c.s,fzi (dW c k w c.d.toNat).c,vb (dW c k w c.d.toNat).b]:=by
    show [vi (dW c k w c.d.toNat).d,vi (dW c k w c.d.toNat).z,vu (dW c k w c.d.toNat).s,_,_]=_
    rw[(hd _).1,(hd _).2.1,(hd _).2.2.1]
   refine Good.fzt (vs:=[.agg [vi c.d,vi c.z,vu c.s,.sl (.own 0 3) 1 (iv (dW c k w c.d.toNat).c),vb (dW c k w c.d.toNat).b],vi 0]) ?_ rfl (by simp only;rw[ec];exact⟨aH _,aH _,trivial⟩)
   generalize hR:dW c k w=R at *
   obtain⟨d,z,s,l,b⟩:=c
   simp only at i1 i2 i3 i4 hd hcell e0 ⊢
   have hil:=aZ l
   refine gI oW Tryz.func35 Tryz.results35 ?_
   refine wS @aZ (aI h1 h2) ?_
   refine df (fun r:Nat=>mkA [(2,.ref 0 0),(3,.ref 1 0),(4,.ref 2 0),(8,vi r)] [(0,(29,[vi d,vi z,vu s,.sl (.own 0 3) 1 (iv (R r).c),vb (R r).b])),(1,(45,[vs k,vi w])),(2,(29,[vi 0,vi 0,vu 0,nls,vb false]))] 3 (fun _ => .top)) (fun r=>r≤d.toNat) (fun r=>d.toNat-r) 0 [3] [0,1,2] ?_ (Nat.zero_le _) ?_
   ·(refine dN ?_ ?_ (gu _ _ _) (by decide) (by decide) (by decide) (by decide);(repeat' (first|exact trivial|refine dI _ _ rfl rfl ?_ ?_));all_goals (try simp only[pgs,pgl,pgx,pgf,pgw,di,dL,dm,dM,qc,iO,fO,pgn,simprocAttr]);all_goals (try (repeat' (first|apply aI)));all_goals (try (first|exact trivial|exact dE (by omega)|exact eH rfl|exact bP rfl rfl|exact jq rfl)))
    all_goals first|(exact bP rfl (by rw[e0]))|(exact eH (by rw[e0]))|skip
   ·intro r hr
    replace hr:r≤d.toNat:=hr
    rcases Nat.lt_or_ge r d.toNat with hlt|hge
    ·have hrd:(r:Int)<d:=by omega
     have hq:=hcell r hrd
     have hk1:=hcl r (by omega)
     obtain⟨d1,d2,d3,d4⟩:=hd r
     have hRr:=es r
     have hinr:=hin r
     generalize hR1:R r=q at *
     obtain⟨qd,qz,qs,ql,qb⟩:=q
     simp only at d1 d2 d3 d4 hk1 hinr hRr
     subst d1
     subst d2
     subst d3
     rw[xP] at hRr
     simp only at hRr
     generalize hcc:rX qs qz (r:Int) k=ci at *
     have hcn:ci.toNat<ql.length:=by omega
     have hg:=kF ql ci.toNat hcn
     have hgin:=D8 hinr hcn
     generalize hgg:ql.getD ci.toNat 0=g at *
     have hadd:=Fv g w 4294967295 (by decide) (by unfold W64;omega) (by unfold W64;omega)
     generalize lw g w 4294967295=a at *
     obtain⟨a1,a2⟩:=a
     simp only at hadd hRr
     have hql:=aZ ql
     cases qb
     ·cases a2
      ·refine wS (aI @aZ (aI @hg @rP)) (aI hk1 hadd) ?_
       (refine dh (r+1) [0] [0,1,2] (hlt) (by first|omega|(simp only[List.length_cons];omega)) ?_;(refine dN ?_ ?_ (gu _ _ _) (by decide) (by decide) (by decide) (by decide);(repeat' (first|exact trivial|refine dI _ _ rfl rfl ?_ ?_));all_goals (try simp only[pgs,pgl,pgx,pgf,pgw,di,dL,dm,dM,qc,iO,fO,pgn,simprocAttr]);all_goals (try (repeat' (first|apply aI)));all_goals (try (first|exact trivial|exact dE (by omega)|exact eH rfl|exact bP rfl rfl|exact jq rfl))))
       all_goals first|(exact bP rfl (by rw[hRr]))|(exact eH (by rw[hRr];rfl))|skip
      ·refine wS (aI @aZ (aI @hg @rP)) (aI hk1 hadd) ?_
       (refine dh (r+1) [0] [0,1,2] (hlt) (by first|omega|(simp only[List.length_cons];omega)) ?_;(refine dN ?_ ?_ (gu _ _ _) (by decide) (by decide) (by decide) (by decide);(repeat' (first|exact trivial|refine dI _ _ rfl rfl ?_ ?_));all_goals (try simp only[pgs,pgl,pgx,pgf,pgw,di,dL,dm,dM,qc,iO,fO,pgn,simprocAttr]);all_goals (try (repeat' (first|apply aI)));all_goals (try (first|exact trivial|exact dE (by omega)|exact eH rfl|exact bP rfl rfl|exact jq rfl))))
       all_goals first|(exact bP rfl (by rw[hRr]))|(exact eH (by rw[hRr];rfl))|skip
     ·refine wS (aI @aZ (aI @hg @rP)) (aI hk1 hadd) ?_
      (refine dh (r+1) [0] [0,1,2] (hlt) (by first|omega|(simp only[List.length_cons];omega)) ?_;(refine dN ?_ ?_ (gu _ _ _) (by decide) (by decide) (by decide) (by decide);(repeat' (first|exact trivial|refine dI _ _ rfl rfl ?_ ?_));all_goals (try simp only[pgs,pgl,pgx,pgf,pgw,di,dL,dm,dM,qc,iO,fO,pgn,simprocAttr]);all_goals (try (repeat' (first|apply aI)));all_goals (try (first|exact trivial|exact dE (by omega)|exact eH rfl|exact bP rfl rfl|exact jq rfl))))
      all_goals first|(exact bP rfl (by rw[hRr]))|(exact eH (by rw[hRr];rfl))|skip
    ·have:r=d.toNat:=by omega
     subst this
     exact wR @aZ trivial (ids [0])
  ·rw[if_pos (by omega)]
   refine Good.fzt (vs:=[.agg [vi 0,vi 0,vu 0,nls,vb false],vi (bT k w)]) ?_ rfl ⟨FC,aH _,trivial⟩
   refine gI oW Tryz.func35 Tryz.results35 ?_
   exact wR trivial (aI h1 h2) ay
 ·rw[if_pos (by omega)]
  refine Good.fzt (vs:=[.agg [vi 0,vi 0,vu 0,nls,vb false],vi (vCm c)]) ?_ rfl ⟨FC,aH _,trivial⟩
  refine gI oW Tryz.func35 Tryz.results35 ?_
  exact wR trivial h1 ay
def vLl(l:Ll):Int:=if ¬(2≤l.p∧l.p≤8) then 5 else if l.r.length≠2^l.p.toNat then 18 else if ku 0 (65-l.p) l.r=true then 0 else 5
theorem qo{p:Int}(hp:2≤p∧p≤8):IntKind.i64.wrap (1*2^min p.toNat IntKind.i64.bits)=((2^p.toNat:Nat):Int)∧2^p.toNat≤256∧1≤2^p.toNat:=by
 have:p=2∨p=3∨p=4∨p=5∨p=6∨p=7∨p=8:=by omega
 rcases this with rfl|rfl|rfl|rfl|rfl|rfl|rfl<;>exact⟨by decide,by decide,by decide⟩
theorem ou(x:Ll)(hx:x.r.length≤1000000):Gxx 95 [.agg (llF x)] (vi (vLl x)):=by
 obtain⟨p,s,l⟩:=x
 simp only at hx
 unfold vLl
 simp only
 have hil:=aZ l
 by_cases c1:2≤p∧p≤8
 ·rw[if_neg (by simpa using c1)]
  have k1:=bG p 2 8 c1
  obtain⟨hw,hp1,hp2⟩:=qo c1
  by_cases c2:l.length=2^p.toNat
  ·rw[if_neg (by omega)]
   rw[←c2] at hw hp1 hp2
   refine gI oW Tryz.func95 Tryz.results95 ?_
   refine wS (aI @hw @aZ) k1 ?_
   refine df (fun i:Nat=>mkA [(1,.ref 0 0),(3,vi i)] [(0,(31,llF ⟨p,s,l⟩))] 1 (fun _ => .top)) (fun i=>i≤l.length∧ku 0 (65-p) (l.take i)=true) (fun i=>l.length-i) 0 [] [0] ?_ ⟨Nat.zero_le _,rfl⟩ ?_
   ·exact kE
   ·rintro i ⟨hi,ha⟩
    rcases Nat.lt_or_ge i l.length with hlt|hge
    ·have hg:=kF l i hlt
     have hx:=tZ (a:=0) (b:=65-p) hlt
     have hn:=qm (a:=0) (b:=65-p) hlt
     rw[ha] at hn
     generalize l.getD i 0=n at *
     by_cases hc:0≤n∧n≤65-p
     ·have k3:=bG n 0 (65-p) hc
      refine wS (aI @aZ @hg) k3 ?_
      exact bE (i+1) [] [0] ⟨hlt,by rw[hn,decide_eq_true hc];rfl⟩
     ·have k3:=eU n 0 (65-p)
      rw[kG hc] at k3
      rw[hx hc,if_neg (by simp)]
      exact wR (aI @aZ @hg) k3 ay
    ·have:i=l.length:=by omega
     subst this
     rw[List.take_length] at ha
     rw[ha,if_pos rfl]
     exact wR @aZ trivial ay
  ·rw[if_pos c2]
   generalize hq:2^p.toNat=q at *
   refine gI oW Tryz.func95 Tryz.results95 ?_
   exact wR (aI @hw @aZ) k1 ay
 ·rw[if_pos c1]
  have k1:=eU p 2 8
  rw[kG c1] at k1
  refine gI oW Tryz.func95 Tryz.results95 ?_
  exact wR trivial k1 ay
def Je(h:Int)(j:Nat):Int:=bits .and .u64 (h.fdiv (2^min j IntKind.u64.bits)) 1
def qU(h:Int):Nat→Int
 | 0=>1
 | j+1=>if Je h j=0 then 1+qU h j else 1
theorem wG(h:Int)(j:Nat):1≤qU h j∧qU h j≤j+1:=by
 induction j with
 | zero=>simp [qU]
 | succ j ih=>unfold qU;split<;>omega
def xQ(p s:Int)(k:List Nat):Int:=(lL (jy s 256) k).fdiv (2^min (64-p).toNat IntKind.u64.bits)
def FD(p s:Int)(k:List Nat):Int:=qU (lL (jy s 256) k) (64-p).toNat
theorem wH(p s:Int)(k:List Nat)(hp:2≤p∧p≤8):0≤xQ p s k∧xQ p s k<((2^p.toNat:Nat):Int):=by
 have h:=mO (jy s 256) k
 unfold xQ
 generalize lL (jy s 256) k=x at *
 have:p=2∨p=3∨p=4∨p=5∨p=6∨p=7∨p=8:=by omega
 have key:∀m:Nat,1≤m→∀n:Int,x<n*(m:Int)→0≤x.fdiv (m:Int)∧x.fdiv (m:Int)<n:=by
  intro m hm n hn
  rw[Int.fdiv_eq_ediv_of_nonneg _ (by omega)]
  exact⟨Int.ediv_nonneg h.1 (by omega),Int.ediv_lt_of_lt_mul (by omega) hn⟩
 rcases this with rfl|rfl|rfl|rfl|rfl|rfl|rfl
 ·exact key (2^62) (by decide) 4 (by omega)
 ·exact key (2^61) (by decide) 8 (by omega)
 ·exact key (2^60) (by decide) 16 (by omega)
 ·exact key (2^59) (by decide) 32 (by omega)
 ·exact key (2^58) (by decide) 64 (by omega)
 ·exact key (2^57) (by decide) 128 (by omega)
 ·exact key (2^56) (by decide) 256 (by omega)
theorem Jf(p s:Int)(k:List Nat)(ho:oct k)(hp:2≤p∧p≤8)(hk:1≤k.length∧k.length≤32):Gxx 104 [vi p,vu s,vs k] (.tup [vi (xQ p s k),vi (FD p s k),vi 0]):=by
 have k1:=bG p 2 8 hp
 have k3:=xI k
 rw[zT hk] at k3
 have k4:=OE (jy s 256) (lK _ _) k ho (by omega)
 have hh:=mO (jy s 256) k
 have hr:=wH p s k hp
 have hp2:=(qo hp).2.1
 have er:xQ p s k=(lL (jy s 256) k).fdiv (2^min (64-p).toNat IntKind.u64.bits):=rfl
 unfold FD
 generalize xQ p s k=rg at *
 generalize lL (jy s 256) k=h at *
 refine gI oW Tryz.func104 Tryz.results104 ?_
 (repeat' first|refine wP trivial (aI k1 (aI k3 k4)) ?_|refine cU (Jb _) ?_|refine tS ?_ ?_<;>intro hc|fail)
 refine df (fun j:Nat × Int=>mkA [(0,vi p),(9,vu h),(11,vi j.2),(12,vi ((j.1:Int)-1))] [] 0 (fun _ => .top)) (fun j=>(j.1:Int)≤64-p∧1≤j.2∧j.2+qU h j.1-1=qU h (64-p).toNat) (fun j=>j.1) ((64-p).toNat,1) [] [] ?_ ⟨by simp only;omega,by simp only;omega,by simp only;omega⟩ ?_
 ·exact kE
  all_goals exact dE (by omega)
 ·rintro⟨j,q⟩ ⟨hj,hq1,hq⟩
  simp only at hj hq1 hq
  have hrn:=wG h j
  have hrf:=wG h (64-p).toNat
  cases j with
  | zero =>
   have e0:qU h 0=1:=rfl
   rw[e0] at hq
   have:q=qU h (64-p).toNat:=by omega
   subst this
   (repeat' (first|(simp (disch:=first|exact dqz|fail) only[pgz,simprocAttr,←er])|((with_reducible first|apply aj|apply ai|apply ak)<;>intro hc<;>(try simp only[hc])<;>(try simp only[pgd] at hc))|(with_reducible refine cK ?_)))
   exact rE []
  | succ j =>
   have hrj:=wG h j
   have en:qU h (j+1)=if Je h j=0 then 1+qU h j else 1:=rfl
   have hix:(((j+1:Nat):Int)-1)=(j:Int):=by omega
   have hix2:((j:Int)+1-1)=(j:Int):=by omega
   have hw:IntKind.u64.wrap (j:Int)=(j:Int):=acY _ (by omega) (by omega)
   by_cases hb:Je h j=0
   ·rw[en,if_pos hb] at hq
    unfold Je at hb
    refine wS (aI @hix (aI @hix2 (aI @hw @hb))) trivial ?_
    refine dh (j,q+1) [] [] ⟨by simp only;omega,by simp only;omega,by simp only;omega⟩ (by show j<j+1;omega) ?_
    exact kE
   ·rw[en,if_neg hb] at hq
    have:q=qU h (64-p).toNat:=by omega
    subst this
    unfold Je at hb
    (repeat' (first|(simp (disch:=first|exact dqz|fail) only[pgz,simprocAttr,hix,hix2,hw,hb,←er])|((with_reducible first|apply aj|apply ai|apply ak)<;>intro hc<;>(try simp only[hc])<;>(try simp only[pgd] at hc))|(with_reducible refine cK ?_)))
    exact rE []
def lN(l:Ll)(k:List Nat)(w:Int):Ll × Int:=if vLl l≠0 then (Ll.o,vLl l) else if bT k w≠0 then (Ll.o,bT k w) else (⟨l.p,l.s,l.r.set (xQ l.p l.s k).toNat (max (l.r.getD (xQ l.p l.s k).toNat 0) (FD l.p l.s k))⟩,0)
theorem Xt{l:Ll}(h:vLl l=0):(2≤l.p∧l.p≤8)∧l.r.length=2^l.p.toNat∧ku 0 (65-l.p) l.r=true:=by
 unfold vLl at h
 split at h
 ·cases h
 ·rename_i h1
  split at h
  ·cases h
  ·rename_i h2
   split at h
   ·rename_i h3
    exact⟨Classical.byContradiction h1,Classical.byContradiction h2,h3⟩
   ·cases h
theorem FH:wkV (.agg [vi 0,vu 0,nls]) (.agg (llF Ll.o)) := .inr ⟨_,_,rfl,rfl,⟨.inl rfl,.inl rfl,o5 _ _,trivial⟩⟩
theorem zA(x:Ll)(k:List Nat)(w:Int)(ho:oct k)(hx:x.r.length≤1000000):Gxx 36 [.agg (llF x),.agg [vs k,vi w]] (.tup [.agg (llF (lN x k w).1),vi (lN x k w).2]):=by
 have h1:=ou x hx
 have h2:=dn k w
 unfold lN
 by_cases c1:vLl x=0
 ·rw[if_neg (by omega)]
  rw[c1] at h1
  by_cases c2:bT k w=0
  ·rw[if_neg (by omega)]
   rw[c2] at h2
   obtain⟨i1,i2,i3⟩:=Xt c1
   obtain⟨j1,j2⟩:=fU c2
   have hr:=wH x.p x.s k i1
   have hp:=(qo i1).2
   have k1:=Jf x.p x.s k ho i1 j2
   obtain⟨p,s,l⟩:=x
   simp only at i1 i2 i3 hr hp k1 hx ⊢
   rw[←i2] at hr
   generalize xQ p s k=rg at *
   generalize FD p s k=rk at *
   have hrn:rg.toNat<l.length:=by omega
   have hg:=kF l rg.toNat hrn
   generalize hgg:l.getD rg.toNat 0=g at *
   have hil:=aZ l
   refine Good.fzt (vs:=[.agg [vi p,vu s,.sl (.own 0 3) 1 (iv (l.set rg.toNat (max g rk)))],vi 0]) ?_ rfl ⟨aH _,aH _,trivial⟩
   refine gI oW Tryz.func36 Tryz.results36 ?_
   exact wR (aI @aZ (aI @hg @rP)) (aI h1 (aI h2 k1)) (ids [3])
  ·rw[if_pos (by omega)]
   refine Good.fzt (vs:=[.agg [vi 0,vu 0,nls],vi (bT k w)]) ?_ rfl ⟨FH,aH _,trivial⟩
   refine gI oW Tryz.func36 Tryz.results36 ?_
   exact wR trivial (aI h1 h2) ay
 ·rw[if_pos (by omega)]
  refine Good.fzt (vs:=[.agg [vi 0,vu 0,nls],vi (vLl x)]) ?_ rfl ⟨FH,aH _,trivial⟩
  refine gI oW Tryz.func36 Tryz.results36 ?_
  exact wR trivial h1 ay
end Go.Proofs.YtiohdbjggmmjcaaGreat
