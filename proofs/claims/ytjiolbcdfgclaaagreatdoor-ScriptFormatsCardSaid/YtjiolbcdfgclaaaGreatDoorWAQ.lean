/-
  Texts of this claim, merged; own names are short.
-/
import Derived.Test.YtjiolbcdfgclaaaGreatDoorWAL
import Derived.Test.YtjiolbcdfgclaaaGreatDoorWAP
import Derived.Test.YtjiolbcdfgclaaaGreatDoorWAM
import Derived.Test.YtjiolbcdfgclaaaGreatDoorWAN
import Derived.Test.YtjiolbcdfgclaaaGreatDoorWAO
import Derived.Test.YtjiolbcdfgclaaaGreatDoorWAJ
set_option linter.unusedVariables false
set_option linter.unusedSimpArgs false
set_option linter.unusedSectionVars false
set_option linter.defProp false
set_option maxRecDepth 100000
set_option maxHeartbeats 8000000
namespace Go.Proofs.YtjiolbcdfgclaaaGreatDoor
open Go Go.Pg
theorem RY(a:ByteArray):decide (a=a)=true:=decide_eq_true rfl
theorem ahh(a:Int):(a == a)=true:=by simp
theorem ahi(a:Int):(a != a)=false:=by simp
theorem afD(o:O)(hn:o.names.length≤1000000)(hi:o.items.length≤1000000):Gxx 17 [.agg (opF o),.agg (opF o)] (vb true):=by
 have hsl:=au o.names
 have hil:=aB o.items
 refine gI oW Tryz.func17 Tryz.results17 ?_
 (repeat' (first|(simp (disch:=first|exact dqz|fail) only[pgz,simprocAttr,Tryz.f17,RY,ahh,ahi,rH,au,aB,Bool.not_true,Bool.and_true,Bool.true_and,List.append_eq,List.cons_append,List.nil_append])|((with_reducible first|apply di|apply bK|apply eX)<;>intro hc<;>(try simp only[hc])<;>(try simp only[pgd] at hc))|(with_reducible refine cK ?_)))
 refine aK (fun i:Nat=>mkA [(2,.ref 0 0),(3,.ref 1 0),(5,vi i)] [(0,(32,opF o)),(1,(32,opF o))] 2 (fun _ => .top)) (fun i=>i≤o.names.length) (fun i=>o.names.length-i) 0 [] [0,1] ?_ (Nat.zero_le _) ?_
 ·exact kE
 ·intro i hi
  replace hi:i≤o.names.length:=hi
  rcases Nat.lt_or_ge i o.names.length with hlt|hge
  ·have hg:=iK o.names i hlt
   refine wS (aI @hg (aI @RY @Bool.not_true)) trivial ?_
   exact bE (i+1) [] [0,1] hlt
  ·refine wS @RY trivial ?_
   refine aK (fun i:Nat=>mkA [(2,.ref 0 0),(3,.ref 1 0),(6,vi i)] [(0,(32,opF o)),(1,(32,opF o))] 2 (fun _ => .top)) (fun i=>i≤o.items.length) (fun i=>o.items.length-i) 0 [] [0,1] ?_ (Nat.zero_le _) ?_
   ·exact kE
   ·intro j hj
    replace hj:j≤o.items.length:=hj
    rcases Nat.lt_or_ge j o.items.length with hlt|hge
    ·have hg:=sS o.items j hlt
     refine wS (aI @hg (aI @RY (aI @ahh (aI @ahi (aI @Bool.not_true (aI @Bool.and_true @Bool.true_and)))))) trivial ?_
     exact bE (j+1) [] [0,1] hlt
    ·exact wR trivial trivial ah
def vk:List (List Nat):=[[97],[98],[99],[100],[101],[102],[97,97],[98,32,99],[37,54,49],[65,58,49],[0],[122,47,255]]
def u8i(n:Int):Nat:=(n%256).toNat
theorem afE(n:Int):IntKind.u8.wrap n=((u8i n:Nat):Int):=by rw[IntKind.wrap_u8];unfold u8i;omega
def wC(n:Int):List Nat:=if n.fdiv 256%16=15 then [u8i n,u8i (n.fdiv 2),u8i (n.fdiv 8)] else vk.getD ((n%256).toNat%12) []
theorem II(n:Int):oct (wC n)∧(wC n).length≤12:=by
 unfold wC
 split
 ·refine⟨?_,by simp⟩
  intro b hb
  simp at hb
  rcases hb with rfl|rfl|rfl<;>(unfold u8i;omega)
 ·generalize hk:(n%256).toNat%12=k
  have hlt:k<12:=by omega
  have:∀k,k<12→((vk.getD k []).all fun b=>decide (b<256))=true∧(vk.getD k []).length≤12:=by decide
  exact⟨jI _ (this k hlt).1,(this k hlt).2⟩
theorem sh8(n:Int):Int.fdiv n (2^min 8 IntKind.i64.bits)=n.fdiv 256:=rfl
theorem sh1(n:Int):Int.fdiv n (2^min 1 IntKind.i64.bits)=n.fdiv 2:=rfl
theorem sh3(n:Int):Int.fdiv n (2^min 3 IntKind.i64.bits)=n.fdiv 8:=rfl
theorem bs3(a b c:Nat):[V.c (.int .u8 (a:Int)),V.c (.int .u8 (b:Int)),V.c (.int .u8 (c:Int))]=bv [a,b,c]:=rfl
theorem anW(e:Nat→V)(b:Nat→Option (TypeId × List V))(n:Nat)(h:Nat→V):bV Tryz.prog ⟨e,b,n,h⟩ 23 12 [(0,.c (.string ⟨#[97]⟩)),(1,.c (.string ⟨#[98]⟩)),(2,.c (.string ⟨#[99]⟩)),(3,.c (.string ⟨#[100]⟩)),(4,.c (.string ⟨#[101]⟩)),(5,.c (.string ⟨#[102]⟩)),(6,.c (.string ⟨#[97,97]⟩)),(7,.c (.string ⟨#[98,32,99]⟩)),(8,.c (.string ⟨#[37,54,49]⟩)),(9,.c (.string ⟨#[65,58,49]⟩)),(10,.c (.string ⟨#[0]⟩)),(11,.c (.string ⟨#[122,47,255]⟩))]=some (.sl (.own n 9) 1 (sv vk),⟨e,b,n+1,h⟩):=by
 rw[eG,qQ,Option.bind_some,x8,Option.bind_some,xZ,Option.bind_some]
 rfl
theorem anX(e:Nat→V)(bx:Nat→Option (TypeId × List V))(n:Nat)(h:Nat→V)(a b c:Nat):bV Tryz.prog ⟨e,bx,n,h⟩ 28 3 [(0,.c (.int .u8 (a:Int))),(1,.c (.int .u8 (b:Int))),(2,.c (.int .u8 (c:Int)))]=some (.sl (.own n 5) 1 (bv [a,b,c]),⟨e,bx,n+1,h⟩):=by
 rw[eG,OA,Option.bind_some,ag5,Option.bind_some,ag4,Option.bind_some]
 rfl
theorem k12:vk.length=12:=rfl
theorem anY(n:Int):Int.tmod (n%256) 12=(((n%256).toNat%12:Nat):Int):=by
 rw[Int.tmod_eq_emod_of_nonneg (by omega)]
 omega
theorem anZ(k:Nat)(h:k<12):(sv vk)[k]?=some (.c (.string (sB (vk.getD k [])))):=iK vk k h
theorem m12(n:Nat):n%12<12:=Nat.mod_lt _ (by omega)
theorem afF(l:List Nat):V.idsL (bv l)=[]:=by
 induction l with
 | nil=>rfl
 | cons a l ih=>simpa [bv,V.idsL,V.ids] using ih
theorem abb(n:Int):Gxx 25 [vi n] (vs (wC n)):=by
 refine gI oW Tryz.func25 Tryz.results25 ?_
 unfold wC
 have hm:=m12 (n%256).toNat
 have hk:=k12
 (repeat' first|refine wP' (aI @afF (aI @anX (aI @anW (aI @k12 (aI @anY (aI @anZ (aI @sh8 (aI @sh1 (aI @sh3 (aI @anN (aI @ajn (aI @afE (aI @bs3 (aI @rH @Int.cast_ofNat_Int)))))))))))))) trivial ?_|refine tS ?_ ?_<;>intro hc|fail)
 all_goals (refine rT [] ?_;first|rfl|simp only[pgo,simprocAttr]|skip)
 all_goals simp [*]
theorem an0(n:Int):bits .and .i64 n 3=n%4:=jH n 2 (by decide)
theorem afG(n:Int):bits .and .i64 n 65535=n%65536:=jH n 16 (by decide)
def vw(n:Int):List Nat:=[u8i n,u8i (n.fdiv 8),u8i (n.fdiv 32),u8i (n.fdiv 128)]
def df(n:Int):List Nat:=(vw n).take ((n%4).toNat+1)
theorem Gv(n:Int):oct (df n)∧(df n).length≤4∧df n≠[]:=by
 refine⟨J7 ?_ _, ?_, ?_⟩
 ·intro b hb
  simp [vw] at hb
  rcases hb with rfl|rfl|rfl|rfl<;>(unfold u8i;omega)
 ·simp only[df,vw,List.length_take,List.length_cons,List.length_nil];omega
 ·intro h
  have:=congrArg List.length h
  simp only[df,vw,List.length_take,List.length_cons,List.length_nil] at this
  omega
theorem an1(e:Nat→V)(bx:Nat→Option (TypeId × List V))(n:Nat)(h:Nat→V)(a b c d:Nat):bV Tryz.prog ⟨e,bx,n,h⟩ 28 4 [(0,.c (.int .u8 (a:Int))),(1,.c (.int .u8 (b:Int))),(2,.c (.int .u8 (c:Int))),(3,.c (.int .u8 (d:Int)))]=some (.sl (.own n 5) 1 (bv [a,b,c,d]),⟨e,bx,n+1,h⟩):=by
 rw[eG,OA,Option.bind_some,ag5,Option.bind_some,ag4,Option.bind_some]
 rfl
theorem iZ(n:Int):Gxx 26 [vi n] (fzb (df n)):=by
 have hl:(bv (vw n)).length=4:=rfl
 have hcut:slV Tryz.prog 28 (.sl .fz 1 (bv (vw n))) none (some (.c (.int .i64 (n%4+1))))=some (fzb (df n)):=by
  rw[Dk]
  simp only[bdV,Option.bind_some,OA,ak9]
  rw[if_pos ⟨trivial,by omega,by omega,by rw[hl];omega⟩]
  have e:(n%4+1).toNat=(n%4).toNat+1:=by omega
  simp only[e,Int.toNat_natCast,List.drop_zero,QO]
  rfl
 have hown:∀(s:St) id,nO Tryz.prog s 28 id 1 (bv (vw n)) none (some (.c (.int .i64 (n%4+1))))=some (fzb (df n),s.mapV (frz id)):=fun s id=>by unfold nO;rw[hcut];rfl
 have hb4:([u8i n,u8i (n.fdiv 8),u8i (n.fdiv 32),u8i (n.fdiv 128)]:List Nat)=vw n:=rfl
 refine gI oW Tryz.func26 Tryz.results26 ?_
 (repeat' (first|(simp (disch:=first|exact dqz|fail) only[aiI,simprocAttr,Tryz.f26,an1,hb4,sh3,sh5,sh7,an0,afE,hown,isC,Option.all_some,Option.all_none,Bool.and_true,Bool.true_and])|((with_reducible first|apply di|apply bK|apply eX)<;>intro hc<;>(try simp only[hc])<;>(try simp only[pgd] at hc))|(with_reducible refine cK ?_)))
 (refine rT [] ?_;first|rfl|simp only[pgo,simprocAttr]|skip)
theorem RZ(l:List Nat)(ho:oct l):∀x∈jh l,x≠32:=by
 intro x hx'
 obtain⟨c,hc,h⟩:=List.mem_flatMap.1 hx'
 have hc':=ho c hc
 simp only[List.mem_cons,List.not_mem_nil,or_false] at h
 rcases h with rfl|rfl
 ·rcases yK (c / 16) (by omega) with h|h<;>omega
 ·rcases yK (c%16) (by omega) with h|h<;>omega
theorem afH{k:List Nat}(hk:fH k=true):(fk k).2=0∧(fk k=(k,0)∧kJ k=true∨fk k=(37::jh k,0)):=by
 unfold fk
 rw[hk,if_neg (by simp)]
 cases hp:kJ k
 ·exact⟨by simp,.inr (by simp)⟩
 ·exact⟨by simp,.inl ⟨by simp,rfl⟩⟩
theorem abd{k:List Nat}(ho:oct k)(hk:fH k=true):pk (kw k)=(k,0)∧∀x∈kw k,x≠32:=by
 obtain⟨h0,hf⟩:=afH hk
 have h1:=alQ ho h0
 have h2:kw k=(fk k).1:=if_pos h0
 rw[h2]
 refine⟨h1, ?_⟩
 rcases hf with ⟨hf,hp⟩|hf
 ·rw[hf]
  intro x hx e
  unfold kJ at hp
  have:=List.all_eq_true.1 hp x hx
  rw[e] at this
  exact absurd this (by decide)
 ·rw[hf]
  intro x hx
  rcases List.mem_cons.1 hx with rfl|hx
  ·omega
  ·exact RZ k ho x hx
theorem abe{co:List Nat}(ho:oct co)(h:co≠[]):byV (fb co)=co∧oH (fb co)=false:=by
 have hf:fb co=jh co:=if_neg (by intro h1;exact h (List.eq_nil_of_length_eq_zero h1))
 have hl:=lq co
 have hp:0<co.length:=by cases co with|nil=>exact absurd rfl h|cons a l=>simp
 obtain⟨r1,r2⟩:=rt co ho
 have h45:jh co≠[45]:=by intro e;rw[e] at hl;simp at hl;omega
 have h2:(jh co).length / 2=co.length:=by omega
 rw[hf]
 unfold byV oH
 rw[if_neg h45,if_neg h45,h2,r1,if_pos rfl,if_pos rfl,r2]
 refine⟨rfl, ?_⟩
 rw[hl,decide_eq_false (by intro e;rw[e] at hl;simp at hl;omega),decide_eq_false (by omega)]
 rfl
def beF:Nat→Nat→List Nat
 | 0,_=>[]
 | f+1,n=>if n=0 then [] else beF f (n / 256)++[n%256]
def beB(n:Nat):List Nat:=beF 8 n
theorem IJ(f n:Nat):(beF f n).length≤f:=by
 induction f generalizing n with
 | zero=>exact Nat.le_refl _
 | succ f ih =>
  unfold beF
  split
  ·exact Nat.zero_le _
  ·rw[List.length_append]
   have:=ih (n / 256)
   simp only[List.length_cons,List.length_nil]
   omega
theorem afI(f n:Nat):oct (beF f n):=by
 induction f generalizing n with
 | zero=>exact dV
 | succ f ih =>
  unfold beF
  split
  ·exact dV
  ·exact bM (ih _) (nK (Nat.mod_lt _ (by omega)))
theorem alT(f:Nat):beF f 0=[]:=by cases f<;>rfl
theorem alU(f n:Nat)(h:0<n):beF (f+1) n=beF f (n / 256)++[n%256]:=if_neg (by omega)
def aO(n:Nat):List Nat:=if n<248 then [n] else (247+(beB n).length)::beB n
theorem aS(n:Nat):(aO n).length≤9:=by
 unfold aO
 have:=IJ 8 n
 split<;>simp only[List.length_cons,List.length_nil,beB]<;>omega
theorem bH(n:Nat):oct (aO n):=by
 unfold aO
 have:=IJ 8 n
 split
 ·exact nK (by omega)
 ·exact pM (by unfold beB;omega) (afI _ _)
def kP(x:Int):List Nat:=(List.range 8).map fun j=>u8i (x.fdiv (2^(8*(7-j))))
theorem lV(x:Int):(kP x).length=8:=rfl
theorem abf(n:Int):u8i n<256:=by unfold u8i;omega
theorem Ag(x:Int):oct (kP x):=by
 intro b hb
 obtain⟨j,_,rfl⟩:=List.mem_map.1 hb
 exact abf _
def ku(s:List Nat):List Nat:=aO s.length++s
theorem nH(s:List Nat):(ku s).length≤9+s.length:=by
 have:=aS s.length
 unfold ku;rw[List.length_append];omega
theorem Ah{s:List Nat}(h:oct s):oct (ku s):=bM (bH _) h
def ckS:List Nat→Nat × Nat→Nat × Nat
 | [],p=>p
 | b::l,p=>ckS l ((p.1+b)%65521,(p.2+(p.1+b)%65521)%65521)
def ckN(l:List Nat):Nat:=(ckS l (1,0)).2*65536+(ckS l (1,0)).1
theorem afJ(l:List Nat)(p:Nat × Nat)(h:p.1<65521∧p.2<65521):(ckS l p).1<65521∧(ckS l p).2<65521:=by
 induction l generalizing p with
 | nil=>exact h
 | cons b l ih=>exact ih _ ⟨Nat.mod_lt _ (by omega),Nat.mod_lt _ (by omega)⟩
theorem abg(l:List Nat):ckN l<4294967296:=by
 have:=afJ l (1,0) ⟨by decide,by decide⟩
 unfold ckN;omega
def ckB(l:List Nat):List Nat:=[ckN l / 16777216,ckN l / 65536%256,ckN l / 256%256,ckN l%256]
theorem afK(l:List Nat):oct (ckB l):=by
 have:=abg l
 intro b hb
 simp only[ckB,List.mem_cons,List.not_mem_nil,or_false] at hb
 rcases hb with rfl|rfl|rfl|rfl<;>omega
def oI(tag:Nat)(body:List Nat):List Nat:=tag::aO body.length++body
def zh(tag:Nat)(body:List Nat):List Nat:=oI tag body++ckB (oI tag body)
theorem LJ(tag:Nat)(body:List Nat):(zh tag body).length≤body.length+14:=by
 have:=aS body.length
 unfold zh oI ckB
 simp only[List.length_append,List.length_cons,List.length_nil];omega
theorem LK{tag:Nat}{body:List Nat}(ht:tag<256)(h:oct body):oct (zh tag body):=bM (bM (pM ht (bH _)) h) (afK _)
theorem bvS(l:List Nat)(n:Nat):bv l++[V.c (.int .u8 (n:Int))]=bv (l++[n]):=by simp [bv]
theorem bvC(n:Nat)(l:List Nat):V.c (.int .u8 (n:Int))::bv l=bv (n::l):=rfl
theorem alV(n:Nat):Int.fdiv (n:Int) (2^min 8 IntKind.i64.bits)=((n / 256:Nat):Int):=by
 show Int.fdiv (n:Int) ((256:Nat):Int)=_
 rw[Int.fdiv_eq_ediv_of_nonneg _ (Int.natCast_nonneg _),Int.natCast_ediv]
abbrev ob(id:Nat)(l:List Nat):V := .sl (.own id 5) 1 (bv l)
theorem Ee(n:Nat)(hn:n<9223372036854775808):Gxx 121 [vi n] (ob 0 (aO n)):=by
 unfold aO
 by_cases h:n<248
 ·rw[if_pos h]
  have e1:IntKind.u8.wrap (n:Int)=((n:Nat):Int):=by rw[IntKind.wrap_u8];omega
  refine gI oW Tryz.func121 Tryz.results121 ?_
  exact wR @e1 trivial (ids [0])
 ·rw[if_neg h]
  have hb:beF 8 n=beB n:=rfl
  have hbl:=IJ 8 n
  rw[hb] at hbl
  generalize beB n=B at *
  refine gI oW Tryz.func121 Tryz.results121 ?_
  refine wS trivial trivial ?_
  refine aK (fun x:Nat × Nat × List Nat=>mkA [(0,vi (x.2.1:Nat)),(3,ob 0 x.2.2)] [] 1 (fun _ => .top)) (fun x=>x.2.1<256^x.1∧x.1≤8∧beF x.1 x.2.1++x.2.2=B∧x.2.1≤n) (fun x=>x.2.1) (8,n,[]) [] [] ?_ ⟨by simp only;omega,Nat.le_refl _,by simp only;rw[List.append_nil];exact hb,Nat.le_refl _⟩ ?_
  ·exact kE
   all_goals first|exact gK rfl|skip
  ·rintro⟨f,m,acc⟩ ⟨h1,h2,h3,h4⟩
   simp only at h1 h2 h3 h4
   have hml:m<18446744073709551616:=Nat.lt_of_lt_of_le h1 (Nat.pow_le_pow_right (by decide) h2)
   have hal:acc.length≤8:=by rw[←h3,List.length_append] at hbl;omega
   have hbv:=ax acc
   rcases Nat.eq_zero_or_pos m with rfl|hpos
   ·rw[alT,List.nil_append] at h3
    subst h3
    have e1:IntKind.u8.wrap (247+(acc.length:Int))=((247+acc.length:Nat):Int):=by rw[IntKind.wrap_u8];omega
    exact wR (aI @hbv @e1) trivial (ids [1])
   ·cases f with
    | zero=>simp at h1;omega
    | succ f =>
    rw[alU f m hpos,List.append_assoc] at h3
    have e1:IntKind.u8.wrap (m:Int)=((m%256:Nat):Int):=by rw[IntKind.wrap_u8];omega
    have e2:=alV m
    refine wS (aI @hbv (aI @e1 @e2)) trivial ?_
    refine bC (f,m / 256,m%256::acc) [1] [] ⟨?_,by omega,h3,by simp only;omega⟩ (by show m / 256<m;omega) ?_
    ·show m / 256<256^f
     rw[Nat.pow_succ] at h1
     exact Nat.div_lt_of_lt_mul (by omega)
    ·exact kE
theorem kW(n:Int)(hn:0≤n∧n<9223372036854775808):Gxx 121 [vi n] (ob 0 (aO n.toNat)):=by
 have:=Ee n.toNat (by omega)
 rwa [Int.toNat_of_nonneg hn.1] at this
theorem iW(n:Int)(hn:0≤n∧n<9223372036854775808):Gxx 121 [vi n] (fzb (aO n.toNat)):=(kW n hn).fzr rfl (aA _)
theorem Si(x:Int)(hx:0≤x∧x<18446744073709551616):Gxx 141 [vu x] (ob 0 (kP x)):=by
 refine gI oW Tryz.func141 Tryz.results141 ?_
 refine wS trivial trivial ?_
 refine aK (fun j:Nat=>mkA [(0,vu x),(3,ob 0 ((kP x).take j)),(4,vi (7-(j:Int)))] [] 1 (fun _ => .top)) (fun j=>j≤8) (fun j=>8-j) 0 [] [] ?_ (Nat.zero_le _) ?_
 ·exact kE
  all_goals first|exact gK rfl|skip
 ·intro j hj
  replace hj:j≤8:=hj
  have hbl:=ax ((kP x).take j)
  rw[List.length_take,lV,Nat.min_eq_left hj] at hbl
  rcases Nat.lt_or_ge j 8 with hlt|hge
  ·have e0:(8*(7-(j:Int))).toNat=8*(7-j):=by omega
   have em:min (8*(7-j)) IntKind.u64.bits=8*(7-j):=Nat.min_eq_left (show 8*(7-j)≤64 by omega)
   have e1:IntKind.u8.wrap (x.fdiv (2^min (8*(7-j)) IntKind.u64.bits))=((u8i (x.fdiv (2^(8*(7-j)))):Nat):Int):=by rw[em,afE]
   have hnx:bv ((kP x).take j)++[V.c (.int .u8 ((u8i (x.fdiv (2^(8*(7-j)))):Nat):Int))]=bv ((kP x).take (j+1)):=by
    rw[bvS,List.take_succ_eq_append_getElem (by rw[lV];exact hlt)]
    simp [kP]
   refine wS (aI @hbl (aI @e0 (aI @e1 @hnx))) trivial ?_
   exact bE (j+1) [0] [] hlt
  ·have:j=8:=by omega
   subst this
   rw[List.take_of_length_le (by rw[lV];exact Nat.le_refl _)]
   exact wR @hbl trivial (ids [0])
theorem Vz{s:List Nat}(ho:oct s):l7 (sB s)=bv s:=Gg ho
theorem afL(s:List Nat)(ho:oct s)(hl:s.length≤1000000):Gxx 164 [vs s] (ob 0 (ku s)):=by
 have h1:=Ee s.length (by omega)
 have hul:=aS s.length
 have hbl:=ax (aO s.length)
 have hsl:=ax s
 have ha:=dP (aO s.length) s
 have hby:=Vz ho
 unfold ku
 generalize aO s.length=u at *
 refine gI oW Tryz.func164 Tryz.results164 ?_
 exact wR (aI @hbl (aI @hsl (aI @hby @ha))) h1 (ids [0])
theorem abh(l:List Nat)(i:Nat)(h:i<l.length):l.drop i=l.getD i 0::l.drop (i+1):=by rw[List.drop_eq_getElem_cons h];simp [List.getD,h]
theorem ahj(a b:Nat):Int.tmod ((a:Int)+(b:Int)) 65521=(((a+b)%65521:Nat):Int):=rfl
theorem LM(l:List Nat)(ho:oct l)(hl:l.length≤10000000):Gxx 165 [fzb l] (.c (.int .u32 (ckN l:Nat))):=by
 have hbl:=ax l
 unfold ckN
 generalize hP:ckS l (1,0)=P
 refine gI oW Tryz.func165 Tryz.results165 ?_
 refine wS trivial trivial ?_
 refine aK (fun x:Nat × Nat × Nat=>mkA [(0,fzb l),(3,.c (.int .u32 (x.2.1:Nat))),(4,.c (.int .u32 (x.2.2:Nat))),(5,vi (x.1:Nat))] [] 0 (fun _ => .top)) (fun x=>x.1≤l.length∧x.2.1<65521∧x.2.2<65521∧ckS (l.drop x.1) (x.2.1,x.2.2)=P) (fun x=>l.length-x.1) (0,1,0) [] [] ?_ ⟨Nat.zero_le _,by decide,by decide,hP⟩ ?_
 ·exact kE
 ·rintro⟨i,u,v⟩ ⟨h1,h2,h3,h4⟩
  simp only at h1 h2 h3 h4
  rcases Nat.lt_or_ge i l.length with hlt|hge
  ·have hg:=HY l i hlt
   have hc:=gW ho i
   rw[abh l i hlt] at h4
   generalize l.getD i 0=c at *
   have e1:=ahj u c
   have e2:=ahj v ((u+c)%65521)
   have r1:(u+c)%65521<65521:=Nat.mod_lt _ (by omega)
   refine wS (aI @hbl (aI @hg (aI @e1 @e2))) trivial ?_
   refine bC (i+1,(u+c)%65521,(v+(u+c)%65521)%65521) [] [] ⟨hlt,Nat.mod_lt _ (by omega),Nat.mod_lt _ (by omega),h4⟩ (by show l.length-(i+1)<l.length-i;omega) ?_
   exact kE
  ·have:i=l.length:=by omega
   subst this
   rw[List.drop_length] at h4
   have h5:(u,v)=P:=h4
   subst h5
   exact wR @hbl trivial ah
theorem an2(n:Nat)(h:n<4294967296):IntKind.u8.wrap ((n:Int).fdiv (2^min 24 IntKind.u32.bits))=((n / 16777216:Nat):Int):=by
 have e:(n:Int).fdiv (2^min 24 IntKind.u32.bits)=((n / 16777216:Nat):Int):=by
  show Int.fdiv (n:Int) ((16777216:Nat):Int)=_
  rw[Int.fdiv_eq_ediv_of_nonneg _ (Int.natCast_nonneg _),Int.natCast_ediv]
 rw[e,IntKind.wrap_u8];omega
theorem an3(n:Nat):IntKind.u8.wrap ((n:Int).fdiv (2^min 16 IntKind.u32.bits))=((n / 65536%256:Nat):Int):=by
 have e:(n:Int).fdiv (2^min 16 IntKind.u32.bits)=((n / 65536:Nat):Int):=by
  show Int.fdiv (n:Int) ((65536:Nat):Int)=_
  rw[Int.fdiv_eq_ediv_of_nonneg _ (Int.natCast_nonneg _),Int.natCast_ediv]
 rw[e,IntKind.wrap_u8];omega
theorem ck8(n:Nat):IntKind.u8.wrap ((n:Int).fdiv (2^min 8 IntKind.u32.bits))=((n / 256%256:Nat):Int):=by
 have e:(n:Int).fdiv (2^min 8 IntKind.u32.bits)=((n / 256:Nat):Int):=by
  show Int.fdiv (n:Int) ((256:Nat):Int)=_
  rw[Int.fdiv_eq_ediv_of_nonneg _ (Int.natCast_nonneg _),Int.natCast_ediv]
 rw[e,IntKind.wrap_u8];omega
theorem ck0(n:Nat):IntKind.u8.wrap (n:Int)=((n%256:Nat):Int):=by rw[IntKind.wrap_u8];omega
theorem bv4(a b c d:Nat):[V.c (.int .u8 (a:Int)),V.c (.int .u8 (b:Int)),V.c (.int .u8 (c:Int)),V.c (.int .u8 (d:Int))]=bv [a,b,c,d]:=rfl
theorem qg(tag:Nat)(body:List Nat)(ht:tag<256)(ho:oct body)(hl:body.length≤1048576):Gxx 120 [.c (.int .u8 (tag:Nat)),fzb body] (.tup [fzb (zh tag body),vi 0]):=by
 have h1:=Ee body.length (by omega)
 have hul:=aS body.length
 have hbl:=ax (aO body.length)
 have hbb:=ax body
 have ho2:oct (oI tag body):=bM (pM ht (bH _)) ho
 have hfl:(oI tag body).length=1+(aO body.length).length+body.length:=by unfold oI;simp only[List.length_append,List.length_cons];omega
 have h2:=LM (oI tag body) ho2 (by omega)
 have hck:=abg (oI tag body)
 have e24:=an2 _ hck
 have e16:=an3 (ckN (oI tag body))
 have e8:=ck8 (ckN (oI tag body))
 have e0:=ck0 (ckN (oI tag body))
 have hF:V.c (.int .u8 (tag:Int))::(bv (aO body.length)++bv body)=bv (oI tag body):=by unfold oI;rw[List.cons_append,←bvC,←dP]
 have hE:zh tag body=oI tag body++[ckN (oI tag body) / 16777216,ckN (oI tag body) / 65536%256,ckN (oI tag body) / 256%256,ckN (oI tag body)%256]:=rfl
 rw[hE]
 refine Good.fzt (vs:=[ob 0 (oI tag body++[ckN (oI tag body) / 16777216,ckN (oI tag body) / 65536%256,ckN (oI tag body) / 256%256,ckN (oI tag body)%256]),vi 0]) ?_ rfl ⟨aA _,aA _,trivial⟩
 have hfbl:=ax (oI tag body)
 generalize oI tag body=F at *
 generalize ckN F=c at *
 refine gI oW Tryz.func120 Tryz.results120 ?_
 (repeat' first|refine wP (aI @hbl (aI @hbb (aI @hfbl (aI @hF (aI @e24 (aI @e16 (aI @e8 (aI @e0 (aI @List.cons_append.{0} @List.nil_append.{0}))))))))) (aI h1 h2) ?_|refine tS ?_ ?_<;>intro hc|fail)
 all_goals (refine rT [0] ?_;first|rfl|simp only[pgo,simprocAttr]|skip)
 all_goals (rw[bv4,dP];rfl)
def mP(b:Bool):List Nat:=if b=true then [1] else [0]
theorem rV(b:Bool):oct (mP b):=by cases b<;>exact nK (by decide)
theorem jU(b:Bool):(mP b).length=1:=by cases b<;>rfl
theorem afM(b:Bool):Gxx 163 [vb b] (ob 0 (mP b)):=by
 cases b
 ·refine gI oW Tryz.func163 Tryz.results163 ?_
  exact wR trivial trivial (ids [0])
 ·refine gI oW Tryz.func163 Tryz.results163 ?_
  exact wR trivial trivial (ids [0])
theorem vz(b:Bool):Gxx 163 [vb b] (fzb (mP b)):=(afM b).fzr rfl (aA _)
theorem LP(x:Int)(hx:0≤x∧x<18446744073709551616):Gxx 141 [vu x] (fzb (kP x)):=(Si x hx).fzr rfl (aA _)
theorem Ef(s:List Nat)(ho:oct s)(hl:s.length≤1000000):Gxx 164 [vs s] (fzb (ku s)):=(afL s ho hl).fzr rfl (aA _)
def qX(k z d s:Int):List (List Nat) :=
 if k=1 then [[116,97,108,108,121]] else if k=2 then [[99,111,117,110,116,109,105,110],ak d,ak z,jy s.toNat] else if k=3 then [[108,111,103,108,111,103],ak z,jy s.toNat]
 else if k=4 then [[116,111,112],ak z] else if k=5 then [[102,114,101,113,117,101,110,116],ak z] else [[114,97,110,107,115],ak z]
def lY(k:Int)(key:List Nat)(c n d:Int):List (List Nat) :=
 if k=1 then [[116,111,116,97,108]] else if k=2 then [[112,111,105,110,116],kw key] else if k=3 then [[114,101,103,105,115,116,101,114,115]] else if k=4 then [[100,105,115,116,105,110,99,116]]
 else if k=5 then [[116,111,112],ak c] else if k=6 then [[114,97,110,107],kw key] else [[113,117,97,110,116,105,108,101],ak n,ak d]
def opW(o:O):List (List Nat) :=
 if o.kind=1 then [99,114,101,97,116,101]::o.name::qX o.pk o.pz o.pd o.ps
 else if o.kind=2 then [100,114,111,112]::o.name::[]
 else if o.kind=3 then [114,101,110,97,109,101]::o.name::o.other::[]
 else if o.kind=4 then [108,105,115,116]::[]
 else if o.kind=5 then [113,117,101,114,121]::o.name::lY o.qk o.qkey o.qc o.qn o.qd
 else if o.kind=6 then qU o
 else if o.kind=7 then [109,101,114,103,101]::o.name::o.other::fb o.coins::[]
 else if o.kind=8 then [99,111,109,112,97,114,101]::o.name::o.other::fb o.coins::ak o.exp::ak o.src::[]
 else if o.kind=9 then [111,112,101,110]::o.names
 else if o.kind=10 then [114,101,97,100]::ak o.hnd::ak o.idx::lY o.qk o.qkey o.qc o.qn o.qd
 else if o.kind=11 then [99,108,111,115,101]::ak o.hnd::[]
 else if o.kind=12 then [99,117,114,115,111,114]::ak o.hnd::ak o.idx::[]
 else if o.kind=13 then [110,101,120,116]::ak o.cur::ak o.cnt::[]
 else if o.kind=14 then [101,110,100]::ak o.cur::[]
 else if o.kind=15 then [101,120,112,111,114,116]::ak o.hnd::ak o.idx::[]
 else if o.kind=16 then [105,109,112,111,114,116]::o.name::fb o.data::[]
 else [99,111,108,108,101,99,116]::[]
structure O.Ok (o:O):Prop where
 oct:o.Oct
 pz:Wt o.pz
 pd:Wt o.pd
 ps:0≤o.ps∧o.ps<18446744073709551616
 exp:Wt o.exp
 src:Wt o.src
 hnd:Wt o.hnd
 idx:Wt o.idx
 cur:Wt o.cur
 cnt:Wt o.cnt
 qc:Wt o.qc
 qn:Wt o.qn
 qd:Wt o.qd
 wts:∀x∈o.items,Wt x.2
 name:o.name.length≤1000
 other:o.other.length≤1000
 names:o.names.length≤1000
 nm:∀x∈o.names,x.length≤1000
 items:o.items.length≤1000
 coins:o.coins.length≤1000
 data:o.data.length≤1000000
theorem O.Ok.qkey{o:O}(ok:o.Ok):Pg.oct o.qkey:=ok.oct.2.2.2.2.2.1
theorem IK(u:Nat)(hu:u<18446744073709551616):(jy u).length≤16:=by
 rw[KU];exact (aat 16 u (by simpa using hu) (by omega)).2.1
theorem dS{n:Int}(h:Wt n):(ak n).length≤20:=vX n h.1 h.2
theorem abj(k z d s:Int):(qX k z d s).length≤4:=by unfold qX;(repeat' split)<;>simp
theorem LQ(k:Int)(key:List Nat)(c n d:Int):(lY k key c n d).length≤3:=by unfold lY;(repeat' split)<;>simp
theorem afN(k z d s:Int):qX k z d s≠[]:=by unfold qX;(repeat' split)<;>simp
theorem Sj(k:Int)(key:List Nat)(c n d:Int):lY k key c n d≠[]:=by unfold lY;(repeat' split)<;>simp
theorem LU(k z d s:Int)(hz:Wt z)(hd:Wt d)(hs:0≤s∧s<18446744073709551616):tot (qX k z d s)≤100:=by
 have h1:=dS hz
 have h2:=dS hd
 have h3:=IK s.toNat (by omega)
 unfold qX
 (repeat' split)<;>simp only[bz,dL,List.length_cons,List.length_nil]<;>omega
theorem LV(k:Int)(key:List Nat)(c n d:Int)(hc:Wt c)(hn:Wt n)(hd:Wt d):tot (lY k key c n d)≤100:=by
 have h1:=dS hc
 have h2:=dS hn
 have h3:=dS hd
 have h4:=zZ key
 unfold lY
 (repeat' split)<;>simp only[bz,dL,List.length_cons,List.length_nil]<;>omega
theorem abk{l:List (List Nat)}(h1:l.length≤1000)(h2:∀x∈l,x.length≤1000):tot l≤1001000:=by
 refine Nat.le_trans (FX h2) ?_
 have:=Nat.mul_le_mul_right 1001 h1
 omega
theorem abl{p:Prop}[Decidable p]{a b:List (List Nat)}{N:Nat}(h1:tot a≤N)(h2:tot b≤N):tot (if p then a else b)≤N:=by split<;>assumption
theorem dM(o:O)(ok:o.Ok):(jn (opW o)).length≤50000000∧(opW o).length≤50000000∧tot (opW o)≤50000000:=by
 have key:tot (opW o)≤50000000:=by
  have h1:=LU o.pk o.pz o.pd o.ps ok.pz ok.pd ok.ps
  have h2:=LV o.qk o.qkey o.qc o.qn o.qd ok.qc ok.qn ok.qd
  have h3:=uT o.coins
  have h4:=uT o.data
  have h5:=dS ok.exp
  have h6:=dS ok.src
  have h7:=dS ok.hnd
  have h8:=dS ok.idx
  have h9:=dS ok.cur
  have h10:=dS ok.cnt
  have h11:=ok.name
  have h12:=ok.other
  have h13:=abk ok.names ok.nm
  have h14:=yQ o.items ok.wts
  have h15:=ok.items
  have h16:=ok.coins
  have h17:=ok.data
  unfold opW qU
  (repeat' refine abl ?_ ?_)<;>(try simp only[yw,bz,dL,List.length_cons,List.length_nil])<;>omega
 exact⟨Nat.le_trans (xg _) key,Nat.le_trans (Q9 _) key,key⟩
theorem an4(o:O)(m:List Bool):∀n i,vE o m n i=0→∀j,i≤j→j<i+n→m.getD j false=true→chk o j=0:=by
 intro n
 induction n with
 | zero=>intro i _ j h1 h2;omega
 | succ n ih =>
  intro i h j h1 h2 hm
  unfold vE at h
  split at h
  ·rename_i h3;exact absurd h h3.2
  ·rename_i h3
   rcases Nat.eq_or_lt_of_le h1 with rfl|h4
   ·exact Classical.byContradiction fun h5=>h3 ⟨hm,h5⟩
   ·exact ih (i+1) h j h4 (by omega) hm
theorem an5(o:O)(m:List Bool):∀n i,zE o m n i=0→∀j,i≤j→j<i+n→m.getD j false=false→zro o j=true:=by
 intro n
 induction n with
 | zero=>intro i _ j h1 h2;omega
 | succ n ih =>
  intro i h j h1 h2 hm
  unfold zE at h
  split at h
  ·cases h
  ·rename_i h3
   rcases Nat.eq_or_lt_of_le h1 with rfl|h4
   ·cases hz:zro o i
    ·exact absurd ⟨hm,hz⟩ h3
    ·rfl
   ·exact ih (i+1) h j h4 (by omega) hm
theorem bW{o:O}(h:vop o=0):(1≤o.kind∧o.kind≤17)∧(∀j:Nat,j<14→(j:Int)∈bJ o.kind→chk o j=0)∧(∀j:Nat,j<14→(j:Int) ∉ bJ o.kind→zro o j=true):=by
 unfold vop at h
 split at h
 ·cases h
 ·rename_i h1
  split at h
  ·rename_i h2;exact absurd h h2
  ·rename_i h2
   have h2:=Classical.byContradiction h2
   refine⟨by omega,fun j hj hu => ?_,fun j hj hu => ?_⟩
   ·exact an4 o _ 14 0 h2 j (Nat.zero_le _) (by omega) (by rw[uJ _ _ hj];exact decide_eq_true hu)
   ·exact an5 o _ 14 0 h j (Nat.zero_le _) (by omega) (by rw[uJ _ _ hj];exact decide_eq_false hu)
theorem Eg{α:Type}(f:α→Int)(l:List α)(h:sU f l=0):∀x∈l,f x=0:=by
 induction l with
 | nil=>intro x hx;cases hx
 | cons y l ih =>
  unfold sU at h
  split at h
  ·rename_i h2;exact absurd h h2
  ·rename_i h2
   intro x hx
   rcases List.mem_cons.1 hx with rfl|hx
   ·exact Classical.byContradiction h2
   ·exact ih h x hx
theorem IL{o:O}(hk:o.kind=6)(h:vop o=0):(1≤o.items.length∧o.items.length≤64)∧∀x∈o.items,fH x.1=true∧1≤x.2∧x.2≤4294967295:=by
 have h1:itE o.items=0:=(bW h).2.1 4 (by omega) (by rw[hk];decide)
 unfold itE at h1
 split at h1
 ·cases h1
 ·rename_i h2
  refine⟨by omega,fun x hx => ?_⟩
  have h3:eF x.1 x.2=0:=Eg EU _ h1 x hx
  unfold eF at h3
  split at h3
  ·rename_i h4
   split at h3
   ·rename_i h5;exact⟨Ik h4,h5⟩
   ·cases h3
  ·cases h3
theorem Sl{o:O}(hk:o.kind=9)(h:vop o=0):(1≤o.names.length∧o.names.length≤16)∧∀x∈o.names,jW x=true:=by
 have h1:lsE o.names=0:=(bW h).2.1 2 (by omega) (by rw[hk];decide)
 unfold lsE at h1
 split at h1
 ·cases h1
 ·rename_i h2
  refine⟨by omega,fun x hx => ?_⟩
  have h3:nmE x=0:=Eg nmE _ h1 x hx
  unfold nmE at h3
  split at h3
  ·assumption
  ·cases h3
theorem pg{o:O}(hk:o.kind=1)(h:vop o=0):vp o.pk o.pz o.pd o.ps=0:=(bW h).2.1 3 (by omega) (by rw[hk];decide)
theorem gm{o:O}(hk:o.kind=5∨o.kind=10)(h:vop o=0):vq o.qk o.qkey o.qc o.qn o.qd=0:=(bW h).2.1 12 (by omega) (by rcases hk with hk|hk<;>rw[hk]<;>decide)
theorem Sm{k c n d:Int}{key:List Nat}(h:vq k key c n d=0):k=1∨k=2∨k=3∨k=4∨k=5∨k=6∨k=7:=by
 unfold vq at h
 split at h
 ·cases h
 ·omega
theorem abm:(sv kN)[1]?=some (.c (.string (sB [116,97,108,108,121]))):=rfl
theorem abn:(sv kN)[2]?=some (.c (.string (sB [99,111,117,110,116,109,105,110]))):=rfl
theorem abo:(sv kN)[3]?=some (.c (.string (sB [108,111,103,108,111,103]))):=rfl
theorem abp:(sv kN)[4]?=some (.c (.string (sB [116,111,112]))):=rfl
theorem abq:(sv kN)[5]?=some (.c (.string (sB [102,114,101,113,117,101,110,116]))):=rfl
theorem abr:(sv kN)[6]?=some (.c (.string (sB [114,97,110,107,115]))):=rfl
theorem abt(k z d s:Int)(h:vp k z d s=0)(hz:Wt z)(hd:Wt d)(hs:0≤s∧s<18446744073709551616):Gxx 42 [.agg [vi k,vi z,vi d,vu s]] (.sl (.own 0 9) 1 (sv (qX k z d s))):=by
 obtain⟨u,rfl⟩:∃u:Nat,s=u:=⟨s.toNat,by omega⟩
 have hu:u<18446744073709551616:=by omega
 have hkl:(sv kN).length=7:=rfl
 have f1:=tu u hu
 have f2:=jv z hz.1 hz.2
 have f3:=jv d hd.1 hd.2
 unfold qX
 rw[Int.toNat_natCast]
 rcases FY h with rfl|rfl|rfl|rfl|rfl|rfl
 ·refine gI oD Tryz.func42 Tryz.results42 ?_
  exact wRA (aI @abm @hkl) (aI lG (aI f1 (aI f2 f3))) (ids [6])
 ·refine gI oD Tryz.func42 Tryz.results42 ?_
  exact wRA (aI @abn @hkl) (aI lG (aI f1 (aI f2 f3))) (ids [6])
 ·refine gI oD Tryz.func42 Tryz.results42 ?_
  exact wRA (aI @abo @hkl) (aI lG (aI f1 (aI f2 f3))) (ids [6])
 ·refine gI oD Tryz.func42 Tryz.results42 ?_
  exact wRA (aI @abp @hkl) (aI lG (aI f1 (aI f2 f3))) (ids [6])
 ·refine gI oD Tryz.func42 Tryz.results42 ?_
  exact wRA (aI @abq @hkl) (aI lG (aI f1 (aI f2 f3))) (ids [6])
 ·refine gI oD Tryz.func42 Tryz.results42 ?_
  exact wRA (aI @abr @hkl) (aI lG (aI f1 (aI f2 f3))) (ids [6])
theorem ajF:(sv gu)[1]?=some (.c (.string (sB [116,111,116,97,108]))):=rfl
theorem ajG:(sv gu)[2]?=some (.c (.string (sB [112,111,105,110,116]))):=rfl
theorem ajH:(sv gu)[3]?=some (.c (.string (sB [114,101,103,105,115,116,101,114,115]))):=rfl
theorem ajI:(sv gu)[4]?=some (.c (.string (sB [100,105,115,116,105,110,99,116]))):=rfl
theorem ajJ:(sv gu)[5]?=some (.c (.string (sB [116,111,112]))):=rfl
theorem ajK:(sv gu)[6]?=some (.c (.string (sB [114,97,110,107]))):=rfl
theorem ajL:(sv gu)[7]?=some (.c (.string (sB [113,117,97,110,116,105,108,101]))):=rfl
theorem aoK(k:Int)(key:List Nat)(c n d:Int)(h:vq k key c n d=0)(ho:oct key)(hc:Wt c)(hn:Wt n)(hd:Wt d):Gxx 43 [.agg [vi k,vs key,vi c,vi n,vi d]] (.sl (.own 0 9) 1 (sv (lY k key c n d))):=by
 have hkl:(sv gu).length=8:=rfl
 have f1:=uS key ho
 have f2:=jv c hc.1 hc.2
 have f3:=jv n hn.1 hn.2
 have f4:=jv d hd.1 hd.2
 unfold lY
 rcases Sm h with rfl|rfl|rfl|rfl|rfl|rfl|rfl
 ·refine gI oD Tryz.func43 Tryz.results43 ?_
  exact wRA (aI @ajF @hkl) (aI iH (aI f1 (aI f2 (aI f3 f4)))) (ids [6])
 ·refine gI oD Tryz.func43 Tryz.results43 ?_
  exact wRA (aI @ajG @hkl) (aI iH (aI f1 (aI f2 (aI f3 f4)))) (ids [6])
 ·refine gI oD Tryz.func43 Tryz.results43 ?_
  exact wRA (aI @ajH @hkl) (aI iH (aI f1 (aI f2 (aI f3 f4)))) (ids [6])
 ·refine gI oD Tryz.func43 Tryz.results43 ?_
  exact wRA (aI @ajI @hkl) (aI iH (aI f1 (aI f2 (aI f3 f4)))) (ids [6])
 ·refine gI oD Tryz.func43 Tryz.results43 ?_
  exact wRA (aI @ajJ @hkl) (aI iH (aI f1 (aI f2 (aI f3 f4)))) (ids [6])
 ·refine gI oD Tryz.func43 Tryz.results43 ?_
  exact wRA (aI @ajK @hkl) (aI iH (aI f1 (aI f2 (aI f3 f4)))) (ids [6])
 ·refine gI oD Tryz.func43 Tryz.results43 ?_
  exact wRA (aI @ajL @hkl) (aI iH (aI f1 (aI f2 (aI f3 f4)))) (ids [6])
theorem Pz(f:List (List Nat)){t:List (List Nat)}(h:t≠[]):jn (f++t)=jn (f++[jn t]):=by
 cases f with
 | nil=>simp [jn,jt]
 | cons a f =>
  rw[Ii (by simp),Ii (by simp)]
  congr 1
  cases t with
  | nil=>exact absurd rfl h
  | cons x t=>rw[sQ,sQ,ZA,yl,List.append_nil]
theorem PD(l:List (List Nat)):(jn l).length≤tot l:=xg l
theorem afO:(⟨#[116,97,108,108,121]⟩:ByteArray)=sB [116,97,108,108,121]:=rfl
theorem PE:(⟨#[99,111,117,110,116,109,105,110]⟩:ByteArray)=sB [99,111,117,110,116,109,105,110]:=rfl
theorem abu:(⟨#[108,111,103,108,111,103]⟩:ByteArray)=sB [108,111,103,108,111,103]:=rfl
theorem ahk:(⟨#[116,111,112]⟩:ByteArray)=sB [116,111,112]:=rfl
theorem PG:(⟨#[102,114,101,113,117,101,110,116]⟩:ByteArray)=sB [102,114,101,113,117,101,110,116]:=rfl
theorem afP:(⟨#[114,97,110,107,115]⟩:ByteArray)=sB [114,97,110,107,115]:=rfl
theorem afQ:(⟨#[116,111,116,97,108]⟩:ByteArray)=sB [116,111,116,97,108]:=rfl
theorem afR:(⟨#[112,111,105,110,116]⟩:ByteArray)=sB [112,111,105,110,116]:=rfl
theorem LX:(⟨#[114,101,103,105,115,116,101,114,115]⟩:ByteArray)=sB [114,101,103,105,115,116,101,114,115]:=rfl
theorem PH:(⟨#[100,105,115,116,105,110,99,116]⟩:ByteArray)=sB [100,105,115,116,105,110,99,116]:=rfl
theorem ajM:(⟨#[114,97,110,107]⟩:ByteArray)=sB [114,97,110,107]:=rfl
theorem PI:(⟨#[113,117,97,110,116,105,108,101]⟩:ByteArray)=sB [113,117,97,110,116,105,108,101]:=rfl
theorem fdU(u k:Nat)(h:k≤64):Int.fdiv (u:Int) (2^k)=((u / 2^k:Nat):Int):=by
 have e:(2:Int)^k=((2^k:Nat):Int):=by simp
 rw[e,Int.fdiv_eq_ediv_of_nonneg _ (Int.natCast_nonneg _),Int.natCast_ediv]
theorem an6(n:Nat):u8i (n:Int)=n%256:=by unfold u8i;omega
theorem VA(u:Nat)(hu:u<18446744073709551616):jh (kP (u:Int))=o8 u 16:=by
 have e:kP (u:Int)=[u / 72057594037927936%256,u / 281474976710656%256,u / 1099511627776%256,u / 4294967296%256,u / 16777216%256,u / 65536%256,u / 256%256,u / 1%256]:=by
  have e1:kP (u:Int)=(List.range 8).map fun j=>u / 2^(8*(7-j))%256:=by
   unfold kP
   refine List.map_congr_left fun j hj => ?_
   have:=List.mem_range.1 hj
   rw[fdU u (8*(7-j)) (by omega),an6]
  rw[e1];rfl
 rw[e]
 simp only[jh,List.flatMap_cons,List.flatMap_nil,List.append_nil,List.cons_append,List.nil_append,o8,Nat.reducePow]
 have p:∀a b:Nat,a=b→hx a=hx b:=fun a b h=>by rw[h]
 (repeat' (first|rfl|refine List.cons_eq_cons.2 ⟨p _ _ (by omega), ?_⟩))
theorem alW(u:Nat):nd u=1∨16^(nd u-1)≤u:=by
 induction u using Nat.strongRecOn with
 | _ u ih =>
  rcases Nat.lt_or_ge u 16 with h|h
  ·exact .inl (DX h)
  ·right
   rw[Pj h]
   have h1:=ih (u / 16) (by omega)
   rw[Nat.add_sub_cancel]
   rcases h1 with h1|h1
   ·rw[h1];omega
   ·have h2:1≤nd (u / 16):=by rw[nd];split<;>omega
    have h3:nd (u / 16)=(nd (u / 16)-1)+1:=by omega
    rw[h3,Nat.pow_succ]
    have:=Nat.mul_le_mul_right 16 h1
    omega
theorem Gw(u i:Nat):o8 u (i+1)=hx (u / 16^i%16)::o8 u i:=rfl
theorem afS:∀d,d<16→(hx d=48↔d=0):=by decide
theorem afT(u:Nat)(hu:u<18446744073709551616):Gxx 88 [vu u] (vs (jy u)):=by
 have h1:=(Si (u:Int) (by omega)).fzr rfl (aA (fzb (kP (u:Int))))
 have ho:=Ag (u:Int)
 have h2:=O5 (kP (u:Int)) ho (by rw[lV];omega)
 have hcv:=fun s d K=>J9 (P:=Tryz.prog) s d 28 9 .fz (kP (u:Int)) K
 rw[VA u hu] at h2
 obtain⟨n1,n2,n3⟩:=aat 16 u (by simpa using hu) (by omega)
 have n4:=alW u
 generalize kP (u:Int)=w at *
 refine gI oW Tryz.func88 Tryz.results88 ?_
 refine wS (aI @rH @ai) (aI h1 h2) ?_
 refine aK (fun i:Nat=>mkA [(3,vs (o8 u i))] [] 0 (fun _ => .top)) (fun i=>nd u≤i∧i≤16) (fun i=>i) 16 [] [] ?_ ⟨n2,Nat.le_refl _⟩ ?_
 ·exact kE
 ·rintro i ⟨hi1,hi2⟩
  have hll:=DW u i
  have hlo:=KR u i
  rcases Nat.lt_or_ge (nd u) i with hlt|hge
  ·obtain⟨j,rfl⟩:∃j,i=j+1:=⟨i-1,by omega⟩
   have hz:u / 16^j%16=0:=by
    have:u<16^j:=Nat.lt_of_lt_of_le n3 (Nat.pow_le_pow_right (by decide) (by omega))
    rw[Nat.div_eq_of_lt this]
   have hc:(o8 u (j+1)).getD 0 0=48:=by rw[Gw,hz];rfl
   have hd:(o8 u (j+1)).drop 1=o8 u j:=rfl
   generalize o8 u (j+1)=L at *
   refine wS (aI @hc @hd) trivial ?_
   exact bE j [] [] ⟨by omega,by omega⟩
  ·have:i=nd u:=by omega
   subst this
   unfold jy
   rcases Nat.lt_or_ge 1 (nd u) with h1'|h1'
   ·obtain⟨j,hj⟩:∃j,nd u=j+1:=⟨nd u-1,by omega⟩
    rw[hj] at hll hlo n3 n4 ⊢
    have hle:16^j≤u:=by
     rcases n4 with h|h
     ·omega
     ·simpa using h
    have hlt:u / 16^j<16:=by
     rw[Nat.pow_succ] at n3
     exact Nat.div_lt_of_lt_mul n3
    have hpos:0<u / 16^j:=Nat.div_pos hle (Nat.pow_pos (by decide))
    have hm:u / 16^j%16=u / 16^j:=Nat.mod_eq_of_lt hlt
    have hc:(o8 u (j+1)).getD 0 0≠48:=by
     rw[Gw,hm]
     show hx (u / 16^j)≠48
     rw[Ne,afS _ hlt];omega
    generalize o8 u (j+1)=L at *
    exact wR trivial trivial ah
   ·generalize o8 u (nd u)=L at *
    exact wR trivial trivial ah
theorem PK(k:List Nat)(ho:oct k)(h:fH k=true):Gxx 53 [vs k] (vs (kw k)):=by
 have h1:=aiZ k ho
 unfold fkV at h1
 have e:(fk k).2=0:=by unfold fk;rw[h,if_neg (by simp)];split<;>rfl
 have e2:kw k=(fk k).1:=if_pos e
 rw[e] at h1
 rw[e2]
 refine gI oW Tryz.func53 Tryz.results53 ?_
 exact wR trivial h1 ah
theorem ajN(k z d s:Int)(h:vp k z d s=0)(hz:Wt z)(hd:Wt d)(hs:0≤s∧s<18446744073709551616):Gxx 49 [.agg [vi k,vi z,vi d,vu s]] (vs (jn (qX k z d s))):=by
 obtain⟨u,rfl⟩:∃u:Nat,s=u:=⟨s.toNat,by omega⟩
 have hu:u<18446744073709551616:=by omega
 have f1:=afT u hu
 have f2:=jX z hz
 have f3:=jX d hd
 have w1:=IK u hu
 have w2:=dS hz
 have w3:=dS hd
 unfold qX
 rw[Int.toNat_natCast]
 rcases FY h with rfl|rfl|rfl|rfl|rfl|rfl
 ·refine gI oW Tryz.func49 Tryz.results49 ?_
  exact wR @afO trivial ah
 ·have hw:=dR [[99,111,117,110,116,109,105,110],ak d,ak z,jy u] (by simp only[bz,dL,List.length_cons,List.length_nil];omega)
  refine gI oW Tryz.func49 Tryz.results49 ?_
  exact wR @PE (aI f1 (aI f2 (aI f3 hw))) ah
 ·have hw:=dR [[108,111,103,108,111,103],ak z,jy u] (by simp only[bz,dL,List.length_cons,List.length_nil];omega)
  refine gI oW Tryz.func49 Tryz.results49 ?_
  exact wR @abu (aI f1 (aI f2 hw)) ah
 ·have hw:=dR [[116,111,112],ak z] (by simp only[bz,dL,List.length_cons,List.length_nil];omega)
  refine gI oW Tryz.func49 Tryz.results49 ?_
  exact wR @ahk (aI f2 hw) ah
 ·have hw:=dR [[102,114,101,113,117,101,110,116],ak z] (by simp only[bz,dL,List.length_cons,List.length_nil];omega)
  refine gI oW Tryz.func49 Tryz.results49 ?_
  exact wR @PG (aI f2 hw) ah
 ·have hw:=dR [[114,97,110,107,115],ak z] (by simp only[bz,dL,List.length_cons,List.length_nil];omega)
  refine gI oW Tryz.func49 Tryz.results49 ?_
  exact wR @afP (aI f2 hw) ah
theorem Ai{k c n d:Int}{key:List Nat}(h:vq k key c n d=0)(hk:k=2∨k=6):fH key=true:=by
 unfold vq at h
 split at h
 ·cases h
 ·split at h
  ·cases h
  ·rename_i h2
   rw[kV]
   have:=fun h3=>h2 ⟨hk,h3⟩
   exact Classical.byContradiction this
theorem abv(k:Int)(key:List Nat)(c n d:Int)(h:vq k key c n d=0)(ho:oct key)(hc:Wt c)(hn:Wt n)(hd:Wt d):Gxx 50 [.agg [vi k,vs key,vi c,vi n,vi d]] (vs (jn (lY k key c n d))):=by
 have f2:=jX c hc
 have f3:=jX n hn
 have f4:=jX d hd
 have w1:=zZ key
 have w2:=dS hc
 have w3:=dS hn
 have w4:=dS hd
 have hkey:=Ai h
 unfold lY
 rcases Sm h with rfl|rfl|rfl|rfl|rfl|rfl|rfl
 ·refine gI oW Tryz.func50 Tryz.results50 ?_
  exact wR @afQ trivial ah
 ·have hw:=dR [[112,111,105,110,116],kw key] (by simp only[bz,dL,List.length_cons,List.length_nil];omega)
  have f1:=PK key ho (hkey (.inl rfl))
  refine gI oW Tryz.func50 Tryz.results50 ?_
  exact wR @afR (aI f1 hw) ah
 ·refine gI oW Tryz.func50 Tryz.results50 ?_
  exact wR @LX trivial ah
 ·refine gI oW Tryz.func50 Tryz.results50 ?_
  exact wR @PH trivial ah
 ·have hw:=dR [[116,111,112],ak c] (by simp only[bz,dL,List.length_cons,List.length_nil];omega)
  refine gI oW Tryz.func50 Tryz.results50 ?_
  exact wR @ahk (aI f2 hw) ah
 ·have hw:=dR [[114,97,110,107],kw key] (by simp only[bz,dL,List.length_cons,List.length_nil];omega)
  have f1:=PK key ho (hkey (.inr rfl))
  refine gI oW Tryz.func50 Tryz.results50 ?_
  exact wR @ajM (aI f1 hw) ah
 ·have hw:=dR [[113,117,97,110,116,105,108,101],ak n,ak d] (by simp only[bz,dL,List.length_cons,List.length_nil];omega)
  refine gI oW Tryz.func50 Tryz.results50 ?_
  exact wR @PI (aI f3 (aI f4 hw)) ah
def IM(c:Cm)(k:List Nat)(w:Int)(row:Nat):Cm :=
 ⟨c.d,c.z,c.s,c.c.set (yJ c.s c.z row k).toNat (tq (c.c.getD (yJ c.s c.z row k).toNat 0) w 4294967295).1,c.b||(tq (c.c.getD (yJ c.s c.z row k).toNat 0) w 4294967295).2⟩
def iY(c:Cm)(k:List Nat)(w:Int):Nat→Cm
 | 0=>c
 | n+1=>IM (iY c k w n) k w n
theorem abw(a b m:Int)(hm:0≤m):0≤(tq a b m).1∧(tq a b m).1≤m:=by
 have h1:=pW a
 have h2:=pW b
 have h3:=Rt hm
 unfold tq
 split
 ·simp only;omega
 ·simp only;omega
theorem LY(c:Cm)(k:List Nat)(w:Int)(n:Nat):(iY c k w n).d=c.d∧(iY c k w n).z=c.z∧(iY c k w n).s=c.s∧(iY c k w n).c.length=c.c.length:=by
 induction n with
 | zero=>exact⟨rfl,rfl,rfl,rfl⟩
 | succ n ih=>simp only[iY,IM,List.length_set];exact ih
theorem VB{a b:Int}{l:List Int}(h:mO a b l=true)(i:Nat)(n:Int)(hn:a≤n∧n≤b):mO a b (l.set i n)=true:=by
 unfold mO at *
 rw[List.all_eq_true] at *
 intro x hx
 rcases List.mem_or_eq_of_mem_set hx with h1|rfl
 ·exact h x h1
 ·exact decide_eq_true hn
theorem VC(c:Cm)(k:List Nat)(w:Int)(h:mO 0 4294967295 c.c=true)(n:Nat):mO 0 4294967295 (iY c k w n).c=true:=by
 induction n with
 | zero=>exact h
 | succ n ih=>exact VB ih _ _ (abw _ _ _ (by decide))
def wI(c:Cm)(k:List Nat)(w:Int):Cm × Int:=if vCm c≠0 then (Cm.o,vCm c) else if eF k w≠0 then (Cm.o,eF k w) else (iY c k w c.d.toNat,0)
theorem PL{c:Cm}(h:vCm c=0):(1≤c.d∧c.d≤8)∧(1≤c.z∧c.z≤64)∧(c.c.length:Int)=c.d*c.z∧mO 0 4294967295 c.c=true:=by
 unfold vCm at h
 split at h
 ·cases h
 ·rename_i h1
  split at h
  ·cases h
  ·rename_i h2
   split at h
   ·rename_i h3
    have h1:1≤c.d∧c.d≤8∧1≤c.z∧c.z≤64:=Classical.byContradiction h1
    exact⟨by omega,by omega,by omega,h3⟩
   ·cases h
theorem abx:wkV (.agg [vi 0,vi 0,vu 0,nls,vb false]) (.agg (cmF Cm.o)) := .inr ⟨_,_,rfl,rfl,⟨.inl rfl,.inl rfl,.inl rfl,oq _ _,.inl rfl,trivial⟩⟩
theorem zi(c:Cm)(k:List Nat)(w:Int)(ho:oct k):Gxx 173 [.agg (cmF c),.agg [vs k,vi w]] (.tup [.agg (cmF (wI c k w).1),vi (wI c k w).2]):=by
 have h1:=lg c
 have h2:=bZ k w
 unfold wI
 by_cases c1:vCm c=0
 ·rw[if_neg (by omega)]
  rw[c1] at h1
  by_cases c2:eF k w=0
  ·rw[if_neg (by omega)]
   rw[c2] at h2
   obtain⟨i1,i2,i3,i4⟩:=PL c1
   obtain⟨j1,j2⟩:=rJ c2
   have hm:=zY i1 i2
   have hd:=LY c k w
   have hin:=VC c k w i4
   have hcell:=fun (r:Nat) (hr:(r:Int)<c.d)=>F7 c.s c.z r c.d k i2.1 ⟨by omega,hr⟩
   have e0:iY c k w 0=c:=rfl
   have es:∀n,iY c k w (n+1)=IM (iY c k w n) k w n:=fun _=>rfl
   have hcl:=fun (n:Nat) (hn:(n:Int)≤7)=>afa (iY c k w n) n k ho (by omega) (by rw[(hd n).2.1];exact i2) j2
   have ec:cmF (iY c k w c.d.toNat)=[vi c.d,vi c.z,vu c.s,fzi (iY c k w c.d.toNat).c,vb (iY c k w c.d.toNat).b]:=by
    show [vi (iY c k w c.d.toNat).d,vi (iY c k w c.d.toNat).z,vu (iY c k w c.d.toNat).s,_,_]=_
    rw[(hd _).1,(hd _).2.1,(hd _).2.2.1]
   refine Good.fzt (vs:=[.agg [vi c.d,vi c.z,vu c.s,.sl (.own 0 3) 1 (iv (iY c k w c.d.toNat).c),vb (iY c k w c.d.toNat).b],vi 0]) ?_ rfl (by simp only;rw[ec];exact⟨aA _,aA _,trivial⟩)
   generalize hR:iY c k w=R at *
   obtain⟨d,z,s,l,b⟩:=c
   simp only at i1 i2 i3 i4 hd hcell e0 ⊢
   have hil:=bP l
   refine gI oW Tryz.func173 Tryz.results173 ?_
   refine wS @bP (aI h1 h2) ?_
   refine aK (fun r:Nat=>mkA [(2,.ref 0 0),(3,.ref 1 0),(4,.ref 2 0),(8,vi r)] [(0,(82,[vi d,vi z,vu s,.sl (.own 0 3) 1 (iv (R r).c),vb (R r).b])),(1,(64,[vs k,vi w])),(2,(82,[vi 0,vi 0,vu 0,nls,vb false]))] 3 (fun _ => .top)) (fun r=>r≤d.toNat) (fun r=>d.toNat-r) 0 [3] [0,1,2] ?_ (Nat.zero_le _) ?_
   ·(refine iy ?_ ?_ (kD _ _ _) (by decide) (by decide) (by decide) (by decide);(repeat' (first|exact trivial|refine gJ _ _ rfl rfl ?_ ?_));all_goals (try simp only[pgs,pgl,pgx,pgf,pgw,fQ,ig,fU,iq,dB,eY,fJ,pgn,simprocAttr]);all_goals (try (repeat' (first|apply aI)));all_goals (try (first|exact trivial|exact gB (by omega)|exact gq rfl|exact aW rfl rfl|exact je rfl)))
    all_goals first|(exact aW rfl (by rw[e0]))|(exact gq (by rw[e0]))|skip
   ·intro r hr
    replace hr:r≤d.toNat:=hr
    rcases Nat.lt_or_ge r d.toNat with hlt|hge
    ·have hrd:(r:Int)<d:=by omega
     have hq:=hcell r hrd
     have hk1:=hcl r (by omega)
     obtain⟨d1,d2,d3,d4⟩:=hd r
     have hRr:=es r
     have hinr:=hin r
     generalize hR1:R r=q at *
     obtain⟨qd,qz,qs,ql,qb⟩:=q
     simp only at d1 d2 d3 d4 hk1 hinr hRr
     subst d1
     subst d2
     subst d3
     rw[IM] at hRr
     simp only at hRr
     generalize hcc:yJ qs qz (r:Int) k=ci at *
     have hcn:ci.toNat<ql.length:=by omega
     have hg:=mg ql ci.toNat hcn
     have hgin:=F6 hinr hcn
     generalize hgg:ql.getD ci.toNat 0=g at *
     have hadd:=Io g w 4294967295 (by decide) (by unfold W64;omega) (by unfold W64;omega)
     generalize tq g w 4294967295=a at *
     obtain⟨a1,a2⟩:=a
     simp only at hadd hRr
     have hql:=bP ql
     cases qb
     ·cases a2
      ·refine wS (aI @bP (aI @hg @Il)) (aI hk1 hadd) ?_
       (refine bC (r+1) [0] [0,1,2] (hlt) (by first|omega|(simp only[List.length_cons];omega)) ?_;(refine iy ?_ ?_ (kD _ _ _) (by decide) (by decide) (by decide) (by decide);(repeat' (first|exact trivial|refine gJ _ _ rfl rfl ?_ ?_));all_goals (try simp only[pgs,pgl,pgx,pgf,pgw,fQ,ig,fU,iq,dB,eY,fJ,pgn,simprocAttr]);all_goals (try (repeat' (first|apply aI)));all_goals (try (first|exact trivial|exact gB (by omega)|exact gq rfl|exact aW rfl rfl|exact je rfl))))
       all_goals first|(exact aW rfl (by rw[hRr]))|(exact gq (by rw[hRr];rfl))|skip
      ·refine wS (aI @bP (aI @hg @Il)) (aI hk1 hadd) ?_
       (refine bC (r+1) [0] [0,1,2] (hlt) (by first|omega|(simp only[List.length_cons];omega)) ?_;(refine iy ?_ ?_ (kD _ _ _) (by decide) (by decide) (by decide) (by decide);(repeat' (first|exact trivial|refine gJ _ _ rfl rfl ?_ ?_));all_goals (try simp only[pgs,pgl,pgx,pgf,pgw,fQ,ig,fU,iq,dB,eY,fJ,pgn,simprocAttr]);all_goals (try (repeat' (first|apply aI)));all_goals (try (first|exact trivial|exact gB (by omega)|exact gq rfl|exact aW rfl rfl|exact je rfl))))
       all_goals first|(exact aW rfl (by rw[hRr]))|(exact gq (by rw[hRr];rfl))|skip
     ·refine wS (aI @bP (aI @hg @Il)) (aI hk1 hadd) ?_
      (refine bC (r+1) [0] [0,1,2] (hlt) (by first|omega|(simp only[List.length_cons];omega)) ?_;(refine iy ?_ ?_ (kD _ _ _) (by decide) (by decide) (by decide) (by decide);(repeat' (first|exact trivial|refine gJ _ _ rfl rfl ?_ ?_));all_goals (try simp only[pgs,pgl,pgx,pgf,pgw,fQ,ig,fU,iq,dB,eY,fJ,pgn,simprocAttr]);all_goals (try (repeat' (first|apply aI)));all_goals (try (first|exact trivial|exact gB (by omega)|exact gq rfl|exact aW rfl rfl|exact je rfl))))
      all_goals first|(exact aW rfl (by rw[hRr]))|(exact gq (by rw[hRr];rfl))|skip
    ·have:r=d.toNat:=by omega
     subst this
     exact wR @bP trivial (ids [0])
  ·rw[if_pos (by omega)]
   refine Good.fzt (vs:=[.agg [vi 0,vi 0,vu 0,nls,vb false],vi (eF k w)]) ?_ rfl ⟨abx,aA _,trivial⟩
   refine gI oW Tryz.func173 Tryz.results173 ?_
   exact wR trivial (aI h1 h2) ah
 ·rw[if_pos (by omega)]
  refine Good.fzt (vs:=[.agg [vi 0,vi 0,vu 0,nls,vb false],vi (vCm c)]) ?_ rfl ⟨abx,aA _,trivial⟩
  refine gI oW Tryz.func173 Tryz.results173 ?_
  exact wR trivial h1 ah
def vLl(l:Ll):Int:=if ¬(2≤l.p∧l.p≤8) then 5 else if l.r.length≠2^l.p.toNat then 18 else if mO 0 (65-l.p) l.r=true then 0 else 5
theorem Aj{p:Int}(hp:2≤p∧p≤8):IntKind.i64.wrap (1*2^min p.toNat IntKind.i64.bits)=((2^p.toNat:Nat):Int)∧2^p.toNat≤256∧1≤2^p.toNat:=by
 have:p=2∨p=3∨p=4∨p=5∨p=6∨p=7∨p=8:=by omega
 rcases this with rfl|rfl|rfl|rfl|rfl|rfl|rfl<;>exact⟨by decide,by decide,by decide⟩
theorem mG(x:Ll)(hx:x.r.length≤1000000):Gxx 157 [.agg (llF x)] (vi (vLl x)):=by
 obtain⟨p,s,l⟩:=x
 simp only at hx
 unfold vLl
 simp only
 have hil:=bP l
 by_cases c1:2≤p∧p≤8
 ·rw[if_neg (by simpa using c1)]
  have k1:=aU p 2 8 c1
  obtain⟨hw,hp1,hp2⟩:=Aj c1
  by_cases c2:l.length=2^p.toNat
  ·rw[if_neg (by omega)]
   rw[←c2] at hw hp1 hp2
   refine gI oW Tryz.func157 Tryz.results157 ?_
   refine wS (aI @hw @bP) k1 ?_
   refine aK (fun i:Nat=>mkA [(1,.ref 0 0),(3,vi i)] [(0,(84,llF ⟨p,s,l⟩))] 1 (fun _ => .top)) (fun i=>i≤l.length∧mO 0 (65-p) (l.take i)=true) (fun i=>l.length-i) 0 [] [0] ?_ ⟨Nat.zero_le _,rfl⟩ ?_
   ·exact kE
   ·rintro i ⟨hi,ha⟩
    rcases Nat.lt_or_ge i l.length with hlt|hge
    ·have hg:=mg l i hlt
     have hx:=F5 (a:=0) (b:=65-p) hlt
     have hn:=DT (a:=0) (b:=65-p) hlt
     rw[ha] at hn
     generalize l.getD i 0=n at *
     by_cases hc:0≤n∧n≤65-p
     ·have k3:=aU n 0 (65-p) hc
      refine wS (aI @bP @hg) k3 ?_
      exact bE (i+1) [] [0] ⟨hlt,by rw[hn,decide_eq_true hc];rfl⟩
     ·have k3:=fC n 0 (65-p)
      rw[jY hc] at k3
      rw[hx hc,if_neg (by simp)]
      exact wR (aI @bP @hg) k3 ah
    ·have:i=l.length:=by omega
     subst this
     rw[List.take_length] at ha
     rw[ha,if_pos rfl]
     exact wR @bP trivial ah
  ·rw[if_pos c2]
   generalize hq:2^p.toNat=q at *
   refine gI oW Tryz.func157 Tryz.results157 ?_
   exact wR (aI @hw @bP) k1 ah
 ·rw[if_pos c1]
  have k1:=fC p 2 8
  rw[jY c1] at k1
  refine gI oW Tryz.func157 Tryz.results157 ?_
  exact wR trivial k1 ah
def aby(h:Int)(j:Nat):Int:=bits .and .u64 (h.fdiv (2^min j IntKind.u64.bits)) 1
def Ak(h:Int):Nat→Int
 | 0=>1
 | j+1=>if aby h j=0 then 1+Ak h j else 1
theorem Eh(h:Int)(j:Nat):1≤Ak h j∧Ak h j≤j+1:=by
 induction j with
 | zero=>simp [Ak]
 | succ j ih=>unfold Ak;split<;>omega
def IP(p s:Int)(k:List Nat):Int:=(uM (qp s 256) k).fdiv (2^min (64-p).toNat IntKind.u64.bits)
def afW(p s:Int)(k:List Nat):Int:=Ak (uM (qp s 256) k) (64-p).toNat
theorem LZ(p s:Int)(k:List Nat)(hp:2≤p∧p≤8):0≤IP p s k∧IP p s k<((2^p.toNat:Nat):Int):=by
 have h:=vV (qp s 256) k
 unfold IP
 generalize uM (qp s 256) k=x at *
 have:p=2∨p=3∨p=4∨p=5∨p=6∨p=7∨p=8:=by omega
 have key:∀m:Nat,1≤m→∀n:Int,x<n*(m:Int)→0≤x.fdiv (m:Int)∧x.fdiv (m:Int)<n:=by
  intro m hm n hn
  rw[Int.fdiv_eq_ediv_of_nonneg _ (by omega)]
  exact⟨Int.ediv_nonneg h.1 (by omega),Int.ediv_lt_of_lt_mul (by omega) hn⟩
 rcases this with rfl|rfl|rfl|rfl|rfl|rfl|rfl
 ·exact key (2^62) (by decide) 4 (by omega)
 ·exact key (2^61) (by decide) 8 (by omega)
 ·exact key (2^60) (by decide) 16 (by omega)
 ·exact key (2^59) (by decide) 32 (by omega)
 ·exact key (2^58) (by decide) 64 (by omega)
 ·exact key (2^57) (by decide) 128 (by omega)
 ·exact key (2^56) (by decide) 256 (by omega)
theorem L6(p s:Int)(k:List Nat)(ho:oct k)(hp:2≤p∧p≤8)(hk:1≤k.length∧k.length≤32):Gxx 211 [vi p,vu s,vs k] (.tup [vi (IP p s k),vi (afW p s k),vi 0]):=by
 have k1:=aU p 2 8 hp
 have k3:=uH k
 rw[Ik hk] at k3
 have k4:=Ru (qp s 256) (DN _ _) k ho (by omega)
 have hh:=vV (qp s 256) k
 have hr:=LZ p s k hp
 have hp2:=(Aj hp).2.1
 have er:IP p s k=(uM (qp s 256) k).fdiv (2^min (64-p).toNat IntKind.u64.bits):=rfl
 unfold afW
 generalize IP p s k=rg at *
 generalize uM (qp s 256) k=h at *
 refine gI oW Tryz.func211 Tryz.results211 ?_
 (repeat' first|refine wP trivial (aI k1 (aI k3 k4)) ?_|refine cU (KN _) ?_|refine tS ?_ ?_<;>intro hc|fail)
 refine aK (fun j:Nat × Int=>mkA [(0,vi p),(9,vu h),(11,vi j.2),(12,vi ((j.1:Int)-1))] [] 0 (fun _ => .top)) (fun j=>(j.1:Int)≤64-p∧1≤j.2∧j.2+Ak h j.1-1=Ak h (64-p).toNat) (fun j=>j.1) ((64-p).toNat,1) [] [] ?_ ⟨by simp only;omega,by simp only;omega,by simp only;omega⟩ ?_
 ·exact kE
  all_goals exact gB (by omega)
 ·rintro⟨j,q⟩ ⟨hj,hq1,hq⟩
  simp only at hj hq1 hq
  have hrn:=Eh h j
  have hrf:=Eh h (64-p).toNat
  cases j with
  | zero =>
   have e0:Ak h 0=1:=rfl
   rw[e0] at hq
   have:q=Ak h (64-p).toNat:=by omega
   subst this
   (repeat' (first|(simp (disch:=first|exact dqz|fail) only[pgz,simprocAttr,←er])|((with_reducible first|apply di|apply bK|apply eX)<;>intro hc<;>(try simp only[hc])<;>(try simp only[pgd] at hc))|(with_reducible refine cK ?_)))
   exact rE []
  | succ j =>
   have hrj:=Eh h j
   have en:Ak h (j+1)=if aby h j=0 then 1+Ak h j else 1:=rfl
   have hix:(((j+1:Nat):Int)-1)=(j:Int):=by omega
   have hix2:((j:Int)+1-1)=(j:Int):=by omega
   have hw:IntKind.u64.wrap (j:Int)=(j:Int):=ag3 _ (by omega) (by omega)
   by_cases hb:aby h j=0
   ·rw[en,if_pos hb] at hq
    unfold aby at hb
    refine wS (aI @hix (aI @hix2 (aI @hw @hb))) trivial ?_
    refine bC (j,q+1) [] [] ⟨by simp only;omega,by simp only;omega,by simp only;omega⟩ (by show j<j+1;omega) ?_
    exact kE
   ·rw[en,if_neg hb] at hq
    have:q=Ak h (64-p).toNat:=by omega
    subst this
    unfold aby at hb
    (repeat' (first|(simp (disch:=first|exact dqz|fail) only[pgz,simprocAttr,hix,hix2,hw,hb,←er])|((with_reducible first|apply di|apply bK|apply eX)<;>intro hc<;>(try simp only[hc])<;>(try simp only[pgd] at hc))|(with_reducible refine cK ?_)))
    exact rE []
def wJ(l:Ll)(k:List Nat)(w:Int):Ll × Int:=if vLl l≠0 then (Ll.o,vLl l) else if eF k w≠0 then (Ll.o,eF k w) else (⟨l.p,l.s,l.r.set (IP l.p l.s k).toNat (max (l.r.getD (IP l.p l.s k).toNat 0) (afW l.p l.s k))⟩,0)
theorem PM{l:Ll}(h:vLl l=0):(2≤l.p∧l.p≤8)∧l.r.length=2^l.p.toNat∧mO 0 (65-l.p) l.r=true:=by
 unfold vLl at h
 split at h
 ·cases h
 ·rename_i h1
  split at h
  ·cases h
  ·rename_i h2
   split at h
   ·rename_i h3
    exact⟨Classical.byContradiction h1,Classical.byContradiction h2,h3⟩
   ·cases h
theorem abz:wkV (.agg [vi 0,vu 0,nls]) (.agg (llF Ll.o)) := .inr ⟨_,_,rfl,rfl,⟨.inl rfl,.inl rfl,oq _ _,trivial⟩⟩
theorem BB(x:Ll)(k:List Nat)(w:Int)(ho:oct k)(hx:x.r.length≤1000000):Gxx 174 [.agg (llF x),.agg [vs k,vi w]] (.tup [.agg (llF (wJ x k w).1),vi (wJ x k w).2]):=by
 have h1:=mG x hx
 have h2:=bZ k w
 unfold wJ
 by_cases c1:vLl x=0
 ·rw[if_neg (by omega)]
  rw[c1] at h1
  by_cases c2:eF k w=0
  ·rw[if_neg (by omega)]
   rw[c2] at h2
   obtain⟨i1,i2,i3⟩:=PM c1
   obtain⟨j1,j2⟩:=rJ c2
   have hr:=LZ x.p x.s k i1
   have hp:=(Aj i1).2
   have k1:=L6 x.p x.s k ho i1 j2
   obtain⟨p,s,l⟩:=x
   simp only at i1 i2 i3 hr hp k1 hx ⊢
   rw[←i2] at hr
   generalize IP p s k=rg at *
   generalize afW p s k=rk at *
   have hrn:rg.toNat<l.length:=by omega
   have hg:=mg l rg.toNat hrn
   generalize hgg:l.getD rg.toNat 0=g at *
   have hil:=bP l
   refine Good.fzt (vs:=[.agg [vi p,vu s,.sl (.own 0 3) 1 (iv (l.set rg.toNat (max g rk)))],vi 0]) ?_ rfl ⟨aA _,aA _,trivial⟩
   refine gI oW Tryz.func174 Tryz.results174 ?_
   exact wR (aI @bP (aI @hg @Il)) (aI h1 (aI h2 k1)) (ids [3])
  ·rw[if_pos (by omega)]
   refine Good.fzt (vs:=[.agg [vi 0,vu 0,nls],vi (eF k w)]) ?_ rfl ⟨abz,aA _,trivial⟩
   refine gI oW Tryz.func174 Tryz.results174 ?_
   exact wR trivial (aI h1 h2) ah
 ·rw[if_pos (by omega)]
  refine Good.fzt (vs:=[.agg [vi 0,vu 0,nls],vi (vLl x)]) ?_ rfl ⟨abz,aA _,trivial⟩
  refine gI oW Tryz.func174 Tryz.results174 ?_
  exact wR trivial h1 ah
end Go.Proofs.YtjiolbcdfgclaaaGreatDoor
