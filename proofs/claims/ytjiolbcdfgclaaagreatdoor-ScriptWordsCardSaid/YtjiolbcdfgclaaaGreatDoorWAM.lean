/-
  Texts of this claim, merged; own names are short.
-/
import Derived.Test.YtjiolbcdfgclaaaGreatDoorWAL
import Derived.Test.YtjiolbcdfgclaaaGreatDoorWAK
import Derived.Shelf.Strings.OnBuilder
import Derived.Shelf.LaysM
import Derived.Shelf.Strconv.Itoa3
import Derived.Shelf.Strings.Cut
import Derived.Shelf.Strings.Prefix
import Derived.Shelf.Strings.Split
import Derived.Test.YtjiolbcdfgclaaaGreatDoorProg
import Derived.Test.YtjiolbcdfgclaaaGreatDoorWAH
set_option linter.unusedVariables false
set_option linter.unusedSimpArgs false
set_option linter.unusedSectionVars false
set_option linter.defProp false
set_option maxRecDepth 100000
set_option maxHeartbeats 8000000
namespace Go.Proofs.YtjiolbcdfgclaaaGreatDoor
open Go Go.Pg
def W64(n:Int):Prop := -9223372036854775808≤n∧n≤9223372036854775807
def lK(n:Int):Int:=if n<0 then 0 else n
theorem Fb(n:Int):0≤lK n∧(lK n≤0∨lK n≤n):=by unfold lK;split<;>omega
theorem Rt{n:Int}(h:0≤n):lK n=n:=if_neg (by omega)
theorem anG(n:Int):max n 0=lK n:=by unfold lK;split<;>omega
theorem zX(n:Int):Gxx 238 [vi n] (vi (lK n)):=by
 refine gI oW Tryz.func238 Tryz.results238 ?_
 (repeat' first|refine wP (aI @mmT @anG) trivial ?_|refine tS ?_ ?_<;>intro hc|fail)
 all_goals (refine rT [] ?_;first|rfl|simp only[pgo,simprocAttr]|skip)
 all_goals first|(congr 2;unfold lK;split<;>omega)|skip
def tq(a b m:Int):Int × Bool:=if lK a > lK m∨lK b > lK m-lK a then (lK m,true) else (lK a+lK b,false)
theorem Io(a b m:Int)(hm:m≤4611686018427387904)(ha:W64 a)(hb:W64 b):Gxx 210 [vi a,vi b,vi m] (.tup [vi (tq a b m).1,vb (tq a b m).2]):=by
 have h1:=Fb a
 have h2:=Fb b
 have h3:=Fb m
 obtain⟨a0,a1⟩:=ha
 obtain⟨b0,b1⟩:=hb
 have e:tq a b m=if lK a > lK m∨lK b > lK m-lK a then (lK m,true) else (lK a+lK b,false):=rfl
 refine gI oW Tryz.func210 Tryz.results210 ?_
 by_cases c1:lK a > lK m
 ·rw[if_pos (.inl c1)] at e
  rw[e]
  (repeat' first|refine wP trivial trivial ?_|refine cU (zX _) ?_|refine tS ?_ ?_<;>intro hc|fail)
  exact rE []
 ·by_cases c2:lK b > lK m-lK a
  ·rw[if_pos (.inr c2)] at e
   rw[e]
   (repeat' first|refine wP trivial trivial ?_|refine cU (zX _) ?_|refine tS ?_ ?_<;>intro hc|fail)
   exact rE []
  ·rw[if_neg (by omega)] at e
   rw[e]
   (repeat' first|refine wP trivial trivial ?_|refine cU (zX _) ?_|refine tS ?_ ?_<;>intro hc|fail)
   exact rE []
theorem ai0(a b:Int)(ha:W64 a)(hb:W64 b):Gxx 212 [vi a,vi b] (.tup [vi (tq a b 1099511627776).1,vb (tq a b 1099511627776).2]):=by
 refine gI oW Tryz.func212 Tryz.results212 ?_
 (repeat' (first|(simp (disch:=first|exact dqz|fail) only[pgz,simprocAttr,Tryz.f212])|((with_reducible show gU _ _ _ _ _ _);first|refine aP _ (Io _ _ _ (by decide) ha hb) rfl rfl rfl rfl ?_)|((with_reducible first|apply di|apply bK|apply dw)<;>intro hc<;>(try simp only[hc])<;>(try simp only[pgd] at hc))|(with_reducible refine cK ?_)))
 all_goals exact rE []
def Ip(x:Int):Int :=
 bits .xor .u64 (IntKind.u64.wrap (bits .xor .u64 (IntKind.u64.wrap (bits .xor .u64 x (x.fdiv (2^min 30 IntKind.u64.bits))*13787848793156543929)) ((IntKind.u64.wrap (bits .xor .u64 x (x.fdiv (2^min 30 IntKind.u64.bits))*13787848793156543929)).fdiv (2^min 27 IntKind.u64.bits))*10723151780598845931))
  ((IntKind.u64.wrap (bits .xor .u64 (IntKind.u64.wrap (bits .xor .u64 x (x.fdiv (2^min 30 IntKind.u64.bits))*13787848793156543929)) ((IntKind.u64.wrap (bits .xor .u64 x (x.fdiv (2^min 30 IntKind.u64.bits))*13787848793156543929)).fdiv (2^min 27 IntKind.u64.bits))*10723151780598845931)).fdiv (2^min 31 IntKind.u64.bits))
theorem O7(x:Int):Gxx 255 [vu x] (vu (Ip x)):=by
 unfold Ip
 refine gI oW Tryz.func255 Tryz.results255 ?_
 exact wR trivial trivial ah
def Vf(s row:Int):Int:=Ip (bits .xor .u64 s (IntKind.u64.wrap ((row+1)*15074714826142052245)))
theorem ai1(s row:Int)(hr:0≤row∧row≤7):Gxx 254 [vu s,vi row] (vu (Vf s row)):=by
 refine gI oW Tryz.func254 Tryz.results254 ?_
 (repeat' first|refine wP trivial trivial ?_|refine cU (O7 _) ?_|refine tS ?_ ?_<;>intro hc|fail)
 exact rE []
def qp(s:Int)(n:Nat):List Int:=(List.range n).map fun (i:Nat)=>Ip (IntKind.u64.wrap (s+IntKind.u64.wrap (((i:Int)+1)*11400714819323198485)))
theorem DN(s:Int)(n:Nat):(qp s n).length=n:=by simp [qp]
theorem Vg(s:Int)(n:Nat):qp s n++[Ip (IntKind.u64.wrap (s+IntKind.u64.wrap (((n:Int)+1)*11400714819323198485)))]=qp s (n+1):=by simp [qp,List.range_succ]
theorem KN(s:Int):Gxx 240 [vu s] (fzu (qp s 256)):=by
 refine Good.fzr (r := .sl (.own 0 24) 1 (uv (qp s 256))) ?_ rfl (.inl (.inl rfl))
 refine gI oW Tryz.func240 Tryz.results240 ?_
 refine wS trivial trivial ?_
 refine aK (fun i:Nat=>mkA [(0,vu s),(3,.sl (.own 0 24) 1 (uv (qp s i))),(4,vu ((i:Int)+1))] [] 1 (fun _ => .top)) (fun i=>i≤256) (fun i=>256-i) 0 [] [] ?_ (Nat.zero_le _) ?_
 ·exact kE
  all_goals first|exact gK rfl|exact gB (by omega)|skip
 ·intro i hi
  replace hi:i≤256:=hi
  have hl:=DN s i
  have hul:=zT (qp s i)
  rcases Nat.lt_or_ge i 256 with hlt|hge
  ·have hn:=Vg s i
   (repeat' first|refine wP (aI @ae0 (aI @hn (aI @zT @hl))) trivial ?_|refine cU (O7 _) ?_|refine tS ?_ ?_<;>intro hc|fail)
   exact bE (i+1) [0] [] hlt
  ·have:i=256:=by omega
   subst this
   exact wR trivial trivial (ids [0])
def yH(t:List Int)(h:Int)(c i:Nat):Int:=IntKind.u64.wrap (bits .xor .u64 (bits .or .u64 (IntKind.u64.wrap (h*2^min 5 IntKind.u64.bits)) (h.fdiv (2^min 59 IntKind.u64.bits))) (t.getD ((c+i)%256) 0)*1099511628211)
def ZZ(t:List Int):Int→Nat→List Nat→Int
 | h,_,[]=>h
 | h,i,c::cs=>ZZ t (yH t h c i) (i+1) cs
def uM(t:List Int)(k:List Nat):Int:=Ip (ZZ t (t.getD (k.length%256) 0) 0 k)
theorem ae8(l:List Nat)(i:Nat)(h:i<l.length):l.drop i=l.getD i 0::l.drop (i+1):=by rw[List.drop_eq_getElem_cons h];simp [List.getD,h]
theorem alv(a b:Nat):Int.tmod ((a:Int)+(b:Int)) 256=(((a+b)%256:Nat):Int):=rfl
theorem ai2(a:Nat):Int.tmod (a:Int) 256=((a%256:Nat):Int):=rfl
theorem Ru(t:List Int)(ht:t.length=256)(k:List Nat)(ho:oct k)(hk:k.length≤1000000):Gxx 239 [fzu t,vs k] (.tup [vu (uM t k),vi 0]):=by
 have hul:=zT t
 have h0:=ZW t (k.length%256) (by omega)
 have hb0:k.length%256<256:=Nat.mod_lt _ (by omega)
 refine gI oW Tryz.func239 Tryz.results239 ?_
 refine wS (aI @zT (aI @ht (aI @ai2 @h0))) trivial ?_
 refine aK (fun x:Int × Nat=>mkA [(0,fzu t),(1,vs k),(6,vu x.1),(7,vi x.2)] [] 0 (fun _ => .top)) (fun x=>x.2≤k.length∧uM t k=Ip (ZZ t x.1 x.2 (k.drop x.2))) (fun x=>k.length-x.2) (t.getD (k.length%256) 0,0) [] [] ?_ ⟨Nat.zero_le _,rfl⟩ ?_
 ·exact kE
 ·rintro⟨h,i⟩ ⟨hi,he⟩
  simp only at hi he
  rcases Nat.lt_or_ge i k.length with hlt|hge
  ·rw[ae8 k i hlt] at he
   have hc:=gW ho i
   generalize hcc:k.getD i 0=c at he hc
   have h1:=ZW t ((c+i)%256) (by omega)
   have hb1:(c+i)%256<256:=Nat.mod_lt _ (by omega)
   refine wS (aI @zT (aI @ht (aI @hcc (aI @alv @h1)))) trivial ?_
   refine bC (yH t h c i,i+1) [] [] ⟨hlt,he⟩ (by show k.length-(i+1)<k.length-i;omega) ?_
   exact kE
  ·have:i=k.length:=by omega
   subst this
   rw[List.drop_length] at he
   rw[he]
   (repeat' first|refine wP trivial trivial ?_|refine cU (O7 _) ?_|refine tS ?_ ?_<;>intro hc|fail)
   exact rE []
def O8(n:Int)(i:Nat):Bool:=bits .and .i64 (n.fdiv (2^min i IntKind.i64.bits)) 1 == 1
def kZ(n:Int)(i:Nat):List Int:=((List.range i).filter (O8 n)).map fun (j:Nat)=>(j:Int)
theorem ai3(n:Int)(i:Nat)(h:O8 n i=true):kZ n i++[(i:Int)]=kZ n (i+1):=by simp [kZ,List.range_succ,List.filter_append,h]
theorem ai4(n:Int)(i:Nat)(h:O8 n i=false):kZ n i=kZ n (i+1):=by simp [kZ,List.range_succ,List.filter_append,h]
theorem KO(n:Int)(i:Nat):(kZ n i).length≤i:=by
 have:=List.length_filter_le (O8 n) (List.range i)
 simp only[kZ,List.length_map]
 simpa using this
theorem Vh(n:Int)(hn:0<n):Gxx 218 [vi n] (fzi (kZ n 63)):=by
 refine Good.fzr (r := .sl (.own 0 3) 1 (iv (kZ n 63))) ?_ rfl (.inl (.inl rfl))
 refine gI oW Tryz.func218 Tryz.results218 ?_
 refine wS trivial trivial ?_
 refine aK (fun i:Nat=>mkA [(0,vi n),(3,.sl (.own 0 3) 1 (iv (kZ n i))),(4,vi i)] [] 1 (fun _ => .top)) (fun i=>i≤63) (fun i=>63-i) 0 [] [] ?_ (Nat.zero_le _) ?_
 ·exact kE
  all_goals first|exact gK rfl|skip
 ·intro i hi
  replace hi:i≤63:=hi
  have hl:=KO n i
  have hil:=bP (kZ n i)
  rcases Nat.lt_or_ge i 63 with hlt|hge
  ·cases hp:O8 n i
   ·have hf:=ai4 n i hp
    unfold O8 at hp
    refine wS @hp trivial ?_
    (refine bL (i+1) [0] [] hlt ?_;refine kL ?_)
    all_goals exact aW rfl (by rw[hf])
   ·have hf:=ai3 n i hp
    unfold O8 at hp
    refine wS (aI @hp (aI @ae1 @hf)) trivial ?_
    exact bE (i+1) [0] [] hlt
  ·have:i=63:=by omega
   subst this
   exact wR trivial trivial (ids [0])
def Iq(co:List Nat)(i:Int):Int:=if i<0∨i.tdiv 8≥co.length then 0 else bits .and .i64 (((co.getD (i.tdiv 8).toNat 0:Nat):Int).fdiv (2^min (7-i.tmod 8).toNat IntKind.i64.bits)) 1
theorem Z4(co:List Nat)(hco:oct co)(i:Int)(hi:i≤9223372036854775807):Gxx 242 [fzb co,vi i] (vi (Iq co i)):=by
 unfold Iq
 have hbl:=ax co
 refine gI oW Tryz.func242 Tryz.results242 ?_
 by_cases c1:i<0
 ·rw[if_pos (.inl c1)]
  exact wR trivial trivial ah
 ·have e1:i.tdiv 8=i / 8:=Int.tdiv_eq_ediv_of_nonneg (by omega)
  have e2:i.tmod 8=i%8:=Int.tmod_eq_emod_of_nonneg (by omega)
  rw[e1,e2]
  by_cases c2:i / 8≥co.length
  ·rw[if_pos (.inr c2)]
   exact wR (aI @e1 @ax) trivial ah
  ·rw[if_neg (by omega)]
   have hg:=HY co (i / 8).toNat (by omega)
   have hc:=gW hco (i / 8).toNat
   exact wR (aI @e1 (aI @e2 (aI @ax @hg))) trivial ah
theorem aU(n a b:Int)(h:a≤n∧n≤b):Gxx 200 [vi n,vi a,vi b] (vb true):=by
 have:=fC n a b;rwa [uI h] at this
theorem FY{k z d s:Int}(h:vp k z d s=0):k=1∨k=2∨k=3∨k=4∨k=5∨k=6:=by unfold vp at h;repeat' split at h<;>omega
def vTl(t:Tl):Int:=if (0≤t.t∧t.t≤4294967295)∧(0≤t.i∧t.i≤4294967295)∧t.i≤t.t then 0 else 5
theorem nC(t:Tl):Gxx 155 [.agg (tlF t)] (vi (vTl t)):=by
 obtain⟨a,b,s⟩:=t
 skip
 refine gI oW Tryz.func155 Tryz.results155 ?_
 (repeat' first|refine wP trivial trivial ?_|refine cU (fC _ _ _) ?_|refine tX (aI @lS @mi) ?_ ?_<;>intro hc|fail)
 all_goals (refine rT [] ?_;first|rfl|simp only[pgo,simprocAttr]|skip)
 all_goals (unfold vTl;simp only;(repeat' split)<;>first|rfl|(exfalso;omega))
def Rw(a b:Tl):Tl:=⟨(tq a.t b.t 4294967295).1,(tq a.i b.i 4294967295).1,a.b||b.b||(tq a.t b.t 4294967295).2||(tq a.i b.i 4294967295).2⟩
theorem O9(a b:Tl)(h1:W64 a.t)(h2:W64 a.i)(h3:W64 b.t)(h4:W64 b.i):Gxx 208 [.agg (tlF a),.agg (tlF b)] (.agg (tlF (Rw a b))):=by
 obtain⟨a1,a2,a3⟩:=a
 obtain⟨b1,b2,b3⟩:=b
 simp only at h1 h2 h3 h4
 unfold Rw
 simp only
 have k1:=Io a1 b1 4294967295 (by decide) h1 h3
 have k2:=Io a2 b2 4294967295 (by decide) h2 h4
 generalize tq a1 b1 4294967295=x at *
 generalize tq a2 b2 4294967295=y at *
 obtain⟨x1,x2⟩:=x
 obtain⟨y1,y2⟩:=y
 simp only at k1 k2 ⊢
 refine gI oW Tryz.func208 Tryz.results208 ?_
 cases a3<;>cases b3<;>cases x2<;>cases y2
 all_goals
  (repeat' first|refine wP trivial (aI k1 k2) ?_|refine tX (aI @lS @mi) ?_ ?_<;>intro hc|fail)
  exact rE []
def FZ(t:Tl)(k:List Nat)(w:Int):Tl × Int:=if vTl t≠0 then (Tl.o,vTl t) else if eF k w≠0 then (Tl.o,eF k w) else (Rw t ⟨w,1,false⟩,0)
theorem Z5{t:Tl}(h:vTl t=0):W64 t.t∧W64 t.i:=by
 unfold vTl at h
 split at h
 ·unfold W64;omega
 ·cases h
theorem rJ{k:List Nat}{w:Int}(h:eF k w=0):(1≤w∧w≤4294967295)∧1≤k.length∧k.length≤32:=by
 unfold eF at h
 split at h
 ·split at h
  ·omega
  ·cases h
 ·cases h
theorem DR(t:Tl)(k:List Nat)(w:Int):Gxx 172 [.agg (tlF t),.agg [vs k,vi w]] (.tup [.agg (tlF (FZ t k w).1),vi (FZ t k w).2]):=by
 have h1:=nC t
 have h2:=bZ k w
 unfold FZ
 by_cases c1:vTl t=0
 ·rw[if_neg (by omega)]
  rw[c1] at h1
  by_cases c2:eF k w=0
  ·rw[if_neg (by omega)]
   rw[c2] at h2
   have h3:=O9 t ⟨w,1,false⟩ (Z5 c1).1 (Z5 c1).2 (show W64 w from by have:=rJ c2;unfold W64;omega) (show W64 1 from ⟨by decide,by decide⟩)
   generalize Rw t ⟨w,1,false⟩=r at *
   refine gI oW Tryz.func172 Tryz.results172 ?_
   (repeat' first|refine wP trivial (aI h1 (aI h2 h3)) ?_|refine tX (aI @lS @mi) ?_ ?_<;>intro hc|fail)
   exact rE []
  ·rw[if_pos (by omega)]
   refine gI oW Tryz.func172 Tryz.results172 ?_
   (repeat' first|refine wP trivial (aI h1 h2) ?_|refine tX (aI @lS @mi) ?_ ?_<;>intro hc|fail)
   exact rE []
 ·rw[if_pos (by omega)]
  refine gI oW Tryz.func172 Tryz.results172 ?_
  (repeat' first|refine wP trivial h1 ?_|refine tX (aI @lS @mi) ?_ ?_<;>intro hc|fail)
  exact rE []
theorem zY{d z:Int}(hd:1≤d∧d≤8)(hz:1≤z∧z≤64):0≤d*z∧d*z≤512:=by
 refine⟨Int.mul_nonneg (by omega) (by omega), ?_⟩
 have h1:d*z≤8*z:=Int.mul_le_mul_of_nonneg_right hd.2 (by omega)
 omega
def zq(a b:Int)(l:List Int):Bool:=l.all fun n=>decide (a≤n∧n≤b)
theorem DT{a b:Int}{l:List Int}{i:Nat}(h:i<l.length):zq a b (l.take (i+1))=(zq a b (l.take i)&&decide (a≤l.getD i 0∧l.getD i 0≤b)):=by
 unfold zq
 rw[List.take_succ_eq_append_getElem h,List.all_append]
 simp [List.getD,h]
theorem F5{a b:Int}{l:List Int}{i:Nat}(h:i<l.length)(hn:¬(a≤l.getD i 0∧l.getD i 0≤b)):zq a b l=false:=by
 unfold zq
 rw[←Bool.not_eq_true,List.all_eq_true]
 intro h'
 have:=h' l[i] (List.getElem_mem h)
 simp only[decide_eq_true_eq] at this
 apply hn
 simpa [List.getD,h] using this
theorem F6{a b:Int}{l:List Int}(h:zq a b l=true){i:Nat}(hi:i<l.length):a≤l.getD i 0∧l.getD i 0≤b:=by
 unfold zq at h
 have:=List.all_eq_true.1 h l[i] (List.getElem_mem hi)
 simpa [List.getD,hi] using this
def vCm(c:Cm):Int:=if ¬(1≤c.d∧c.d≤8∧1≤c.z∧c.z≤64) then 5 else if (c.c.length:Int)≠c.d*c.z then 18 else if zq 0 4294967295 c.c=true then 0 else 5
theorem lg(c:Cm):Gxx 156 [.agg (cmF c)] (vi (vCm c)):=by
 obtain⟨d,z,s,l,b⟩:=c
 unfold vCm
 simp only
 have hil:=bP l
 by_cases c1:1≤d∧d≤8∧1≤z∧z≤64
 ·rw[if_neg (by simpa using c1)]
  have k1:=aU d 1 8 (by omega)
  have k2:=aU z 1 64 (by omega)
  have hm:=zY ⟨c1.1,c1.2.1⟩ c1.2.2
  by_cases c2:(l.length:Int)=d*z
  ·rw[if_neg (by omega)]
   generalize hdz:d*z=dz at *
   refine gI oW Tryz.func156 Tryz.results156 ?_
   (repeat' first|refine wP (aI @hdz @bP) (aI k1 k2) ?_|refine tX (aI @lS @mi) ?_ ?_<;>intro hc|fail)
   refine aK (fun i:Nat=>mkA [(1,.ref 0 0),(3,vi i)] [(0,(82,cmF ⟨d,z,s,l,b⟩))] 1 (fun _ => .top)) (fun i=>i≤l.length∧zq 0 4294967295 (l.take i)=true) (fun i=>l.length-i) 0 [] [0] ?_ ⟨Nat.zero_le _,rfl⟩ ?_
   ·exact kE
   ·rintro i ⟨hi,ha⟩
    rcases Nat.lt_or_ge i l.length with hlt|hge
    ·have hg:=mg l i hlt
     have hx:=F5 (a:=0) (b:=4294967295) hlt
     have hn:=DT (a:=0) (b:=4294967295) hlt
     rw[ha] at hn
     generalize l.getD i 0=n at *
     by_cases hc:0≤n∧n≤4294967295
     ·have k3:=aU n 0 4294967295 hc
      (repeat' first|refine wP (aI @bP @hg) k3 ?_|refine tX (aI @lS @mi) ?_ ?_<;>intro hc|fail)
      exact bE (i+1) [] [0] ⟨hlt,by rw[hn,decide_eq_true hc];rfl⟩
     ·have k3:=fC n 0 4294967295
      rw[jY hc] at k3
      rw[hx hc,if_neg (by simp)]
      (repeat' first|refine wP (aI @bP @hg) k3 ?_|refine tX (aI @lS @mi) ?_ ?_<;>intro hc|fail)
      exact rE []
    ·have:i=l.length:=by omega
     subst this
     rw[List.take_length] at ha
     rw[ha,if_pos rfl]
     (repeat' first|refine wP @bP trivial ?_|refine tX (aI @lS @mi) ?_ ?_<;>intro hc|fail)
     exact rE []
  ·rw[if_pos c2]
   generalize hdz:d*z=dz at *
   refine gI oW Tryz.func156 Tryz.results156 ?_
   (repeat' first|refine wP (aI @hdz @bP) (aI k1 k2) ?_|refine tX (aI @lS @mi) ?_ ?_<;>intro hc|fail)
   exact rE []
 ·rw[if_pos c1]
  by_cases c2:1≤d∧d≤8
  ·have k1:=aU d 1 8 c2
   have k2:=fC z 1 64
   rw[jY (by omega)] at k2
   refine gI oW Tryz.func156 Tryz.results156 ?_
   (repeat' first|refine wP trivial (aI k1 k2) ?_|refine tX (aI @lS @mi) ?_ ?_<;>intro hc|fail)
   exact rE []
  ·have k1:=fC d 1 8
   rw[jY c2] at k1
   refine gI oW Tryz.func156 Tryz.results156 ?_
   (repeat' first|refine wP trivial k1 ?_|refine tX (aI @lS @mi) ?_ ?_<;>intro hc|fail)
   exact rE []
theorem ae9(n:Int):0≤IntKind.u64.wrap n∧IntKind.u64.wrap n<18446744073709551616:=by
 rw[IntKind.wrap_u64]
 omega
theorem Z7(x:Int):0≤Ip x∧Ip x<18446744073709551616:=ae9 _
theorem vV(t:List Int)(k:List Nat):0≤uM t k∧uM t k<18446744073709551616:=Z7 _
def Ph(s row z:Int)(k:List Nat):Int:=(uM (qp (Vf s row) 256) k).tmod z
theorem DU(s row z:Int)(k:List Nat)(hz:1≤z):0≤Ph s row z k∧Ph s row z k<z:=by
 unfold Ph
 have h:=(vV (qp (Vf s row) 256) k).1
 rw[Int.tmod_eq_emod_of_nonneg h]
 exact⟨Int.emod_nonneg _ (by omega),Int.emod_lt_of_pos _ (by omega)⟩
theorem Vj(s row z:Int)(k:List Nat)(ho:oct k)(hr:0≤row∧row≤7)(hz:1≤z∧z≤64)(hk:1≤k.length∧k.length≤32):Gxx 237 [vu s,vi row,vi z,vs k] (.tup [vi (Ph s row z k),vi 0]):=by
 have k1:=aU row 0 7 hr
 have k2:=aU z 1 64 hz
 have k3:=uH k
 rw[Ik hk] at k3
 have k4:=Ru (qp (Vf s row) 256) (DN _ _) k ho (by omega)
 have hc:=DU s row z k hz.1
 have hh:=vV (qp (Vf s row) 256) k
 unfold Ph at *
 generalize uM (qp (Vf s row) 256) k=h at *
 refine gI oW Tryz.func237 Tryz.results237 ?_
 (repeat' first|refine wP trivial (aI k1 (aI k2 (aI k3 (aI (ai1 s row hr) k4)))) ?_|refine cU (KN _) ?_|refine tX (aI @lS @mi) ?_ ?_<;>intro hc|fail)
 exact rE []
def yJ(s z row:Int)(k:List Nat):Int:=row*z+Ph s row z k
theorem F7(s z row d:Int)(k:List Nat)(hz:1≤z)(hr:0≤row∧row<d):0≤yJ s z row k∧yJ s z row k<d*z:=by
 have h:=DU s row z k hz
 unfold yJ
 have h1:0≤row*z:=Int.mul_nonneg hr.1 (by omega)
 have h2:(row+1)*z≤d*z:=Int.mul_le_mul_of_nonneg_right (by omega) (by omega)
 rw[Int.add_mul] at h2
 omega
theorem afa(c:Cm)(row:Int)(k:List Nat)(ho:oct k)(hr:0≤row∧row≤7)(hz:1≤c.z∧c.z≤64)(hk:1≤k.length∧k.length≤32):Gxx 209 [.agg (cmF c),vi row,vs k] (vi (yJ c.s c.z row k)):=by
 obtain⟨d,z,s,l,b⟩:=c
 simp only at hz ⊢
 have k1:=Vj s row z k ho hr hz hk
 have hc:=DU s row z k hz.1
 have hcell:=F7 s z row 8 k hz.1 (by omega)
 have hm:0≤row*z:=Int.mul_nonneg hr.1 (by omega)
 have hm2:row*z≤7*z:=Int.mul_le_mul_of_nonneg_right hr.2 (by omega)
 unfold yJ at *
 generalize Ph s row z k=q at *
 generalize hrz:row*z=rz at *
 refine gI oW Tryz.func209 Tryz.results209 ?_
 (repeat' first|refine wP @hrz k1 ?_|refine tX (aI @lS @mi) ?_ ?_<;>intro hc|fail)
 exact rE []
theorem fB(n a b:Int):Gxx 82 [vi n,vi a,vi b] (vb (inb n a b)):=by
 refine gI oW Tryz.func82 Tryz.results82 ?_
 by_cases h1:a≤n<;>by_cases h2:n≤b
 all_goals
  refine wS trivial trivial ?_
  (refine rT [] ?_;first|rfl|simp only[pgo,simprocAttr]|skip)
  try (rw[show inb n a b=_ from by first|exact uI ⟨h1,h2⟩|exact jY (by omega)])
theorem Z8{l:List Int}{i:Nat}{k:Int}(h:i<l.length)(hn:k ∉ l.take i)(he:l.getD i 0≠k):k ∉ l.take (i+1):=by
 rw[List.take_succ_eq_append_getElem h]
 intro hm
 rcases List.mem_append.1 hm with hm|hm
 ·exact hn hm
 ·rw[List.mem_singleton.1 hm] at he
  exact he (by simp [List.getD,h])
theorem nD(k:Int)(l:List Int)(hl:l.length≤1000):Gxx 136 [vi k,fzi l] (vb (decide (k∈l))):=by
 have hil:=bP l
 refine gI oW Tryz.func136 Tryz.results136 ?_
 refine wS trivial trivial ?_
 refine aK (fun i:Nat=>mkA [(0,vi k),(1,fzi l),(5,vi i)] [] 0 (fun _ => .top)) (fun i=>i≤l.length∧k ∉ l.take i) (fun i=>l.length-i) 0 [] [] ?_ ⟨Nat.zero_le _,by simp⟩ ?_
 ·exact kE
 ·rintro i ⟨hi,hn⟩
  rcases Nat.lt_or_ge i l.length with hlt|hge
  ·have hg:=mg l i hlt
   have hx:=Z8 hlt hn
   have hm:l.getD i 0∈l:=by rw[List.getD_eq_getElem?_getD,List.getElem?_eq_getElem hlt];exact List.getElem_mem hlt
   generalize l.getD i 0=x at *
   by_cases q:x=k
   ·subst q
    rw[decide_eq_true hm]
    exact wR (aI @hil @hg) trivial ah
   ·refine wS (aI @hil @hg) trivial ?_
    exact bE (i+1) [] [] ⟨hlt,hx q⟩
  ·have:i=l.length:=by omega
   subst this
   rw[List.take_length] at hn
   rw[decide_eq_false hn]
   exact wR @hil trivial ah
def u22(k:Int):List Bool:=[decide (k∈[1,2,3,5,6,7,8,16]),decide (k∈[3,7,8]),decide (k∈[9]),decide (k∈[1]),decide (k∈[6]),decide (k∈[6,7,8]),decide (k∈[8]),decide (k∈[10,11,12,15]),decide (k∈[10,12,15]),decide (k∈[13,14]),decide (k∈[13]),decide (k∈[5,10]),decide (k∈[16])]
theorem rM(b1 b2 b3 b4 b5 b6 b7 b8 b9 b10 b11 b12 b13:Bool):((xC Tryz.prog 140).bind fun ps=>Option.map V.agg (QR ps[0]? (some [vb b1]) ps [vb false,vb false,vb false,vb false,vb false,vb false,vb false,vb false,vb false,vb false,vb false,vb false,vb false] [(1,vb b2),(2,vb b3),(3,vb b4),(4,vb b5),(5,vb b6),(6,vb b7),(7,vb b8),(8,vb b9),(9,vb b10),(10,vb b11),(11,vb b12),(12,vb b13)]))=some (.agg [vb b1,vb b2,vb b3,vb b4,vb b5,vb b6,vb b7,vb b8,vb b9,vb b10,vb b11,vb b12,vb b13]):=by kernel_rfl
theorem iC(k:Int):Gxx 83 [vi k] (.agg (bov (u22 k))):=by
 have i1:=nD k [1,2,3,5,6,7,8,16] (by decide)
 have i2:=nD k [3,7,8] (by decide)
 have i3:=nD k [9] (by decide)
 have i4:=nD k [1] (by decide)
 have i5:=nD k [6] (by decide)
 have i6:=nD k [6,7,8] (by decide)
 have i7:=nD k [8] (by decide)
 have i8:=nD k [10,11,12,15] (by decide)
 have i9:=nD k [10,12,15] (by decide)
 have i10:=nD k [13,14] (by decide)
 have i11:=nD k [13] (by decide)
 have i12:=nD k [5,10] (by decide)
 have i13:=nD k [16] (by decide)
 show Pg.Good _ _ _ (.agg (bov [decide (k∈[1,2,3,5,6,7,8,16]),decide (k∈[3,7,8]),decide (k∈[9]),decide (k∈[1]),decide (k∈[6]),decide (k∈[6,7,8]),decide (k∈[8]),decide (k∈[10,11,12,15]),decide (k∈[10,12,15]),decide (k∈[13,14]),decide (k∈[13]),decide (k∈[5,10]),decide (k∈[16])]))
 generalize decide (k∈[1,2,3,5,6,7,8,16])=b1 at *
 generalize decide (k∈[3,7,8])=b2 at *
 generalize decide (k∈[9])=b3 at *
 generalize decide (k∈[1])=b4 at *
 generalize decide (k∈[6])=b5 at *
 generalize decide (k∈[6,7,8])=b6 at *
 generalize decide (k∈[8])=b7 at *
 generalize decide (k∈[10,11,12,15])=b8 at *
 generalize decide (k∈[10,12,15])=b9 at *
 generalize decide (k∈[13,14])=b10 at *
 generalize decide (k∈[13])=b11 at *
 generalize decide (k∈[5,10])=b12 at *
 generalize decide (k∈[16])=b13 at *
 refine gI oW Tryz.func83 Tryz.results83 ?_
 refine wS trivial i1 ?_
 refine wS @rM i2 ?_
 refine wS @rM i3 ?_
 refine wS @rM i4 ?_
 refine wS @rM i5 ?_
 refine wS @rM i6 ?_
 refine wS @rM i7 ?_
 refine wS @rM i8 ?_
 refine wS @rM i9 ?_
 refine wS @rM i10 ?_
 refine wS @rM i11 ?_
 refine wS @rM i12 ?_
 refine wS @rM i13 ?_
 exact wR @rM trivial ah
theorem Z9(o:O):Gxx 85 [.agg (opF o),vb false,vb false] (vi 0):=by
 refine gI oW Tryz.func85 Tryz.results85 ?_
 exact wR trivial trivial ah
theorem aab(o:O)(ho:o.Oct)(hn:o.names.length≤1000000):Gxx 85 [.agg (opF o),vb true,vb false] (vi (lsE o.names)):=by
 have hl:=au o.names
 have hb:=fB (o.names.length:Int) 1 16
 have hol:=ho.2.2.1
 unfold lsE
 by_cases hs:o.names.length<1∨16<o.names.length
 ·rw[jY (by omega)] at hb
  rw[if_pos hs]
  refine gI oW Tryz.func85 Tryz.results85 ?_
  exact wR @hl hb ah
 ·rw[uI (by omega)] at hb
  rw[if_neg hs]
  refine gI oW Tryz.func85 Tryz.results85 ?_
  refine wS @hl hb ?_
  refine aK (fun i:Nat=>mkA [(2,vb false),(3,.ref 0 0),(7,vi i)] [(0,(32,opF o))] 1 (fun _ => .top)) (fun i=>i≤o.names.length∧sU nmE (o.names.take i)=0) (fun i=>o.names.length-i) 0 [] [0] ?_ ⟨Nat.zero_le _,rfl⟩ ?_
  ·exact kE
  ·rintro i ⟨hi,he⟩
   rcases Nat.lt_or_ge i o.names.length with hlt|hge
   ·have hg:=iK o.names i hlt
    have hx:=getD_some o.names i [] hlt
    have hnm:=oz (o.names.getD i []) (hol _ (by rw[List.getD_eq_getElem?_getD,List.getElem?_eq_getElem hlt];exact List.getElem_mem hlt))
    have h1:=BN nmE o.names i _ hx he
    have h2:=vT nmE o.names i _ hx he
    generalize o.names.getD i []=x at hg hnm h1 h2
    have hnv:nmE x=if jW x=true then 0 else 6:=rfl
    cases hq:jW x
    ·rw[hq] at hnm hnv
     rw[h1 (by rw[hnv];simp),hnv,if_neg (by simp)]
     exact wR (aI @hg @hl) hnm ah
    ·rw[hq] at hnm hnv
     refine wS (aI @hg @hl) hnm ?_
     exact bE (i+1) [] [0] ⟨hlt,h2 (by rw[hnv];rfl)⟩
   ·have:i=o.names.length:=by omega
    subst this
    rw[List.take_length] at he
    rw[he]
    exact wR @hl trivial ah
theorem aac(o:O)(hn:o.items.length≤1000000):Gxx 85 [.agg (opF o),vb false,vb true] (vi (itE o.items)):=by
 have hl:=aB o.items
 have hb:=fB (o.items.length:Int) 1 64
 unfold itE
 by_cases hs:o.items.length<1∨64<o.items.length
 ·rw[jY (by omega)] at hb
  rw[if_pos hs]
  refine gI oW Tryz.func85 Tryz.results85 ?_
  exact wR @hl hb ah
 ·rw[uI (by omega)] at hb
  rw[if_neg hs]
  refine gI oW Tryz.func85 Tryz.results85 ?_
  refine wS @hl hb ?_
  refine aK (fun i:Nat=>mkA [(3,.ref 0 0),(8,vi i)] [(0,(32,opF o))] 1 (fun _ => .top)) (fun i=>i≤o.items.length∧sU EU (o.items.take i)=0) (fun i=>o.items.length-i) 0 [] [0] ?_ ⟨Nat.zero_le _,rfl⟩ ?_
  ·exact kE
  ·rintro i ⟨hi,he⟩
   rcases Nat.lt_or_ge i o.items.length with hlt|hge
   ·have hg:=sS o.items i hlt
    have hx:=getD_some o.items i ([],0) hlt
    have h1:=BN EU o.items i _ hx he
    have h2:=vT EU o.items i _ hx he
    generalize o.items.getD i ([],0)=x at hg h1 h2
    obtain⟨k,n⟩:=x
    have hv:=bZ k n
    have e:EU (k,n)=eF k n:=rfl
    rw[e] at h1 h2
    by_cases h0:eF k n=0
    ·refine wS (aI @hg (aI @hl @h0)) hv ?_
     exact bE (i+1) [] [0] ⟨hlt,h2 h0⟩
    ·rw[h1 h0]
     exact wR (aI @hg (aI @hl @h0)) hv ah
   ·have:i=o.items.length:=by omega
    subst this
    rw[List.take_length] at he
    rw[he]
    exact wR @hl trivial ah
theorem F8(k:Int)(key:List Nat)(c n d:Int):Gxx 87 [.agg [vi k,vs key,vi c,vi n,vi d]] (vi (vq k key c n d)):=by
 refine gI oW Tryz.func87 Tryz.results87 ?_
 skip
 (repeat' first|refine wP @kG trivial ?_|refine cU (uH _) ?_|refine cU (DF _ _ _) ?_|refine tX (aI @kV (aI @yx (aI @lS @mi))) ?_ ?_<;>intro hc|fail)
 all_goals (refine rT [] ?_;first|rfl|simp only[pgo,simprocAttr]|skip)
 (all_goals (unfold vq;(repeat' split)<;>first|rfl|(exfalso;omega)))
theorem ai5(o:O)(m:List Bool):∀n i,zE o m n i=0∨zE o m n i=18:=by
 intro n
 induction n with
 | zero=>intro i;exact .inl rfl
 | succ n ih=>intro i;unfold zE;split;exact .inr rfl;exact ih (i+1)
theorem anH(o:O)(m:List Bool):∀n i,zE o m n i=0→∀j,i≤j→j<i+n→m.getD j false=false→zro o j=true:=by
 intro n
 induction n with
 | zero=>intro i _ j h1 h2;omega
 | succ n ih =>
  intro i h j h1 h2 hm
  unfold zE at h
  split at h
  ·cases h
  ·rename_i h3
   rcases Nat.eq_or_lt_of_le h1 with rfl|h4
   ·cases hz:zro o i
    ·exact absurd ⟨hm,hz⟩ h3
    ·rfl
   ·exact ih (i+1) h j h4 (by omega) hm
theorem ai6{o:O}{m:List Bool}(h:¬∀j,j<14→m.getD j false=false→zro o j=true):zE o m 14 0=18:=by
 rcases ai5 o m 14 0 with h1|h1
 ·exact absurd (fun j hj hm=>anH o m 14 0 h1 j (Nat.zero_le _) (by omega) hm) h
 ·exact h1
theorem afb{o:O}{m:List Bool}:∀n i,(∀j,i≤j→j<i+n→m.getD j false=false→zro o j=true)→zE o m n i=0:=by
 intro n
 induction n with
 | zero=>intro i _;rfl
 | succ n ih =>
  intro i h
  unfold zE
  rw[if_neg (fun h1=>by have:=h i (Nat.le_refl _) (by omega) h1.1;rw[h1.2] at this;cases this)]
  exact ih (i+1) fun j h1 h2 hm=>h j (by omega) (by omega) hm
theorem alx{o:O}{m:List Bool}{j:Nat}(hj:m.getD j false=true)(hc:chk o j≠0):∀n i,i≤j→j<i+n→(∀l,i≤l→l<j→m.getD l false=true→chk o l=0)→vE o m n i=chk o j:=by
 intro n
 induction n with
 | zero=>intro i h1 h2;omega
 | succ n ih =>
  intro i h1 h2 h
  unfold vE
  rcases Nat.eq_or_lt_of_le h1 with rfl|h4
  ·rw[if_pos ⟨hj,hc⟩]
  ·rw[if_neg (fun h5=>h5.2 (h i (Nat.le_refl _) h4 h5.1))]
   exact ih (i+1) h4 (by omega) fun l h6 h7 hm=>h l (by omega) h7 hm
theorem Rx{o:O}{m:List Bool}:∀n i,(∀l,i≤l→l<i+n→m.getD l false=true→chk o l=0)→vE o m n i=0:=by
 intro n
 induction n with
 | zero=>intro i _;rfl
 | succ n ih =>
  intro i h
  unfold vE
  rw[if_neg (fun h5=>h5.2 (h i (Nat.le_refl _) (by omega) h5.1))]
  exact ih (i+1) fun l h6 h7 hm=>h l (by omega) (by omega) hm
theorem afc{o:O}(j:Nat)(hk:¬(o.kind<1∨17<o.kind))(hj:(dI (bJ o.kind)).getD j false=true)(h14:j<14)(hc:chk o j≠0)(h:∀l,l<j→(dI (bJ o.kind)).getD l false=true→chk o l=0):vop o=chk o j:=by
 have e:=alx hj hc 14 0 (Nat.zero_le _) (by omega) fun l _ h7 hm=>h l h7 hm
 unfold vop
 rw[if_neg hk,e,if_pos hc]
theorem ai7{o:O}(hk:¬(o.kind<1∨17<o.kind))(h:∀l,l<14→(dI (bJ o.kind)).getD l false=true→chk o l=0)(hz:¬∀j,j<14→(dI (bJ o.kind)).getD j false=false→zro o j=true):vop o=18:=by
 have e:=Rx (o:=o) (m:=dI (bJ o.kind)) 14 0 fun l _ h7 hm=>h l (by omega) hm
 unfold vop
 rw[if_neg hk,e,if_neg (by simp),ai6 hz]
theorem aly{o:O}(hk:¬(o.kind<1∨17<o.kind))(h:∀l,l<14→(dI (bJ o.kind)).getD l false=true→chk o l=0)(hz:∀j,j<14→(dI (bJ o.kind)).getD j false=false→zro o j=true):vop o=0:=by
 have e:=Rx (o:=o) (m:=dI (bJ o.kind)) 14 0 fun l _ h7 hm=>h l (by omega) hm
 unfold vop
 rw[if_neg hk,e,if_neg (by simp)]
 exact afb 14 0 fun j _ h7 hm=>hz j (by omega) hm
theorem KP(o:O)(hk:o.kind<1∨17<o.kind):Gxx 47 [.agg (opF o)] (vi (vop o)):=by
 have h1:=fB o.kind 1 17
 rw[jY (by omega)] at h1
 rw[vop,if_pos hk]
 refine gI oW Tryz.func47 Tryz.results47 ?_
 (repeat' first|refine wP trivial h1 ?_|refine tX (aI @kV (aI @yx (aI @lS @mi))) ?_ ?_<;>intro hc|fail)
 exact rE []
end Go.Proofs.YtjiolbcdfgclaaaGreatDoor
namespace Go.Proofs
open Go.Shelf
def Tryz.lays156_ren:Go.Shelf.Ren:=⟨fun|156=>46|165=>81|166=>60|169=>64|240=>109|241=>135|276=>151|277=>189|n=>n,fun|31=>23|9=>9|3=>3|4=>4|0=>0|20=>20|72=>115|76=>118|70=>113|37=>28|75=>117|127=>152|164=>184|5=>5|80=>121|n=>n,fun|n=>n⟩
theorem Tryz.lays156:Go.Proofs.Lays.n156 Tryz.prog Tryz.lays156_ren:={
 mixed:=by kernel_rfl
 f156:=Tryz.func46.trans (congrArg some (by kernel_rfl))
 f165:=Tryz.func81.trans (congrArg some (by kernel_rfl))
 f166:=Tryz.func60.trans (congrArg some (by kernel_rfl))
 f169:=Tryz.func64.trans (congrArg some (by kernel_rfl))
 f240:=Tryz.func109.trans (congrArg some (by kernel_rfl))
 f241:=Tryz.func135.trans (congrArg some (by kernel_rfl))
 f276:=Tryz.func151.trans (congrArg some (by kernel_rfl))
 f277:=Tryz.func189.trans (congrArg some (by kernel_rfl))
 t0:=Tryz.underlying0
 a0:=Tryz.isAgg0
 z0:=Tryz.sizeOf0
 v0:=Tryz.zeroValue0
 t3:=Tryz.underlying3
 a3:=Tryz.isAgg3
 z3:=Tryz.sizeOf3
 v3:=Tryz.zeroValue3
 t4:=Tryz.underlying4
 a4:=Tryz.isAgg4
 z4:=Tryz.sizeOf4
 v4:=Tryz.zeroValue4
 t9:=Tryz.underlying9
 a9:=Tryz.isAgg9
 z9:=Tryz.sizeOf9
 v9:=Tryz.zeroValue9
 t20:=Tryz.underlying20
 a20:=Tryz.isAgg20
 z20:=Tryz.sizeOf20
 v20:=Tryz.zeroValue20
 t31:=Tryz.underlying23
 a31:=Tryz.isAgg23
 z31:=Tryz.sizeOf23
 v31:=Tryz.zeroValue23
 t37:=Tryz.underlying28
 a37:=Tryz.isAgg28
 z37:=Tryz.sizeOf28
 v37:=Tryz.zeroValue28
 t70:=Tryz.underlying113
 a70:=Tryz.isAgg113
 z70:=Tryz.sizeOf113
 v70:=Tryz.zeroValue113
 t72:=Tryz.underlying115
 a72:=Tryz.isAgg115
 z72:=Tryz.sizeOf115
 v72:=Tryz.zeroValue115
 t75:=Tryz.underlying117
 a75:=Tryz.isAgg117
 z75:=Tryz.sizeOf117
 v75:=Tryz.zeroValue117
 t76:=Tryz.underlying118
 a76:=Tryz.isAgg118
 z76:=Tryz.sizeOf118
 v76:=Tryz.zeroValue118
 t127:=Tryz.underlying152
 a127:=Tryz.isAgg152
 z127:=Tryz.sizeOf152
 v127:=Tryz.zeroValue152
 t164:=Tryz.underlying184
 a164:=Tryz.isAgg184
 z164:=Tryz.sizeOf184
 v164:=Tryz.zeroValue184 }
theorem Tryz.Builder_Extra_156:Builder.Extra Tryz.prog Tryz.lays156_ren:={
 sizeBuilder:=by kernel_rfl
 liesBuilder:=by kernel_rfl
 t5:=Tryz.underlying5
 a5:=Tryz.isAgg5
 z5:=Tryz.sizeOf5
 v5:=Tryz.zeroValue5
 infoByte:=by kernel_rfl
 cellsByte:=by kernel_rfl
 sizeByte:=by kernel_rfl
 neB5:=by decide }
def Tryz.laysM171_ren:Go.Shelf.Ren:=⟨fun|171=>75|243=>131|246=>181|283=>182|284=>183|285=>184|286=>185|129=>221|317=>220|318=>222|319=>223|320=>224|337=>243|338=>244|n=>n,fun|3=>3|9=>9|2=>2|4=>4|171=>219|0=>0|53=>24|37=>28|5=>5|173=>222|212=>256|51=>197|20=>20|213=>257|46=>45|232=>282|233=>283|n=>n,fun|17=>0|18=>2|19=>3|n=>n⟩
theorem Tryz.laysM171:Go.Proofs.LaysM.n171 Tryz.prog Tryz.laysM171_ren:={
 mixed:=by kernel_rfl
 f129:=Tryz.func221.trans (congrArg some (by kernel_rfl))
 f171:=Tryz.func75.trans (congrArg some (by kernel_rfl))
 f243:=Tryz.func131.trans (congrArg some (by kernel_rfl))
 f246:=Tryz.func181.trans (congrArg some (by kernel_rfl))
 f283:=Tryz.func182.trans (congrArg some (by kernel_rfl))
 f284:=Tryz.func183.trans (congrArg some (by kernel_rfl))
 f285:=Tryz.func184.trans (congrArg some (by kernel_rfl))
 f286:=Tryz.func185.trans (congrArg some (by kernel_rfl))
 f317:=Tryz.func220.trans (congrArg some (by kernel_rfl))
 f318:=Tryz.func222.trans (congrArg some (by kernel_rfl))
 f319:=Tryz.func223.trans (congrArg some (by kernel_rfl))
 f320:=Tryz.func224.trans (congrArg some (by kernel_rfl))
 f337:=Tryz.func243.trans (congrArg some (by kernel_rfl))
 f338:=Tryz.func244.trans (congrArg some (by kernel_rfl))
 t0:=Tryz.underlying0
 a0:=Tryz.isAgg0
 z0:=Tryz.sizeOf0
 v0:=Tryz.zeroValue0
 t2:=Tryz.underlying2
 a2:=Tryz.isAgg2
 z2:=Tryz.sizeOf2
 v2:=Tryz.zeroValue2
 t3:=Tryz.underlying3
 a3:=Tryz.isAgg3
 z3:=Tryz.sizeOf3
 v3:=Tryz.zeroValue3
 t4:=Tryz.underlying4
 a4:=Tryz.isAgg4
 z4:=Tryz.sizeOf4
 v4:=Tryz.zeroValue4
 t5:=Tryz.underlying5
 a5:=Tryz.isAgg5
 z5:=Tryz.sizeOf5
 v5:=Tryz.zeroValue5
 t9:=Tryz.underlying9
 a9:=Tryz.isAgg9
 z9:=Tryz.sizeOf9
 v9:=Tryz.zeroValue9
 t20:=Tryz.underlying20
 a20:=Tryz.isAgg20
 z20:=Tryz.sizeOf20
 v20:=Tryz.zeroValue20
 t37:=Tryz.underlying28
 a37:=Tryz.isAgg28
 z37:=Tryz.sizeOf28
 v37:=Tryz.zeroValue28
 t46:=Tryz.underlying45
 a46:=Tryz.isAgg45
 z46:=Tryz.sizeOf45
 v46:=Tryz.zeroValue45
 t51:=Tryz.underlying197
 a51:=Tryz.isAgg197
 z51:=Tryz.sizeOf197
 v51:=Tryz.zeroValue197
 t53:=Tryz.underlying24
 a53:=Tryz.isAgg24
 z53:=Tryz.sizeOf24
 v53:=Tryz.zeroValue24
 t171:=Tryz.underlying219
 a171:=Tryz.isAgg219
 z171:=Tryz.sizeOf219
 v171:=Tryz.zeroValue219
 t173:=Tryz.underlying222
 a173:=Tryz.isAgg222
 z173:=Tryz.sizeOf222
 v173:=Tryz.zeroValue222
 t212:=Tryz.underlying256
 a212:=Tryz.isAgg256
 z212:=Tryz.sizeOf256
 v212:=Tryz.zeroValue256
 t213:=Tryz.underlying257
 a213:=Tryz.isAgg257
 z213:=Tryz.sizeOf257
 t232:=Tryz.underlying282
 a232:=Tryz.isAgg282
 z232:=Tryz.sizeOf282
 v232:=Tryz.zeroValue282
 t233:=Tryz.underlying283
 a233:=Tryz.isAgg283
 z233:=Tryz.sizeOf283
 v233:=Tryz.zeroValue283
 g17:=by kernel_rfl
 g18:=by kernel_rfl
 g19:=by kernel_rfl
 i0:=by kernel_rfl
 i2:=by kernel_rfl
 i3:=by kernel_rfl
 i4:=by kernel_rfl
 i5:=by kernel_rfl
 i9:=by kernel_rfl
 i20:=by kernel_rfl
 i37:=by kernel_rfl
 i46:=by kernel_rfl
 i51:=by kernel_rfl
 i53:=by kernel_rfl
 i171:=by kernel_rfl
 i173:=by kernel_rfl
 i212:=by kernel_rfl
 i232:=by kernel_rfl
 i233:=by kernel_rfl
 m17:=by kernel_rfl
 m18:=by kernel_rfl
 m19:=by kernel_rfl }
def Tryz.lays145_ren:Go.Shelf.Ren:=⟨fun|145=>112|220=>154|219=>199|217=>191|225=>232|224=>233|267=>234|266=>227|314=>253|n=>n,fun|9=>9|4=>4|59=>155|3=>3|5=>5|46=>45|146=>278|51=>197|n=>n,fun|1=>1|n=>n⟩
theorem Tryz.lays145:Go.Proofs.Lays.n145 Tryz.prog Tryz.lays145_ren:={
 mixed:=by kernel_rfl
 f145:=Tryz.func112.trans (congrArg some (by kernel_rfl))
 f217:=Tryz.func191.trans (congrArg some (by kernel_rfl))
 f219:=Tryz.func199.trans (congrArg some (by kernel_rfl))
 f220:=Tryz.func154.trans (congrArg some (by kernel_rfl))
 f224:=Tryz.func233.trans (congrArg some (by kernel_rfl))
 f225:=Tryz.func232.trans (congrArg some (by kernel_rfl))
 f266:=Tryz.func227.trans (congrArg some (by kernel_rfl))
 f267:=Tryz.func234.trans (congrArg some (by kernel_rfl))
 f314:=Tryz.func253.trans (congrArg some (by kernel_rfl))
 t3:=Tryz.underlying3
 a3:=Tryz.isAgg3
 z3:=Tryz.sizeOf3
 v3:=Tryz.zeroValue3
 t4:=Tryz.underlying4
 a4:=Tryz.isAgg4
 z4:=Tryz.sizeOf4
 v4:=Tryz.zeroValue4
 t5:=Tryz.underlying5
 a5:=Tryz.isAgg5
 z5:=Tryz.sizeOf5
 v5:=Tryz.zeroValue5
 t9:=Tryz.underlying9
 a9:=Tryz.isAgg9
 z9:=Tryz.sizeOf9
 v9:=Tryz.zeroValue9
 t46:=Tryz.underlying45
 a46:=Tryz.isAgg45
 z46:=Tryz.sizeOf45
 v46:=Tryz.zeroValue45
 t51:=Tryz.underlying197
 a51:=Tryz.isAgg197
 z51:=Tryz.sizeOf197
 v51:=Tryz.zeroValue197
 t59:=Tryz.underlying155
 a59:=Tryz.isAgg155
 z59:=Tryz.sizeOf155
 v59:=Tryz.zeroValue155
 t146:=Tryz.underlying278
 a146:=Tryz.isAgg278
 z146:=Tryz.sizeOf278
 v146:=Tryz.zeroValue278
 g1:=by kernel_rfl }
def Tryz.lays102_ren:Go.Shelf.Ren:=⟨fun|102=>111|209=>153|207=>198|n=>n,fun|9=>9|4=>4|3=>3|n=>n,fun|n=>n⟩
theorem Tryz.lays102:Go.Proofs.Lays.n102 Tryz.prog Tryz.lays102_ren:={
 mixed:=by kernel_rfl
 f102:=Tryz.func111.trans (congrArg some (by kernel_rfl))
 f207:=Tryz.func198.trans (congrArg some (by kernel_rfl))
 f209:=Tryz.func153.trans (congrArg some (by kernel_rfl))
 t3:=Tryz.underlying3
 a3:=Tryz.isAgg3
 z3:=Tryz.sizeOf3
 v3:=Tryz.zeroValue3
 t4:=Tryz.underlying4
 a4:=Tryz.isAgg4
 z4:=Tryz.sizeOf4
 v4:=Tryz.zeroValue4
 t9:=Tryz.underlying9
 a9:=Tryz.isAgg9
 z9:=Tryz.sizeOf9
 v9:=Tryz.zeroValue9 }
def Tryz.lays146_ren:Go.Shelf.Ren:=⟨fun|146=>110|221=>152|268=>195|138=>196|143=>197|195=>229|197=>230|218=>231|219=>199|260=>252|217=>191|225=>232|224=>233|267=>234|266=>227|314=>253|n=>n,fun|9=>9|31=>23|3=>3|4=>4|0=>0|105=>261|21=>21|5=>5|46=>45|119=>287|139=>290|138=>289|146=>278|51=>197|n=>n,fun|1=>1|3=>6|4=>7|n=>n⟩
theorem Tryz.lays146:Go.Proofs.Lays.n146 Tryz.prog Tryz.lays146_ren:={
 mixed:=by kernel_rfl
 f138:=Tryz.func196.trans (congrArg some (by kernel_rfl))
 f143:=Tryz.func197.trans (congrArg some (by kernel_rfl))
 f146:=Tryz.func110.trans (congrArg some (by kernel_rfl))
 f195:=Tryz.func229.trans (congrArg some (by kernel_rfl))
 f197:=Tryz.func230.trans (congrArg some (by kernel_rfl))
 f217:=Tryz.func191.trans (congrArg some (by kernel_rfl))
 f218:=Tryz.func231.trans (congrArg some (by kernel_rfl))
 f219:=Tryz.func199.trans (congrArg some (by kernel_rfl))
 f221:=Tryz.func152.trans (congrArg some (by kernel_rfl))
 f224:=Tryz.func233.trans (congrArg some (by kernel_rfl))
 f225:=Tryz.func232.trans (congrArg some (by kernel_rfl))
 f260:=Tryz.func252.trans (congrArg some (by kernel_rfl))
 f266:=Tryz.func227.trans (congrArg some (by kernel_rfl))
 f267:=Tryz.func234.trans (congrArg some (by kernel_rfl))
 f268:=Tryz.func195.trans (congrArg some (by kernel_rfl))
 f314:=Tryz.func253.trans (congrArg some (by kernel_rfl))
 t0:=Tryz.underlying0
 a0:=Tryz.isAgg0
 z0:=Tryz.sizeOf0
 v0:=Tryz.zeroValue0
 t3:=Tryz.underlying3
 a3:=Tryz.isAgg3
 z3:=Tryz.sizeOf3
 v3:=Tryz.zeroValue3
 t4:=Tryz.underlying4
 a4:=Tryz.isAgg4
 z4:=Tryz.sizeOf4
 v4:=Tryz.zeroValue4
 t5:=Tryz.underlying5
 a5:=Tryz.isAgg5
 z5:=Tryz.sizeOf5
 v5:=Tryz.zeroValue5
 t9:=Tryz.underlying9
 a9:=Tryz.isAgg9
 z9:=Tryz.sizeOf9
 v9:=Tryz.zeroValue9
 t21:=Tryz.underlying21
 a21:=Tryz.isAgg21
 z21:=Tryz.sizeOf21
 v21:=Tryz.zeroValue21
 t31:=Tryz.underlying23
 a31:=Tryz.isAgg23
 z31:=Tryz.sizeOf23
 v31:=Tryz.zeroValue23
 t46:=Tryz.underlying45
 a46:=Tryz.isAgg45
 z46:=Tryz.sizeOf45
 v46:=Tryz.zeroValue45
 t51:=Tryz.underlying197
 a51:=Tryz.isAgg197
 z51:=Tryz.sizeOf197
 v51:=Tryz.zeroValue197
 t105:=Tryz.underlying261
 a105:=Tryz.isAgg261
 z105:=Tryz.sizeOf261
 v105:=Tryz.zeroValue261
 t119:=Tryz.underlying287
 a119:=Tryz.isAgg287
 z119:=Tryz.sizeOf287
 t138:=Tryz.underlying289
 a138:=Tryz.isAgg289
 z138:=Tryz.sizeOf289
 v138:=Tryz.zeroValue289
 t139:=Tryz.underlying290
 a139:=Tryz.isAgg290
 z139:=Tryz.sizeOf290
 v139:=Tryz.zeroValue290
 t146:=Tryz.underlying278
 a146:=Tryz.isAgg278
 z146:=Tryz.sizeOf278
 v146:=Tryz.zeroValue278
 g1:=by kernel_rfl
 g3:=by kernel_rfl
 g4:=by kernel_rfl }
end Go.Proofs
namespace Go.Proofs.YtjiolbcdfgclaaaGreatDoor
open Go Go.Pg
theorem anI(w:World)(h:Lib.TabIs Tryz.prog w "math/bits.deBruijn64tab" .u8 bruijn):Calls Tryz.prog 244 #[.int .u64 16] w fun e w'=>e = .returned (.int .i64 4)∧w'=w:=by
 have hcell:w.cell? ⟨3,15,none⟩=some (.int .u8 4):=h.cell (g:=3) (by kernel_rfl) 15 (by decide)
 have key:IntKind.u64.wrap (bits BinOp.and IntKind.u64 16 (IntKind.u64.wrap (-16))*285870213051353865) / 288230376151711744=15:=by kernel_rfl
 have t3:=Tryz.underlying3
 have a3:=Tryz.isAgg3
 have z3:=Tryz.sizeOf3
 have v3:=Tryz.zeroValue3
 have t4:=Tryz.underlying4
 have a4:=Tryz.isAgg4
 have z4:=Tryz.sizeOf4
 have v4:=Tryz.zeroValue4
 have t5:=Tryz.underlying5
 have a5:=Tryz.isAgg5
 have z5:=Tryz.sizeOf5
 have v5:=Tryz.zeroValue5
 have t24:=Tryz.underlying24
 have a24:=Tryz.isAgg24
 have z24:=Tryz.sizeOf24
 have v24:=Tryz.zeroValue24
 have t45:=Tryz.underlying45
 have a45:=Tryz.isAgg45
 have z45:=Tryz.sizeOf45
 have v45:=Tryz.zeroValue45
 have t283:=Tryz.underlying283
 have a283:=Tryz.isAgg283
 have z283:=Tryz.sizeOf283
 go_enter Tryz.func244,Tryz.ntmps244
 go_wp2_with (simp only[key])
 go_ret
 exact⟨rfl,rfl⟩
def pk(l:List Nat):List Nat × Nat :=
 if (fH l&&kJ l)=true then (l,0) else
 if l.length=0 then ([],1) else
 if l.getD 0 0≠37 then ([],1) else
 if okB (l.drop 1) ((l.drop 1).length / 2)=false then ([],1) else
 if (l.drop 1).length%2≠0 then ([],1) else
 if fH (prs (l.drop 1) ((l.drop 1).length / 2))=false then ([],1) else
 if kJ (prs (l.drop 1) ((l.drop 1).length / 2))=true then ([],1) else (prs (l.drop 1) ((l.drop 1).length / 2),0)
def pkV(l:List Nat):V := .tup [.c (.string (sB (pk l).1)),.c (.int .i64 ((pk l).2:Nat))]
theorem ai8{l:List Nat}{t:Nat}:prB l t<256:=by
 unfold prB
 have:=E8 (l.getD (2*t) 0)
 have:=E8 (l.getD (2*t+1) 0)
 omega
theorem afd(l:List Nat)(j:Nat):oct (prs l j):=by
 intro b hb
 obtain⟨t,_,rfl⟩:=List.mem_map.1 hb
 exact ai8
theorem aku(l:List Nat)(ho:oct l)(hl:l.length≤140737488355328):Gxx 150 [.c (.string (sB l))] (pkV l):=by
 refine dE (gY mix) Tryz.func150 rfl Tryz.results150 rfl (by kernel_rfl) (Nat.le_of_ble_eq_true (by kernel_rfl)) ?_
 unfold pkV pk
 have g1:=uH l
 simp only[Tryz.f150,pgs,pgl,pgx,pgf,Nat.reduceEqDiff,reduceIte,wo]
 have hfirst:(fH l=true∧kJ l=true)∨(fH l=true∧kJ l=false)∨fH l=false:=by cases fH l<;>cases kJ l<;>simp
 rcases hfirst with ⟨h1,h2⟩|hrest
 ·have g2:=aiY l ho (by have:=BP h1;omega)
  rw[h1] at g1
  rw[h2] at g2
  rw[h1,h2]
  refine aP _ g1 rfl rfl rfl rfl ?_
  simp only[pgs,pgl,pgx,pgf,Nat.reduceEqDiff,reduceIte]
  refine aP _ g2 rfl rfl rfl rfl ?_
  simp only[pgs,pgl,pgx,pgf,Nat.reduceEqDiff,reduceIte]
  refine eU [] _ (jq _ _ _ _) .nil ?_ ?_
  ·simp only[pgs,pgl,pgx,pgf,Nat.reduceEqDiff,reduceIte]
  ·simp only[pgs,pgl,pgx,pgf,Nat.reduceEqDiff,reduceIte]<;>rfl
 have hnp:(fH l&&kJ l)=false:=by rcases hrest with ⟨h1,h2⟩|h1<;>simp_all
 rw[hnp,if_neg (by simp)]
 have hdo:=Dp ho 1
 have g3:=We (l.drop 1) hdo (by rw[List.length_drop];omega)
 unfold abe at g3
 generalize hkd:prs (l.drop 1) ((l.drop 1).length / 2)=k at g3
 have hko:oct k:=by rw[←hkd];exact afd _ _
 have g4:=uH k
 rcases hrest with ⟨h1,h2⟩|h1
 case' inl =>
  have g2:=aiY l ho (by have:=BP h1;omega)
  rw[h1] at g1
  rw[h2] at g2
  refine aP _ g1 rfl rfl rfl rfl ?_
  simp only[pgs,pgl,pgx,pgf,Nat.reduceEqDiff,reduceIte]
  refine aP _ g2 rfl rfl rfl rfl ?_
  simp only[pgs,pgl,pgx,pgf,Nat.reduceEqDiff,reduceIte,is9,bD]
 case' inr =>
  rw[h1] at g1
  refine aP _ g1 rfl rfl rfl rfl ?_
  simp only[pgs,pgl,pgx,pgf,Nat.reduceEqDiff,reduceIte,is9,bD]
 all_goals
  rcases Nat.eq_zero_or_pos l.length with h0|h0
  ·have e1:((l.length:Int) == 0)=true:=by rw[h0];rfl
   rw[if_pos h0]
   simp only[pgs,pgl,pgx,pgf,Nat.reduceEqDiff,reduceIte,e1,wo]
   refine eU [] _ (jq _ _ _ _) .nil ?_ ?_
   ·simp only[pgs,pgl,pgx,pgf,Nat.reduceEqDiff,reduceIte]
   ·simp only[pgs,pgl,pgx,pgf,Nat.reduceEqDiff,reduceIte]<;>rfl
  have e1:((l.length:Int) == 0)=false:=by rw[beq_eq_false_iff_ne];omega
  rw[if_neg (by omega)]
  by_cases h3:l.getD 0 0=37
  case neg =>
   have e2:(((l.getD 0 0:Nat):Int) != 37)=true:=by rw[bne_iff_ne];omega
   rw[if_pos h3]
   simp (disch:=first|assumption|omega) only[pgs,pgl,pgx,pgf,Nat.reduceEqDiff,reduceIte,e1,ixs,Int.reduceToNat,e2,wo]
   refine eU [] _ (jq _ _ _ _) .nil ?_ ?_
   ·simp only[pgs,pgl,pgx,pgf,Nat.reduceEqDiff,reduceIte]
   ·simp only[pgs,pgl,pgx,pgf,Nat.reduceEqDiff,reduceIte]<;>rfl
  have e2:(((l.getD 0 0:Nat):Int) != 37)=false:=by rw[h3];rfl
  rw[if_neg (show ¬l.getD 0 0≠37 from fun h=>h h3)]
  simp (disch:=first|assumption|omega) only[pgs,pgl,pgx,pgf,Nat.reduceEqDiff,reduceIte,e1,ixs,Int.reduceToNat,e2,anC]
  cases h4:okB (l.drop 1) ((l.drop 1).length / 2)<;>rw[h4] at g3
  ·rw[if_neg (by simp)] at g3
   rw[if_pos rfl]
   refine aP _ g3 rfl rfl rfl rfl ?_
   simp only[pgs,pgl,pgx,pgf,Nat.reduceEqDiff,reduceIte,QQ,wo]
   refine eU [] _ (jq _ _ _ _) .nil ?_ ?_
   ·simp only[pgs,pgl,pgx,pgf,Nat.reduceEqDiff,reduceIte]
   ·simp only[pgs,pgl,pgx,pgf,Nat.reduceEqDiff,reduceIte]<;>rfl
  rw[if_pos rfl] at g3
  rw[if_neg (by simp)]
  by_cases h5:(l.drop 1).length%2=0
  case neg =>
   rw[decide_eq_false h5] at g3
   rw[if_pos h5]
   refine aP _ g3 rfl rfl rfl rfl ?_
   simp only[pgs,pgl,pgx,pgf,Nat.reduceEqDiff,reduceIte,QQ,wo]
   refine eU [] _ (jq _ _ _ _) .nil ?_ ?_
   ·simp only[pgs,pgl,pgx,pgf,Nat.reduceEqDiff,reduceIte]
   ·simp only[pgs,pgl,pgx,pgf,Nat.reduceEqDiff,reduceIte]<;>rfl
  rw[decide_eq_true h5] at g3
  rw[if_neg (show ¬(l.drop 1).length%2≠0 from fun h=>h h5)]
  refine aP _ g3 rfl rfl rfl rfl ?_
  simp only[pgs,pgl,pgx,pgf,Nat.reduceEqDiff,reduceIte,QQ]
  cases h6:fH k<;>rw[h6] at g4
  ·rw[if_pos rfl]
   refine aP _ g4 rfl rfl rfl rfl ?_
   simp only[pgs,pgl,pgx,pgf,Nat.reduceEqDiff,reduceIte,QQ,wo]
   refine eU [] _ (jq _ _ _ _) .nil ?_ ?_
   ·simp only[pgs,pgl,pgx,pgf,Nat.reduceEqDiff,reduceIte]
   ·simp only[pgs,pgl,pgx,pgf,Nat.reduceEqDiff,reduceIte]<;>rfl
  rw[if_neg (by simp)]
  have g5:=aiY k hko (by have:=BP h6;omega)
  refine aP _ g4 rfl rfl rfl rfl ?_
  simp only[pgs,pgl,pgx,pgf,Nat.reduceEqDiff,reduceIte,QQ]
  cases h7:kJ k<;>rw[h7] at g5
  ·rw[if_neg (by simp)]
   refine aP _ g5 rfl rfl rfl rfl ?_
   simp only[pgs,pgl,pgx,pgf,Nat.reduceEqDiff,reduceIte,QQ]
   refine eU [] _ (jq _ _ _ _) .nil ?_ ?_
   ·simp only[pgs,pgl,pgx,pgf,Nat.reduceEqDiff,reduceIte]
   ·simp only[pgs,pgl,pgx,pgf,Nat.reduceEqDiff,reduceIte]<;>rfl
  ·rw[if_pos rfl]
   refine aP _ g5 rfl rfl rfl rfl ?_
   simp only[pgs,pgl,pgx,pgf,Nat.reduceEqDiff,reduceIte,QQ,wo]
   refine eU [] _ (jq _ _ _ _) .nil ?_ ?_
   ·simp only[pgs,pgl,pgx,pgf,Nat.reduceEqDiff,reduceIte]
   ·simp only[pgs,pgl,pgx,pgf,Nat.reduceEqDiff,reduceIte]<;>rfl
def dig(l:List Nat):Nat:=l.foldl (fun x c=>10*x+(c-48)) 0
theorem aad{l:List Nat}{i:Nat}(h:i<l.length):dig (l.take (i+1))=10*dig (l.take i)+(l.getD i 0-48):=by
 unfold dig
 rw[List.take_succ_eq_append_getElem h,List.foldl_append]
 simp [List.getD,h]
theorem aae:∀(n:Nat) (l:List Nat),l.length=n→l.all (fun c=>bt c 48 57)=true→dig l<10^n:=by
 intro n
 induction n with
 | zero=>intro l h _;simp at h;subst h;simp [dig]
 | succ n ih =>
  intro l h ha
  rcases List.eq_nil_or_concat l with rfl|⟨L,b,rfl⟩
  ·simp at h
  ·rw[List.concat_eq_append,List.all_append] at ha
   simp only[Bool.and_eq_true,List.all_cons,List.all_nil,and_true] at ha
   have h1:=ih L (by simp at h;exact h) ha.1
   have h2:=zV ha.2
   have e:dig (L.concat b)=10*dig L+(b-48):=by rw[List.concat_eq_append];simp [dig]
   rw[e,Nat.pow_succ]
   omega
def uN(l:List Nat):List Nat:=if oV l [45]=true then l.drop 1 else l
def KQ(b:List Nat)(neg:Bool):Bool:=decide (b.length<1)||decide (12<b.length)||(b.getD 0 0 == 48&&(decide (1<b.length)||neg))
def aZ(l:List Nat):Int × Nat :=
 if KQ (uN l) (oV l [45])=true then (0,1) else
 if (uN l).all (fun c=>bt c 48 57)=false then (0,1) else
 (if oV l [45]=true then-(dig (uN l):Int) else (dig (uN l):Int),0)
def Ry(l:List Nat):V := .tup [.c (.int .i64 (aZ l).1),.c (.int .i64 ((aZ l).2:Nat))]
theorem DV(b:List Nat)(neg:Bool):KQ b neg=true↔b.length<1∨12<b.length∨(b.getD 0 0=48∧(1<b.length∨neg=true)):=by
 unfold KQ
 simp only[Bool.or_eq_true,Bool.and_eq_true,decide_eq_true_eq,beq_iff_eq,or_assoc]
theorem alz:(⟨#[45]⟩:ByteArray)=sB [45]:=by rfl
theorem alA:oct [45]:=nK (by omega)
theorem aaf(l:List Nat)(ho:oct l)(hl:l.length≤140737488355328):Gxx 146 [.c (.string (sB l))] (Ry l):=by
  refine gI (oW [4]) Tryz.func146 Tryz.results146 ?_
  have g1:=ZX l [45] ho alA
  unfold Ry aZ
  have hb:∃b neg,uN l=b∧oV l [45]=neg∧oct b∧O4 l [45] = .tup [.c (.string (sB b)),.c (.bool neg)]:=by
    rcases xh l [45] with ⟨h,h2⟩|⟨h,h2⟩
    · exact⟨l.drop 1,true,by unfold uN;rw[h,if_pos rfl],h,Dp ho 1,h2⟩
    · exact⟨l,false,by unfold uN;rw[h,if_neg (by simp)],h,ho,h2⟩
  obtain⟨b,neg,hb1,hb2,hbo,hb3⟩:=hb
  rw[hb1,hb2]
  rw[hb3] at g1
  simp (disch:=first|exact dqz|fail) only[pgz,simprocAttr,Tryz.f146,alz]
  refine wS @alz g1 ?_
  refine BJ _ (fun _:Unit=>mkA [(4,.c (.string (sB b))),(5,.c (.bool neg))] [] 0 (fun _ => .top)) (fun _=>KQ b neg=false) rfl ?_ ?_
  · rintro _ hbad
    rw[hbad,if_neg (by simp)]
    have hlen:1≤b.length∧b.length≤12:=by
      unfold KQ at hbad
      simp only[Bool.or_eq_false_iff,decide_eq_false_iff_not] at hbad
      omega
    refine wS trivial trivial ?_
    refine aK (fun i=>mkA [(4,.c (.string (sB b))),(5,.c (.bool neg)),(6,.c (.int .i64 (dig (b.take i):Nat))),(35,.c (.int .i64 b.length)),(36,.c (.int .i64 (i:Nat)))] [] 0 (fun _ => .top)) (fun i=>i≤b.length∧(b.take i).all (fun c=>bt c 48 57)=true) (fun i=>b.length-i) 0 [] [] ?_ ⟨Nat.zero_le _,rfl⟩ ?_
    · exact kE
    · rintro i ⟨hi,hall⟩
      rcases Nat.lt_or_ge i b.length with hlt|hge
      · cases hbt:bt (b.getD i 0) 48 57
        · rw[vS hlt hbt]
          (repeat' first|refine wP @hbt trivial ?_|refine cU (Ij _) ?_|refine tS ?_ ?_<;>intro hc|fail)
          exact rE []
        · have h1:=zV hbt
          have h2:=aae i (b.take i) (by simp;omega) hall
          have h3:10^i≤10^11:=Nat.pow_le_pow_right (by omega) (by omega)
          have h4:=aad hlt
          (repeat' first|refine wP @hbt trivial ?_|refine cU (Ij _) ?_|refine tS ?_ ?_<;>intro hc|fail)
          exact bE (i+1) [] [] ⟨by omega,jQ hlt hall hbt⟩
      · have hil:i=b.length:=by omega
        subst hil
        rw[List.take_length] at hall
        have h2:=aae b.length b rfl hall
        have h3:10^b.length≤10^12:=Nat.pow_le_pow_right (by omega) (by omega)
        (repeat' first|refine wP (aI @hall @List.take_length.{0}) trivial ?_|refine tS ?_ ?_<;>intro hc|fail)
        all_goals (refine rT [] ?_;first|rfl|simp only[pgo,simprocAttr]|skip)
        · simp
  · (repeat' first|refine wP trivial trivial ?_|refine tS ?_ ?_<;>intro hc|fail)
    all_goals first
      | (rw[show KQ b _=true from (DV _ _).2 (by first|exact .inl (by omega)|exact .inr (.inl (by omega))|exact .inr (.inr ⟨by omega,by first|exact .inl (by omega)|exact .inr rfl⟩))]
         (refine rT [] ?_;first|rfl|simp only[pgo,simprocAttr]|skip))
      | (refine xY () [] [] (show KQ b _=false by rw[←Bool.not_eq_true,DV];rintro (h|h|⟨h,h'|h'⟩)<;>first|omega|cases h') ?_
         exact kE)
theorem F9(l:List Nat):oV l [45]=true↔0<l.length∧l.getD 0 0=45:=by
 cases l with
 | nil=>simp [oV]
 | cons a l=>simp [oV]
theorem akv:(⟨#[48]⟩:ByteArray)=sB [48]:=by rfl
theorem Qp(l:List Nat)(ho:oct l)(hl:l.length≤140737488355328):Gxx 148 [.c (.string (sB l))] (Ry l):=by
  refine gI (oW [4,6]) Tryz.func148 Tryz.results148 ?_
  have hb:∃b neg,uN l=b∧oV l [45]=neg∧oct b∧(neg=true∧0<l.length∧l.getD 0 0=45∧b=l.drop 1∨neg=false∧¬(0<l.length∧l.getD 0 0=45)∧b=l):=by
    cases h:oV l [45]
    · exact⟨l,false,by unfold uN;rw[h,if_neg (by simp)],rfl,ho,.inr ⟨rfl,(fun hh=>by rw[←F9,h] at hh;cases hh),rfl⟩⟩
    · have:=(F9 l).1 h
      exact⟨l.drop 1,true,by unfold uN;rw[h,if_pos rfl],rfl,Dp ho 1,.inl ⟨rfl,this.1,this.2,rfl⟩⟩
  obtain⟨b,neg,hb1,hb2,hbo,hb3⟩:=hb
  unfold Ry aZ
  rw[hb1,hb2]
  clear hb1 hb2
  have hbl:(neg=true∧b.length<l.length)∨(neg=false∧b=l):=by
    rcases hb3 with ⟨h,h1,h2,h3⟩|⟨h,h1,h2⟩
    · exact .inl ⟨h,by rw[h3,List.length_drop];omega⟩
    · exact .inr ⟨h,h2⟩
  simp (disch:=first|exact dqz|fail) only[pgz,simprocAttr,Tryz.f148]
  refine wS trivial trivial ?_
  refine BJ _ (fun _:Unit=>mkA [(0,.c (.string (sB l))),(4,.c (.string (sB b)))] [] 0 (fun _ => .top)) (fun _=>True) rfl ?_ ?_
  · rintro _ _
    refine wS trivial trivial ?_
    refine BJ _ (fun _:Unit=>mkA [(0,.c (.string (sB l))),(4,.c (.string (sB b)))] [] 0 (fun _ => .top)) (fun _=>KQ b neg=false) rfl ?_ ?_
    · rintro _ hbad
      rw[hbad,if_neg (by simp)]
      refine wS trivial trivial ?_
      have hlen:1≤b.length∧b.length≤12:=by
        rw[←Bool.not_eq_true,DV] at hbad
        omega
      refine aK (fun i=>mkA [(0,.c (.string (sB l))),(4,.c (.string (sB b))),(5,.c (.int .i64 (dig (b.take i):Nat))),(6,.c (.int .i64 (i:Nat)))] [] 0 (fun _ => .top)) (fun i=>i≤b.length∧(b.take i).all (fun c=>bt c 48 57)=true) (fun i=>b.length-i) 0 [] [] ?_ ⟨Nat.zero_le _,rfl⟩ ?_
      · exact kE
      · rintro i ⟨hi,hall⟩
        rcases Nat.lt_or_ge i b.length with hlt|hge
        · cases hbt:bt (b.getD i 0) 48 57
          · rw[vS hlt hbt]
            (repeat' first|refine wP @hbt trivial ?_|refine cU (zQ _ 48 57) ?_|refine tS ?_ ?_<;>intro hc|fail)
            exact rE []
          · have h1:=zV hbt
            have h2:=aae i (b.take i) (by simp;omega) hall
            have h3:10^i≤10^11:=Nat.pow_le_pow_right (by omega) (by omega)
            have h4:=aad hlt
            (repeat' first|refine wP @hbt trivial ?_|refine cU (zQ _ 48 57) ?_|refine tS ?_ ?_<;>intro hc|fail)
            exact bE (i+1) [] [] ⟨by omega,jQ hlt hall hbt⟩
        · have hil:i=b.length:=by omega
          subst hil
          rw[List.take_length] at hall
          have h2:=aae b.length b rfl hall
          have h3:10^b.length≤10^12:=Nat.pow_le_pow_right (by omega) (by omega)
          rcases hbl with ⟨rfl,hbl⟩|⟨rfl,rfl⟩
          · (repeat' (first|(simp (disch:=first|exact dqz|fail) only[pgz,simprocAttr,hall,List.take_length])|((with_reducible first|apply di|apply bK|apply dw)<;>intro hc<;>(try simp only[hc])<;>(try simp only[pgd] at hc))|(with_reducible refine cK ?_)))
            (refine rT [] ?_;first|rfl|simp only[pgo,simprocAttr]|skip)
            simp
          · (repeat' (first|(simp (disch:=first|exact dqz|fail) only[pgz,simprocAttr,hall,List.take_length])|((with_reducible first|apply di|apply bK|apply dw)<;>intro hc<;>(try simp only[hc])<;>(try simp only[pgd] at hc))|(with_reducible refine cK ?_)))
            exact rE []
    · have hne:b.length=1→b.getD 0 0=48→neg=false→sB l=sB [48]:=by
        intro h1 h2 h3
        rcases hbl with ⟨h4,_⟩|⟨_,h4⟩
        · rw[h3] at h4;cases h4
        · subst h4
          congr 1
          cases b with
          | nil=>simp at h1
          | cons x xs=>simp at h1 h2;simp [h1,h2]
      have hnn:(1<b.length∨neg=true)→¬sB l=sB [48]:=by
        intro h1 h2
        have h3:=ah4 ho (nK (by omega)) h2
        rcases hbl with ⟨h4,h5⟩|⟨h4,h5⟩
        · rw[h3] at h5
          have h5':b.length<1:=h5
          have:b=[]:=List.eq_nil_of_length_eq_zero (by omega)
          subst this
          rcases hb3 with ⟨_,_,h6,_⟩|⟨h6,_⟩
          · rw[h3] at h6;simp at h6
          · rw[h4] at h6;cases h6
        · rw[h5,h3] at h1
          rcases h1 with h1|h1
          · simp at h1
          · rw[h4] at h1;cases h1
      have hno:1≤b.length→b.getD 0 0=48→¬sB l=sB [48]→1<b.length∨neg=true:=by
        intro h1 h2 h3
        rcases Nat.lt_or_ge 1 b.length with h4|h4
        · exact .inl h4
        · cases neg
          · exact absurd (hne (by omega) h2 rfl) h3
          · exact .inr rfl
      (repeat' first|refine wP @akv trivial ?_|refine tS ?_ ?_<;>intro hc|fail)
      all_goals first
        | (rw[show KQ b neg=true from (DV _ _).2 (by first|exact .inl (by omega)|exact .inr (.inl (by omega))|exact .inr (.inr ⟨by omega,hno (by omega) (by omega) (by assumption)⟩))]
           (refine rT [] ?_;first|rfl|simp only[pgo,simprocAttr]|skip))
        | (refine xY () [] [] (show KQ b _=false by rw[←Bool.not_eq_true,DV];rintro (h|h|⟨h,h'⟩)<;>first|omega|exact hnn h' (by assumption)) ?_
           exact kE)
  · rcases hb3 with ⟨rfl,h1,h2,rfl⟩|⟨rfl,h1,rfl⟩
    · refine wS @h2 trivial ?_
      refine xY () [] [] trivial ?_
      exact kE
    · (repeat' first|refine wP trivial trivial ?_|refine tS ?_ ?_<;>intro hc|fail)
      all_goals refine xY () [] [] trivial ?_
      all_goals exact kE
theorem ai9(b o:Nat):GoodX Tryz.prog 151 [.ref b o] (.ref b o):=by
 rintro L w cargs ⟨_,_,rfl,h,rfl⟩
 refine⟨_, ?_,h⟩
 rw[run_callFunc_extern Tryz.func151 (by kernel_rfl) (by kernel_rfl) (by kernel_rfl) (e:=Extern.AbiNoEscape.same) (by kernel_rfl)]
 rfl
theorem po1:Jp Tryz.prog 113 184 115 2 0=true:=by kernel_rfl
theorem po2:Jp Tryz.prog 184 113 115 2 0=true:=by kernel_rfl
theorem Ir(ψ:V→V)(f:Nat→V):unE (lX ψ f)=lX ψ (unE f):=rfl
theorem Iu(ψ:V→V)(f:Nat→V):unH (lX ψ f)=lX ψ (unH f):=rfl
theorem iQ(args:List V)(e:Nat→V)(b:Nat→Option (TypeId × List V))(n:Nat)(h:Nat→V):XB args ⟨e,b,n,h⟩=⟨Fg args 0,b,n,Bg e h⟩:=rfl
theorem dm(P:Program)(rs:List ResultVar)(s':St)(r:V)(s:St):XC P rs s' r .ret s=Nv P rs s' r s:=rfl
theorem bI(P:Program)(rs:List ResultVar)(s':St)(r:V)(s:St):XC P rs s' r .normal s=Nv P rs s' r s:=rfl
theorem lh{P:Program}{rs:List ResultVar}{s':St}{r:V}{e:Nat→V}{b:Nat→Option (TypeId × List V)}{n:Nat}{h:Nat→V}(h1:pJ P ⟨e,b,n,h⟩ rs=some r)(h2:(⟨unE h,b,n,unH h⟩:St)=s'):Nv P rs s' r ⟨e,b,n,h⟩:=⟨h1,by subst h2;exact⟨rfl,rfl,rfl,Nat.le_refl _⟩⟩
theorem uO{P:Program}{rs:List ResultVar}{e':Nat→V}{b':Nat→Option (TypeId × List V)}{n':Nat}{h':Nat→V}{r:V}{e:Nat→V}{b:Nat→Option (TypeId × List V)}{n:Nat}{h:Nat→V}(h1:pJ P ⟨e,b,n,h⟩ rs=some r)(h2:unE h=e')(h3:unH h=h')(h4:b=b')(h5:n≤n'):Nv P rs ⟨e',b',n',h'⟩ r ⟨e,b,n,h⟩:=⟨h1,h2,h3,h4,h5⟩
theorem jG{α:Type}(f:Nat→α)(d:Nat)(v v':α):upd (upd f d v) d v'=upd f d v':=by
 funext t;simp only[upd];split<;>rfl
theorem aag{α:Type}(f:Nat→α)(d:Nat)(v:α)(h:f d=v):upd f d v=f:=by
 funext t;simp only[upd];split
 ·rename_i ht;rw[ht,h]
 ·rfl
def aah(b:Nat)(x:V):Prop:=x = .c (.pointer none)∨x = .ref b 0
theorem aai(e:Nat→V)(bx:Nat→Option (TypeId × List V))(n:Nat)(h:Nat→V)(b:Nat)(p x:V)(hb:bx b=some (115,[p,x]))(hp:aah b p) :
  Gxz 109 [.ref b 0] ⟨e,bx,n,h⟩ ⟨e,upd bx b (some (115,[.ref b 0,x])),n,h⟩ (.tup []):=by
 refine gZ oW Tryz.func109 Tryz.results109 ?_
 rcases hp with rfl|rfl
 ·(repeat' first|refine wP (aI @iQ (aI @dm (aI @bI (aI @hb (aI @po1 @po2))))) trivial ?_|refine cZ ((ai9 _ _).z _) ?_|refine tS ?_ ?_<;>intro hc|fail)
  refine lh (vN _ _) ?_
  rw[dJ,dK]
 ·refine wS (aI @iQ (aI @dm (aI @bI @hb))) trivial ?_
  refine lh (vN _ _) ?_
  rw[dJ,dK,aag _ _ _ hb]
end Go.Proofs.YtjiolbcdfgclaaaGreatDoor
