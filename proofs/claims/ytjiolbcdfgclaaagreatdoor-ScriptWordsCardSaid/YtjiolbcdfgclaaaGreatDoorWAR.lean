/-
  Texts of this claim, merged; own names are short.
-/
import Derived.Test.YtjiolbcdfgclaaaGreatDoorWAM
import Derived.Test.YtjiolbcdfgclaaaGreatDoorWAO
import Derived.Test.YtjiolbcdfgclaaaGreatDoorWAQ
import Derived.Test.YtjiolbcdfgclaaaGreatDoorWAJ
import Derived.Test.YtjiolbcdfgclaaaGreatDoorWAP
set_option linter.unusedVariables false
set_option linter.unusedSimpArgs false
set_option linter.unusedSectionVars false
set_option linter.defProp false
set_option maxRecDepth 100000
set_option maxHeartbeats 8000000
namespace Go.Proofs.YtjiolbcdfgclaaaGreatDoor
open Go Go.Pg
def qX(k z d s:Int):List (List Nat) :=
 if k=1 then [[116,97,108,108,121]] else if k=2 then [[99,111,117,110,116,109,105,110],ak d,ak z,jy s.toNat] else if k=3 then [[108,111,103,108,111,103],ak z,jy s.toNat]
 else if k=4 then [[116,111,112],ak z] else if k=5 then [[102,114,101,113,117,101,110,116],ak z] else [[114,97,110,107,115],ak z]
def lY(k:Int)(key:List Nat)(c n d:Int):List (List Nat) :=
 if k=1 then [[116,111,116,97,108]] else if k=2 then [[112,111,105,110,116],kw key] else if k=3 then [[114,101,103,105,115,116,101,114,115]] else if k=4 then [[100,105,115,116,105,110,99,116]]
 else if k=5 then [[116,111,112],ak c] else if k=6 then [[114,97,110,107],kw key] else [[113,117,97,110,116,105,108,101],ak n,ak d]
def opW(o:O):List (List Nat) :=
 if o.kind=1 then [99,114,101,97,116,101]::o.name::qX o.pk o.pz o.pd o.ps
 else if o.kind=2 then [100,114,111,112]::o.name::[]
 else if o.kind=3 then [114,101,110,97,109,101]::o.name::o.other::[]
 else if o.kind=4 then [108,105,115,116]::[]
 else if o.kind=5 then [113,117,101,114,121]::o.name::lY o.qk o.qkey o.qc o.qn o.qd
 else if o.kind=6 then qU o
 else if o.kind=7 then [109,101,114,103,101]::o.name::o.other::fb o.coins::[]
 else if o.kind=8 then [99,111,109,112,97,114,101]::o.name::o.other::fb o.coins::ak o.exp::ak o.src::[]
 else if o.kind=9 then [111,112,101,110]::o.names
 else if o.kind=10 then [114,101,97,100]::ak o.hnd::ak o.idx::lY o.qk o.qkey o.qc o.qn o.qd
 else if o.kind=11 then [99,108,111,115,101]::ak o.hnd::[]
 else if o.kind=12 then [99,117,114,115,111,114]::ak o.hnd::ak o.idx::[]
 else if o.kind=13 then [110,101,120,116]::ak o.cur::ak o.cnt::[]
 else if o.kind=14 then [101,110,100]::ak o.cur::[]
 else if o.kind=15 then [101,120,112,111,114,116]::ak o.hnd::ak o.idx::[]
 else if o.kind=16 then [105,109,112,111,114,116]::o.name::fb o.data::[]
 else [99,111,108,108,101,99,116]::[]
structure O.Ok (o:O):Prop where
 oct:o.Oct
 pz:Wt o.pz
 pd:Wt o.pd
 ps:0≤o.ps∧o.ps<18446744073709551616
 exp:Wt o.exp
 src:Wt o.src
 hnd:Wt o.hnd
 idx:Wt o.idx
 cur:Wt o.cur
 cnt:Wt o.cnt
 qc:Wt o.qc
 qn:Wt o.qn
 qd:Wt o.qd
 wts:∀x∈o.items,Wt x.2
 name:o.name.length≤1000
 other:o.other.length≤1000
 names:o.names.length≤1000
 nm:∀x∈o.names,x.length≤1000
 items:o.items.length≤1000
 coins:o.coins.length≤1000
 data:o.data.length≤1000000
theorem O.Ok.qkey{o:O}(ok:o.Ok):Pg.oct o.qkey:=ok.oct.2.2.2.2.2.1
theorem IK(u:Nat)(hu:u<18446744073709551616):(jy u).length≤16:=by
 rw[KU];exact (aat 16 u (by simpa using hu) (by omega)).2.1
theorem dS{n:Int}(h:Wt n):(ak n).length≤20:=vX n h.1 h.2
theorem afN(k z d s:Int):qX k z d s≠[]:=by unfold qX;(repeat' split)<;>simp
theorem Sj(k:Int)(key:List Nat)(c n d:Int):lY k key c n d≠[]:=by unfold lY;(repeat' split)<;>simp
theorem LU(k z d s:Int)(hz:Wt z)(hd:Wt d)(hs:0≤s∧s<18446744073709551616):tot (qX k z d s)≤100:=by
 have h1:=dS hz
 have h2:=dS hd
 have h3:=IK s.toNat (by omega)
 unfold qX
 (repeat' split)<;>simp only[bz,dL,List.length_cons,List.length_nil]<;>omega
theorem LV(k:Int)(key:List Nat)(c n d:Int)(hc:Wt c)(hn:Wt n)(hd:Wt d):tot (lY k key c n d)≤100:=by
 have h1:=dS hc
 have h2:=dS hn
 have h3:=dS hd
 have h4:=zZ key
 unfold lY
 (repeat' split)<;>simp only[bz,dL,List.length_cons,List.length_nil]<;>omega
theorem abk{l:List (List Nat)}(h1:l.length≤1000)(h2:∀x∈l,x.length≤1000):tot l≤1001000:=by
 refine Nat.le_trans (FX h2) ?_
 have:=Nat.mul_le_mul_right 1001 h1
 omega
theorem abl{p:Prop}[Decidable p]{a b:List (List Nat)}{N:Nat}(h1:tot a≤N)(h2:tot b≤N):tot (if p then a else b)≤N:=by split<;>assumption
theorem dM(o:O)(ok:o.Ok):(jn (opW o)).length≤50000000∧(opW o).length≤50000000∧tot (opW o)≤50000000:=by
 have key:tot (opW o)≤50000000:=by
  have h1:=LU o.pk o.pz o.pd o.ps ok.pz ok.pd ok.ps
  have h2:=LV o.qk o.qkey o.qc o.qn o.qd ok.qc ok.qn ok.qd
  have h3:=uT o.coins
  have h4:=uT o.data
  have h5:=dS ok.exp
  have h6:=dS ok.src
  have h7:=dS ok.hnd
  have h8:=dS ok.idx
  have h9:=dS ok.cur
  have h10:=dS ok.cnt
  have h11:=ok.name
  have h12:=ok.other
  have h13:=abk ok.names ok.nm
  have h14:=yQ o.items ok.wts
  have h15:=ok.items
  have h16:=ok.coins
  have h17:=ok.data
  unfold opW qU
  (repeat' refine abl ?_ ?_)<;>(try simp only[yw,bz,dL,List.length_cons,List.length_nil])<;>omega
 exact⟨Nat.le_trans (xg _) key,Nat.le_trans (Q9 _) key,key⟩
theorem an4(o:O)(m:List Bool):∀n i,vE o m n i=0→∀j,i≤j→j<i+n→m.getD j false=true→chk o j=0:=by
 intro n
 induction n with
 | zero=>intro i _ j h1 h2;omega
 | succ n ih =>
  intro i h j h1 h2 hm
  unfold vE at h
  split at h
  ·rename_i h3;exact absurd h h3.2
  ·rename_i h3
   rcases Nat.eq_or_lt_of_le h1 with rfl|h4
   ·exact Classical.byContradiction fun h5=>h3 ⟨hm,h5⟩
   ·exact ih (i+1) h j h4 (by omega) hm
theorem an5(o:O)(m:List Bool):∀n i,zE o m n i=0→∀j,i≤j→j<i+n→m.getD j false=false→zro o j=true:=by
 intro n
 induction n with
 | zero=>intro i _ j h1 h2;omega
 | succ n ih =>
  intro i h j h1 h2 hm
  unfold zE at h
  split at h
  ·cases h
  ·rename_i h3
   rcases Nat.eq_or_lt_of_le h1 with rfl|h4
   ·cases hz:zro o i
    ·exact absurd ⟨hm,hz⟩ h3
    ·rfl
   ·exact ih (i+1) h j h4 (by omega) hm
theorem bW{o:O}(h:vop o=0):(1≤o.kind∧o.kind≤17)∧(∀j:Nat,j<14→(j:Int)∈bJ o.kind→chk o j=0)∧(∀j:Nat,j<14→(j:Int) ∉ bJ o.kind→zro o j=true):=by
 unfold vop at h
 split at h
 ·cases h
 ·rename_i h1
  split at h
  ·rename_i h2;exact absurd h h2
  ·rename_i h2
   have h2:=Classical.byContradiction h2
   refine⟨by omega,fun j hj hu => ?_,fun j hj hu => ?_⟩
   ·exact an4 o _ 14 0 h2 j (Nat.zero_le _) (by omega) (by rw[uJ _ _ hj];exact decide_eq_true hu)
   ·exact an5 o _ 14 0 h j (Nat.zero_le _) (by omega) (by rw[uJ _ _ hj];exact decide_eq_false hu)
theorem Eg{α:Type}(f:α→Int)(l:List α)(h:sU f l=0):∀x∈l,f x=0:=by
 induction l with
 | nil=>intro x hx;cases hx
 | cons y l ih =>
  unfold sU at h
  split at h
  ·rename_i h2;exact absurd h h2
  ·rename_i h2
   intro x hx
   rcases List.mem_cons.1 hx with rfl|hx
   ·exact Classical.byContradiction h2
   ·exact ih h x hx
theorem IL{o:O}(hk:o.kind=6)(h:vop o=0):(1≤o.items.length∧o.items.length≤64)∧∀x∈o.items,fH x.1=true∧1≤x.2∧x.2≤4294967295:=by
 have h1:itE o.items=0:=(bW h).2.1 4 (by omega) (by rw[hk];decide)
 unfold itE at h1
 split at h1
 ·cases h1
 ·rename_i h2
  refine⟨by omega,fun x hx => ?_⟩
  have h3:eF x.1 x.2=0:=Eg EU _ h1 x hx
  unfold eF at h3
  split at h3
  ·rename_i h4
   split at h3
   ·rename_i h5;exact⟨Ik h4,h5⟩
   ·cases h3
  ·cases h3
theorem Sl{o:O}(hk:o.kind=9)(h:vop o=0):(1≤o.names.length∧o.names.length≤16)∧∀x∈o.names,jW x=true:=by
 have h1:lsE o.names=0:=(bW h).2.1 2 (by omega) (by rw[hk];decide)
 unfold lsE at h1
 split at h1
 ·cases h1
 ·rename_i h2
  refine⟨by omega,fun x hx => ?_⟩
  have h3:nmE x=0:=Eg nmE _ h1 x hx
  unfold nmE at h3
  split at h3
  ·assumption
  ·cases h3
theorem pg{o:O}(hk:o.kind=1)(h:vop o=0):vp o.pk o.pz o.pd o.ps=0:=(bW h).2.1 3 (by omega) (by rw[hk];decide)
theorem gm{o:O}(hk:o.kind=5∨o.kind=10)(h:vop o=0):vq o.qk o.qkey o.qc o.qn o.qd=0:=(bW h).2.1 12 (by omega) (by rcases hk with hk|hk<;>rw[hk]<;>decide)
theorem Sm{k c n d:Int}{key:List Nat}(h:vq k key c n d=0):k=1∨k=2∨k=3∨k=4∨k=5∨k=6∨k=7:=by
 unfold vq at h
 split at h
 ·cases h
 ·omega
theorem Pz(f:List (List Nat)){t:List (List Nat)}(h:t≠[]):jn (f++t)=jn (f++[jn t]):=by
 cases f with
 | nil=>simp [jn,jt]
 | cons a f =>
  rw[Ii (by simp),Ii (by simp)]
  congr 1
  cases t with
  | nil=>exact absurd rfl h
  | cons x t=>rw[sQ,sQ,ZA,yl,List.append_nil]
theorem PD(l:List (List Nat)):(jn l).length≤tot l:=xg l
theorem afO:(⟨#[116,97,108,108,121]⟩:ByteArray)=sB [116,97,108,108,121]:=rfl
theorem PE:(⟨#[99,111,117,110,116,109,105,110]⟩:ByteArray)=sB [99,111,117,110,116,109,105,110]:=rfl
theorem abu:(⟨#[108,111,103,108,111,103]⟩:ByteArray)=sB [108,111,103,108,111,103]:=rfl
theorem ahk:(⟨#[116,111,112]⟩:ByteArray)=sB [116,111,112]:=rfl
theorem PG:(⟨#[102,114,101,113,117,101,110,116]⟩:ByteArray)=sB [102,114,101,113,117,101,110,116]:=rfl
theorem afP:(⟨#[114,97,110,107,115]⟩:ByteArray)=sB [114,97,110,107,115]:=rfl
theorem afQ:(⟨#[116,111,116,97,108]⟩:ByteArray)=sB [116,111,116,97,108]:=rfl
theorem afR:(⟨#[112,111,105,110,116]⟩:ByteArray)=sB [112,111,105,110,116]:=rfl
theorem LX:(⟨#[114,101,103,105,115,116,101,114,115]⟩:ByteArray)=sB [114,101,103,105,115,116,101,114,115]:=rfl
theorem PH:(⟨#[100,105,115,116,105,110,99,116]⟩:ByteArray)=sB [100,105,115,116,105,110,99,116]:=rfl
theorem ajM:(⟨#[114,97,110,107]⟩:ByteArray)=sB [114,97,110,107]:=rfl
theorem PI:(⟨#[113,117,97,110,116,105,108,101]⟩:ByteArray)=sB [113,117,97,110,116,105,108,101]:=rfl
theorem fdU(u k:Nat)(h:k≤64):Int.fdiv (u:Int) (2^k)=((u / 2^k:Nat):Int):=by
 have e:(2:Int)^k=((2^k:Nat):Int):=by simp
 rw[e,Int.fdiv_eq_ediv_of_nonneg _ (Int.natCast_nonneg _),Int.natCast_ediv]
theorem an6(n:Nat):u8i (n:Int)=n%256:=by unfold u8i;omega
theorem VA(u:Nat)(hu:u<18446744073709551616):jh (kP (u:Int))=o8 u 16:=by
 have e:kP (u:Int)=[u / 72057594037927936%256,u / 281474976710656%256,u / 1099511627776%256,u / 4294967296%256,u / 16777216%256,u / 65536%256,u / 256%256,u / 1%256]:=by
  have e1:kP (u:Int)=(List.range 8).map fun j=>u / 2^(8*(7-j))%256:=by
   unfold kP
   refine List.map_congr_left fun j hj => ?_
   have:=List.mem_range.1 hj
   rw[fdU u (8*(7-j)) (by omega),an6]
  rw[e1];rfl
 rw[e]
 simp only[jh,List.flatMap_cons,List.flatMap_nil,List.append_nil,List.cons_append,List.nil_append,o8,Nat.reducePow]
 have p:∀a b:Nat,a=b→hx a=hx b:=fun a b h=>by rw[h]
 (repeat' (first|rfl|refine List.cons_eq_cons.2 ⟨p _ _ (by omega), ?_⟩))
theorem alW(u:Nat):nd u=1∨16^(nd u-1)≤u:=by
 induction u using Nat.strongRecOn with
 | _ u ih =>
  rcases Nat.lt_or_ge u 16 with h|h
  ·exact .inl (DX h)
  ·right
   rw[Pj h]
   have h1:=ih (u / 16) (by omega)
   rw[Nat.add_sub_cancel]
   rcases h1 with h1|h1
   ·rw[h1];omega
   ·have h2:1≤nd (u / 16):=by rw[nd];split<;>omega
    have h3:nd (u / 16)=(nd (u / 16)-1)+1:=by omega
    rw[h3,Nat.pow_succ]
    have:=Nat.mul_le_mul_right 16 h1
    omega
theorem Gw(u i:Nat):o8 u (i+1)=hx (u / 16^i%16)::o8 u i:=rfl
theorem afS:∀d,d<16→(hx d=48↔d=0):=by decide
theorem afT(u:Nat)(hu:u<18446744073709551616):Gxx 88 [vu u] (vs (jy u)):=by
 have h1:=(Si (u:Int) (by omega)).fzr rfl (aA (fzb (kP (u:Int))))
 have ho:=Ag (u:Int)
 have h2:=O5 (kP (u:Int)) ho (by rw[lV];omega)
 have hcv:=fun s d K=>J9 (P:=Tryz.prog) s d 28 9 .fz (kP (u:Int)) K
 rw[VA u hu] at h2
 obtain⟨n1,n2,n3⟩:=aat 16 u (by simpa using hu) (by omega)
 have n4:=alW u
 generalize kP (u:Int)=w at *
 refine gI oW Tryz.func88 Tryz.results88 ?_
 refine wS (aI @rH @ai) (aI h1 h2) ?_
 refine aK (fun i:Nat=>mkA [(3,vs (o8 u i))] [] 0 (fun _ => .top)) (fun i=>nd u≤i∧i≤16) (fun i=>i) 16 [] [] ?_ ⟨n2,Nat.le_refl _⟩ ?_
 ·exact kE
 ·rintro i ⟨hi1,hi2⟩
  have hll:=DW u i
  have hlo:=KR u i
  rcases Nat.lt_or_ge (nd u) i with hlt|hge
  ·obtain⟨j,rfl⟩:∃j,i=j+1:=⟨i-1,by omega⟩
   have hz:u / 16^j%16=0:=by
    have:u<16^j:=Nat.lt_of_lt_of_le n3 (Nat.pow_le_pow_right (by decide) (by omega))
    rw[Nat.div_eq_of_lt this]
   have hc:(o8 u (j+1)).getD 0 0=48:=by rw[Gw,hz];rfl
   have hd:(o8 u (j+1)).drop 1=o8 u j:=rfl
   generalize o8 u (j+1)=L at *
   refine wS (aI @hc @hd) trivial ?_
   exact bE j [] [] ⟨by omega,by omega⟩
  ·have:i=nd u:=by omega
   subst this
   unfold jy
   rcases Nat.lt_or_ge 1 (nd u) with h1'|h1'
   ·obtain⟨j,hj⟩:∃j,nd u=j+1:=⟨nd u-1,by omega⟩
    rw[hj] at hll hlo n3 n4 ⊢
    have hle:16^j≤u:=by
     rcases n4 with h|h
     ·omega
     ·simpa using h
    have hlt:u / 16^j<16:=by
     rw[Nat.pow_succ] at n3
     exact Nat.div_lt_of_lt_mul n3
    have hpos:0<u / 16^j:=Nat.div_pos hle (Nat.pow_pos (by decide))
    have hm:u / 16^j%16=u / 16^j:=Nat.mod_eq_of_lt hlt
    have hc:(o8 u (j+1)).getD 0 0≠48:=by
     rw[Gw,hm]
     show hx (u / 16^j)≠48
     rw[Ne,afS _ hlt];omega
    generalize o8 u (j+1)=L at *
    exact wR trivial trivial ah
   ·generalize o8 u (nd u)=L at *
    exact wR trivial trivial ah
theorem PK(k:List Nat)(ho:oct k)(h:fH k=true):Gxx 53 [vs k] (vs (kw k)):=by
 have h1:=aiZ k ho
 unfold fkV at h1
 have e:(fk k).2=0:=by unfold fk;rw[h,if_neg (by simp)];split<;>rfl
 have e2:kw k=(fk k).1:=if_pos e
 rw[e] at h1
 rw[e2]
 refine gI oW Tryz.func53 Tryz.results53 ?_
 exact wR trivial h1 ah
theorem ajN(k z d s:Int)(h:vp k z d s=0)(hz:Wt z)(hd:Wt d)(hs:0≤s∧s<18446744073709551616):Gxx 49 [.agg [vi k,vi z,vi d,vu s]] (vs (jn (qX k z d s))):=by
 obtain⟨u,rfl⟩:∃u:Nat,s=u:=⟨s.toNat,by omega⟩
 have hu:u<18446744073709551616:=by omega
 have f1:=afT u hu
 have f2:=jX z hz
 have f3:=jX d hd
 have w1:=IK u hu
 have w2:=dS hz
 have w3:=dS hd
 unfold qX
 rw[Int.toNat_natCast]
 rcases FY h with rfl|rfl|rfl|rfl|rfl|rfl
 ·refine gI oW Tryz.func49 Tryz.results49 ?_
  exact wR @afO trivial ah
 ·have hw:=dR [[99,111,117,110,116,109,105,110],ak d,ak z,jy u] (by simp only[bz,dL,List.length_cons,List.length_nil];omega)
  refine gI oW Tryz.func49 Tryz.results49 ?_
  exact wR @PE (aI f1 (aI f2 (aI f3 hw))) ah
 ·have hw:=dR [[108,111,103,108,111,103],ak z,jy u] (by simp only[bz,dL,List.length_cons,List.length_nil];omega)
  refine gI oW Tryz.func49 Tryz.results49 ?_
  exact wR @abu (aI f1 (aI f2 hw)) ah
 ·have hw:=dR [[116,111,112],ak z] (by simp only[bz,dL,List.length_cons,List.length_nil];omega)
  refine gI oW Tryz.func49 Tryz.results49 ?_
  exact wR @ahk (aI f2 hw) ah
 ·have hw:=dR [[102,114,101,113,117,101,110,116],ak z] (by simp only[bz,dL,List.length_cons,List.length_nil];omega)
  refine gI oW Tryz.func49 Tryz.results49 ?_
  exact wR @PG (aI f2 hw) ah
 ·have hw:=dR [[114,97,110,107,115],ak z] (by simp only[bz,dL,List.length_cons,List.length_nil];omega)
  refine gI oW Tryz.func49 Tryz.results49 ?_
  exact wR @afP (aI f2 hw) ah
theorem Ai{k c n d:Int}{key:List Nat}(h:vq k key c n d=0)(hk:k=2∨k=6):fH key=true:=by
 unfold vq at h
 split at h
 ·cases h
 ·split at h
  ·cases h
  ·rename_i h2
   rw[kV]
   have:=fun h3=>h2 ⟨hk,h3⟩
   exact Classical.byContradiction this
theorem abv(k:Int)(key:List Nat)(c n d:Int)(h:vq k key c n d=0)(ho:oct key)(hc:Wt c)(hn:Wt n)(hd:Wt d):Gxx 50 [.agg [vi k,vs key,vi c,vi n,vi d]] (vs (jn (lY k key c n d))):=by
 have f2:=jX c hc
 have f3:=jX n hn
 have f4:=jX d hd
 have w1:=zZ key
 have w2:=dS hc
 have w3:=dS hn
 have w4:=dS hd
 have hkey:=Ai h
 unfold lY
 rcases Sm h with rfl|rfl|rfl|rfl|rfl|rfl|rfl
 ·refine gI oW Tryz.func50 Tryz.results50 ?_
  exact wR @afQ trivial ah
 ·have hw:=dR [[112,111,105,110,116],kw key] (by simp only[bz,dL,List.length_cons,List.length_nil];omega)
  have f1:=PK key ho (hkey (.inl rfl))
  refine gI oW Tryz.func50 Tryz.results50 ?_
  exact wR @afR (aI f1 hw) ah
 ·refine gI oW Tryz.func50 Tryz.results50 ?_
  exact wR @LX trivial ah
 ·refine gI oW Tryz.func50 Tryz.results50 ?_
  exact wR @PH trivial ah
 ·have hw:=dR [[116,111,112],ak c] (by simp only[bz,dL,List.length_cons,List.length_nil];omega)
  refine gI oW Tryz.func50 Tryz.results50 ?_
  exact wR @ahk (aI f2 hw) ah
 ·have hw:=dR [[114,97,110,107],kw key] (by simp only[bz,dL,List.length_cons,List.length_nil];omega)
  have f1:=PK key ho (hkey (.inr rfl))
  refine gI oW Tryz.func50 Tryz.results50 ?_
  exact wR @ajM (aI f1 hw) ah
 ·have hw:=dR [[113,117,97,110,116,105,108,101],ak n,ak d] (by simp only[bz,dL,List.length_cons,List.length_nil];omega)
  refine gI oW Tryz.func50 Tryz.results50 ?_
  exact wR @PI (aI f3 (aI f4 hw)) ah
def IM(c:Cm)(k:List Nat)(w:Int)(row:Nat):Cm :=
 ⟨c.d,c.z,c.s,c.c.set (yJ c.s c.z row k).toNat (tq (c.c.getD (yJ c.s c.z row k).toNat 0) w 4294967295).1,c.b||(tq (c.c.getD (yJ c.s c.z row k).toNat 0) w 4294967295).2⟩
def iY(c:Cm)(k:List Nat)(w:Int):Nat→Cm
 | 0=>c
 | n+1=>IM (iY c k w n) k w n
theorem abw(a b m:Int)(hm:0≤m):0≤(tq a b m).1∧(tq a b m).1≤m:=by
 have h1:=Fb a
 have h2:=Fb b
 have h3:=Rt hm
 unfold tq
 split
 ·simp only;omega
 ·simp only;omega
theorem LY(c:Cm)(k:List Nat)(w:Int)(n:Nat):(iY c k w n).d=c.d∧(iY c k w n).z=c.z∧(iY c k w n).s=c.s∧(iY c k w n).c.length=c.c.length:=by
 induction n with
 | zero=>exact⟨rfl,rfl,rfl,rfl⟩
 | succ n ih=>simp only[iY,IM,List.length_set];exact ih
theorem VB{a b:Int}{l:List Int}(h:zq a b l=true)(i:Nat)(n:Int)(hn:a≤n∧n≤b):zq a b (l.set i n)=true:=by
 unfold zq at *
 rw[List.all_eq_true] at *
 intro x hx
 rcases List.mem_or_eq_of_mem_set hx with h1|rfl
 ·exact h x h1
 ·exact decide_eq_true hn
theorem VC(c:Cm)(k:List Nat)(w:Int)(h:zq 0 4294967295 c.c=true)(n:Nat):zq 0 4294967295 (iY c k w n).c=true:=by
 induction n with
 | zero=>exact h
 | succ n ih=>exact VB ih _ _ (abw _ _ _ (by decide))
def wI(c:Cm)(k:List Nat)(w:Int):Cm × Int:=if vCm c≠0 then (Cm.o,vCm c) else if eF k w≠0 then (Cm.o,eF k w) else (iY c k w c.d.toNat,0)
theorem PL{c:Cm}(h:vCm c=0):(1≤c.d∧c.d≤8)∧(1≤c.z∧c.z≤64)∧(c.c.length:Int)=c.d*c.z∧zq 0 4294967295 c.c=true:=by
 unfold vCm at h
 split at h
 ·cases h
 ·rename_i h1
  split at h
  ·cases h
  ·rename_i h2
   split at h
   ·rename_i h3
    have h1:1≤c.d∧c.d≤8∧1≤c.z∧c.z≤64:=Classical.byContradiction h1
    exact⟨by omega,by omega,by omega,h3⟩
   ·cases h
theorem abx:wkV (.agg [vi 0,vi 0,vu 0,nls,vb false]) (.agg (cmF Cm.o)) := .inr ⟨_,_,rfl,rfl,⟨.inl rfl,.inl rfl,.inl rfl,oq _ _,.inl rfl,trivial⟩⟩
theorem zi(c:Cm)(k:List Nat)(w:Int)(ho:oct k):Gxx 173 [.agg (cmF c),.agg [vs k,vi w]] (.tup [.agg (cmF (wI c k w).1),vi (wI c k w).2]):=by
 have h1:=lg c
 have h2:=bZ k w
 unfold wI
 by_cases c1:vCm c=0
 ·rw[if_neg (by omega)]
  rw[c1] at h1
  by_cases c2:eF k w=0
  ·rw[if_neg (by omega)]
   rw[c2] at h2
   obtain⟨i1,i2,i3,i4⟩:=PL c1
   obtain⟨j1,j2⟩:=rJ c2
   have hm:=zY i1 i2
   have hd:=LY c k w
   have hin:=VC c k w i4
   have hcell:=fun (r:Nat) (hr:(r:Int)<c.d)=>F7 c.s c.z r c.d k i2.1 ⟨by omega,hr⟩
   have e0:iY c k w 0=c:=rfl
   have es:∀n,iY c k w (n+1)=IM (iY c k w n) k w n:=fun _=>rfl
   have hcl:=fun (n:Nat) (hn:(n:Int)≤7)=>afa (iY c k w n) n k ho (by omega) (by rw[(hd n).2.1];exact i2) j2
   have ec:cmF (iY c k w c.d.toNat)=[vi c.d,vi c.z,vu c.s,fzi (iY c k w c.d.toNat).c,vb (iY c k w c.d.toNat).b]:=by
    show [vi (iY c k w c.d.toNat).d,vi (iY c k w c.d.toNat).z,vu (iY c k w c.d.toNat).s,_,_]=_
    rw[(hd _).1,(hd _).2.1,(hd _).2.2.1]
   refine Good.fzt (vs:=[.agg [vi c.d,vi c.z,vu c.s,.sl (.own 0 3) 1 (iv (iY c k w c.d.toNat).c),vb (iY c k w c.d.toNat).b],vi 0]) ?_ rfl (by simp only;rw[ec];exact⟨aA _,aA _,trivial⟩)
   generalize hR:iY c k w=R at *
   obtain⟨d,z,s,l,b⟩:=c
   simp only at i1 i2 i3 i4 hd hcell e0 ⊢
   have hil:=bP l
   refine gI oW Tryz.func173 Tryz.results173 ?_
   refine wS @bP (aI h1 h2) ?_
   refine aK (fun r:Nat=>mkA [(2,.ref 0 0),(3,.ref 1 0),(4,.ref 2 0),(8,vi r)] [(0,(82,[vi d,vi z,vu s,.sl (.own 0 3) 1 (iv (R r).c),vb (R r).b])),(1,(64,[vs k,vi w])),(2,(82,[vi 0,vi 0,vu 0,nls,vb false]))] 3 (fun _ => .top)) (fun r=>r≤d.toNat) (fun r=>d.toNat-r) 0 [3] [0,1,2] ?_ (Nat.zero_le _) ?_
   ·(refine iy ?_ ?_ (kD _ _ _) (by decide) (by decide) (by decide) (by decide);(repeat' (first|exact trivial|refine gJ _ _ rfl rfl ?_ ?_));all_goals (try simp only[pgs,pgl,pgx,pgf,pgw,fQ,ig,fU,iq,dB,eY,fJ,pgn,simprocAttr]);all_goals (try (repeat' (first|apply aI)));all_goals (try (first|exact trivial|exact gB (by omega)|exact gq rfl|exact aW rfl rfl|exact je rfl)))
    all_goals first|(exact aW rfl (by rw[e0]))|(exact gq (by rw[e0]))|skip
   ·intro r hr
    replace hr:r≤d.toNat:=hr
    rcases Nat.lt_or_ge r d.toNat with hlt|hge
    ·have hrd:(r:Int)<d:=by omega
     have hq:=hcell r hrd
     have hk1:=hcl r (by omega)
     obtain⟨d1,d2,d3,d4⟩:=hd r
     have hRr:=es r
     have hinr:=hin r
     generalize hR1:R r=q at *
     obtain⟨qd,qz,qs,ql,qb⟩:=q
     simp only at d1 d2 d3 d4 hk1 hinr hRr
     subst d1
     subst d2
     subst d3
     rw[IM] at hRr
     simp only at hRr
     generalize hcc:yJ qs qz (r:Int) k=ci at *
     have hcn:ci.toNat<ql.length:=by omega
     have hg:=mg ql ci.toNat hcn
     have hgin:=F6 hinr hcn
     generalize hgg:ql.getD ci.toNat 0=g at *
     have hadd:=Io g w 4294967295 (by decide) (by unfold W64;omega) (by unfold W64;omega)
     generalize tq g w 4294967295=a at *
     obtain⟨a1,a2⟩:=a
     simp only at hadd hRr
     have hql:=bP ql
     cases qb
     ·cases a2
      ·refine wS (aI @bP (aI @hg @Il)) (aI hk1 hadd) ?_
       (refine bC (r+1) [0] [0,1,2] (hlt) (by first|omega|(simp only[List.length_cons];omega)) ?_;(refine iy ?_ ?_ (kD _ _ _) (by decide) (by decide) (by decide) (by decide);(repeat' (first|exact trivial|refine gJ _ _ rfl rfl ?_ ?_));all_goals (try simp only[pgs,pgl,pgx,pgf,pgw,fQ,ig,fU,iq,dB,eY,fJ,pgn,simprocAttr]);all_goals (try (repeat' (first|apply aI)));all_goals (try (first|exact trivial|exact gB (by omega)|exact gq rfl|exact aW rfl rfl|exact je rfl))))
       all_goals first|(exact aW rfl (by rw[hRr]))|(exact gq (by rw[hRr];rfl))|skip
      ·refine wS (aI @bP (aI @hg @Il)) (aI hk1 hadd) ?_
       (refine bC (r+1) [0] [0,1,2] (hlt) (by first|omega|(simp only[List.length_cons];omega)) ?_;(refine iy ?_ ?_ (kD _ _ _) (by decide) (by decide) (by decide) (by decide);(repeat' (first|exact trivial|refine gJ _ _ rfl rfl ?_ ?_));all_goals (try simp only[pgs,pgl,pgx,pgf,pgw,fQ,ig,fU,iq,dB,eY,fJ,pgn,simprocAttr]);all_goals (try (repeat' (first|apply aI)));all_goals (try (first|exact trivial|exact gB (by omega)|exact gq rfl|exact aW rfl rfl|exact je rfl))))
       all_goals first|(exact aW rfl (by rw[hRr]))|(exact gq (by rw[hRr];rfl))|skip
     ·refine wS (aI @bP (aI @hg @Il)) (aI hk1 hadd) ?_
      (refine bC (r+1) [0] [0,1,2] (hlt) (by first|omega|(simp only[List.length_cons];omega)) ?_;(refine iy ?_ ?_ (kD _ _ _) (by decide) (by decide) (by decide) (by decide);(repeat' (first|exact trivial|refine gJ _ _ rfl rfl ?_ ?_));all_goals (try simp only[pgs,pgl,pgx,pgf,pgw,fQ,ig,fU,iq,dB,eY,fJ,pgn,simprocAttr]);all_goals (try (repeat' (first|apply aI)));all_goals (try (first|exact trivial|exact gB (by omega)|exact gq rfl|exact aW rfl rfl|exact je rfl))))
      all_goals first|(exact aW rfl (by rw[hRr]))|(exact gq (by rw[hRr];rfl))|skip
    ·have:r=d.toNat:=by omega
     subst this
     exact wR @bP trivial (ids [0])
  ·rw[if_pos (by omega)]
   refine Good.fzt (vs:=[.agg [vi 0,vi 0,vu 0,nls,vb false],vi (eF k w)]) ?_ rfl ⟨abx,aA _,trivial⟩
   refine gI oW Tryz.func173 Tryz.results173 ?_
   exact wR trivial (aI h1 h2) ah
 ·rw[if_pos (by omega)]
  refine Good.fzt (vs:=[.agg [vi 0,vi 0,vu 0,nls,vb false],vi (vCm c)]) ?_ rfl ⟨abx,aA _,trivial⟩
  refine gI oW Tryz.func173 Tryz.results173 ?_
  exact wR trivial h1 ah
def vLl(l:Ll):Int:=if ¬(2≤l.p∧l.p≤8) then 5 else if l.r.length≠2^l.p.toNat then 18 else if zq 0 (65-l.p) l.r=true then 0 else 5
theorem Aj{p:Int}(hp:2≤p∧p≤8):IntKind.i64.wrap (1*2^min p.toNat IntKind.i64.bits)=((2^p.toNat:Nat):Int)∧2^p.toNat≤256∧1≤2^p.toNat:=by
 have:p=2∨p=3∨p=4∨p=5∨p=6∨p=7∨p=8:=by omega
 rcases this with rfl|rfl|rfl|rfl|rfl|rfl|rfl<;>exact⟨by decide,by decide,by decide⟩
theorem mG(x:Ll)(hx:x.r.length≤1000000):Gxx 157 [.agg (llF x)] (vi (vLl x)):=by
 obtain⟨p,s,l⟩:=x
 simp only at hx
 unfold vLl
 simp only
 have hil:=bP l
 by_cases c1:2≤p∧p≤8
 ·rw[if_neg (by simpa using c1)]
  have k1:=aU p 2 8 c1
  obtain⟨hw,hp1,hp2⟩:=Aj c1
  by_cases c2:l.length=2^p.toNat
  ·rw[if_neg (by omega)]
   rw[←c2] at hw hp1 hp2
   refine gI oW Tryz.func157 Tryz.results157 ?_
   refine wS (aI @hw @bP) k1 ?_
   refine aK (fun i:Nat=>mkA [(1,.ref 0 0),(3,vi i)] [(0,(84,llF ⟨p,s,l⟩))] 1 (fun _ => .top)) (fun i=>i≤l.length∧zq 0 (65-p) (l.take i)=true) (fun i=>l.length-i) 0 [] [0] ?_ ⟨Nat.zero_le _,rfl⟩ ?_
   ·exact kE
   ·rintro i ⟨hi,ha⟩
    rcases Nat.lt_or_ge i l.length with hlt|hge
    ·have hg:=mg l i hlt
     have hx:=F5 (a:=0) (b:=65-p) hlt
     have hn:=DT (a:=0) (b:=65-p) hlt
     rw[ha] at hn
     generalize l.getD i 0=n at *
     by_cases hc:0≤n∧n≤65-p
     ·have k3:=aU n 0 (65-p) hc
      refine wS (aI @bP @hg) k3 ?_
      exact bE (i+1) [] [0] ⟨hlt,by rw[hn,decide_eq_true hc];rfl⟩
     ·have k3:=fC n 0 (65-p)
      rw[jY hc] at k3
      rw[hx hc,if_neg (by simp)]
      exact wR (aI @bP @hg) k3 ah
    ·have:i=l.length:=by omega
     subst this
     rw[List.take_length] at ha
     rw[ha,if_pos rfl]
     exact wR @bP trivial ah
  ·rw[if_pos c2]
   generalize hq:2^p.toNat=q at *
   refine gI oW Tryz.func157 Tryz.results157 ?_
   exact wR (aI @hw @bP) k1 ah
 ·rw[if_pos c1]
  have k1:=fC p 2 8
  rw[jY c1] at k1
  refine gI oW Tryz.func157 Tryz.results157 ?_
  exact wR trivial k1 ah
def aby(h:Int)(j:Nat):Int:=bits .and .u64 (h.fdiv (2^min j IntKind.u64.bits)) 1
def Ak(h:Int):Nat→Int
 | 0=>1
 | j+1=>if aby h j=0 then 1+Ak h j else 1
theorem Eh(h:Int)(j:Nat):1≤Ak h j∧Ak h j≤j+1:=by
 induction j with
 | zero=>simp [Ak]
 | succ j ih=>unfold Ak;split<;>omega
def IP(p s:Int)(k:List Nat):Int:=(uM (qp s 256) k).fdiv (2^min (64-p).toNat IntKind.u64.bits)
def afW(p s:Int)(k:List Nat):Int:=Ak (uM (qp s 256) k) (64-p).toNat
theorem LZ(p s:Int)(k:List Nat)(hp:2≤p∧p≤8):0≤IP p s k∧IP p s k<((2^p.toNat:Nat):Int):=by
 have h:=vV (qp s 256) k
 unfold IP
 generalize uM (qp s 256) k=x at *
 have:p=2∨p=3∨p=4∨p=5∨p=6∨p=7∨p=8:=by omega
 have key:∀m:Nat,1≤m→∀n:Int,x<n*(m:Int)→0≤x.fdiv (m:Int)∧x.fdiv (m:Int)<n:=by
  intro m hm n hn
  rw[Int.fdiv_eq_ediv_of_nonneg _ (by omega)]
  exact⟨Int.ediv_nonneg h.1 (by omega),Int.ediv_lt_of_lt_mul (by omega) hn⟩
 rcases this with rfl|rfl|rfl|rfl|rfl|rfl|rfl
 ·exact key (2^62) (by decide) 4 (by omega)
 ·exact key (2^61) (by decide) 8 (by omega)
 ·exact key (2^60) (by decide) 16 (by omega)
 ·exact key (2^59) (by decide) 32 (by omega)
 ·exact key (2^58) (by decide) 64 (by omega)
 ·exact key (2^57) (by decide) 128 (by omega)
 ·exact key (2^56) (by decide) 256 (by omega)
theorem L6(p s:Int)(k:List Nat)(ho:oct k)(hp:2≤p∧p≤8)(hk:1≤k.length∧k.length≤32):Gxx 211 [vi p,vu s,vs k] (.tup [vi (IP p s k),vi (afW p s k),vi 0]):=by
 have k1:=aU p 2 8 hp
 have k3:=uH k
 rw[Ik hk] at k3
 have k4:=Ru (qp s 256) (DN _ _) k ho (by omega)
 have hh:=vV (qp s 256) k
 have hr:=LZ p s k hp
 have hp2:=(Aj hp).2.1
 have er:IP p s k=(uM (qp s 256) k).fdiv (2^min (64-p).toNat IntKind.u64.bits):=rfl
 unfold afW
 generalize IP p s k=rg at *
 generalize uM (qp s 256) k=h at *
 refine gI oW Tryz.func211 Tryz.results211 ?_
 (repeat' first|refine wP trivial (aI k1 (aI k3 k4)) ?_|refine cU (KN _) ?_|refine tS ?_ ?_<;>intro hc|fail)
 refine aK (fun j:Nat × Int=>mkA [(0,vi p),(9,vu h),(11,vi j.2),(12,vi ((j.1:Int)-1))] [] 0 (fun _ => .top)) (fun j=>(j.1:Int)≤64-p∧1≤j.2∧j.2+Ak h j.1-1=Ak h (64-p).toNat) (fun j=>j.1) ((64-p).toNat,1) [] [] ?_ ⟨by simp only;omega,by simp only;omega,by simp only;omega⟩ ?_
 ·exact kE
  all_goals exact gB (by omega)
 ·rintro⟨j,q⟩ ⟨hj,hq1,hq⟩
  simp only at hj hq1 hq
  have hrn:=Eh h j
  have hrf:=Eh h (64-p).toNat
  cases j with
  | zero =>
   have e0:Ak h 0=1:=rfl
   rw[e0] at hq
   have:q=Ak h (64-p).toNat:=by omega
   subst this
   (repeat' (first|(simp (disch:=first|exact dqz|fail) only[pgz,simprocAttr,←er])|((with_reducible first|apply di|apply bK|apply dw)<;>intro hc<;>(try simp only[hc])<;>(try simp only[pgd] at hc))|(with_reducible refine cK ?_)))
   exact rE []
  | succ j =>
   have hrj:=Eh h j
   have en:Ak h (j+1)=if aby h j=0 then 1+Ak h j else 1:=rfl
   have hix:(((j+1:Nat):Int)-1)=(j:Int):=by omega
   have hix2:((j:Int)+1-1)=(j:Int):=by omega
   have hw:IntKind.u64.wrap (j:Int)=(j:Int):=ag3 _ (by omega) (by omega)
   by_cases hb:aby h j=0
   ·rw[en,if_pos hb] at hq
    unfold aby at hb
    refine wS (aI @hix (aI @hix2 (aI @hw @hb))) trivial ?_
    refine bC (j,q+1) [] [] ⟨by simp only;omega,by simp only;omega,by simp only;omega⟩ (by show j<j+1;omega) ?_
    exact kE
   ·rw[en,if_neg hb] at hq
    have:q=Ak h (64-p).toNat:=by omega
    subst this
    unfold aby at hb
    (repeat' (first|(simp (disch:=first|exact dqz|fail) only[pgz,simprocAttr,hix,hix2,hw,hb,←er])|((with_reducible first|apply di|apply bK|apply dw)<;>intro hc<;>(try simp only[hc])<;>(try simp only[pgd] at hc))|(with_reducible refine cK ?_)))
    exact rE []
def wJ(l:Ll)(k:List Nat)(w:Int):Ll × Int:=if vLl l≠0 then (Ll.o,vLl l) else if eF k w≠0 then (Ll.o,eF k w) else (⟨l.p,l.s,l.r.set (IP l.p l.s k).toNat (max (l.r.getD (IP l.p l.s k).toNat 0) (afW l.p l.s k))⟩,0)
theorem PM{l:Ll}(h:vLl l=0):(2≤l.p∧l.p≤8)∧l.r.length=2^l.p.toNat∧zq 0 (65-l.p) l.r=true:=by
 unfold vLl at h
 split at h
 ·cases h
 ·rename_i h1
  split at h
  ·cases h
  ·rename_i h2
   split at h
   ·rename_i h3
    exact⟨Classical.byContradiction h1,Classical.byContradiction h2,h3⟩
   ·cases h
theorem abz:wkV (.agg [vi 0,vu 0,nls]) (.agg (llF Ll.o)) := .inr ⟨_,_,rfl,rfl,⟨.inl rfl,.inl rfl,oq _ _,trivial⟩⟩
theorem BB(x:Ll)(k:List Nat)(w:Int)(ho:oct k)(hx:x.r.length≤1000000):Gxx 174 [.agg (llF x),.agg [vs k,vi w]] (.tup [.agg (llF (wJ x k w).1),vi (wJ x k w).2]):=by
 have h1:=mG x hx
 have h2:=bZ k w
 unfold wJ
 by_cases c1:vLl x=0
 ·rw[if_neg (by omega)]
  rw[c1] at h1
  by_cases c2:eF k w=0
  ·rw[if_neg (by omega)]
   rw[c2] at h2
   obtain⟨i1,i2,i3⟩:=PM c1
   obtain⟨j1,j2⟩:=rJ c2
   have hr:=LZ x.p x.s k i1
   have hp:=(Aj i1).2
   have k1:=L6 x.p x.s k ho i1 j2
   obtain⟨p,s,l⟩:=x
   simp only at i1 i2 i3 hr hp k1 hx ⊢
   rw[←i2] at hr
   generalize IP p s k=rg at *
   generalize afW p s k=rk at *
   have hrn:rg.toNat<l.length:=by omega
   have hg:=mg l rg.toNat hrn
   generalize hgg:l.getD rg.toNat 0=g at *
   have hil:=bP l
   refine Good.fzt (vs:=[.agg [vi p,vu s,.sl (.own 0 3) 1 (iv (l.set rg.toNat (max g rk)))],vi 0]) ?_ rfl ⟨aA _,aA _,trivial⟩
   refine gI oW Tryz.func174 Tryz.results174 ?_
   exact wR (aI @bP (aI @hg @Il)) (aI h1 (aI h2 k1)) (ids [3])
  ·rw[if_pos (by omega)]
   refine Good.fzt (vs:=[.agg [vi 0,vu 0,nls],vi (eF k w)]) ?_ rfl ⟨abz,aA _,trivial⟩
   refine gI oW Tryz.func174 Tryz.results174 ?_
   exact wR trivial (aI h1 h2) ah
 ·rw[if_pos (by omega)]
  refine Good.fzt (vs:=[.agg [vi 0,vu 0,nls],vi (vLl x)]) ?_ rfl ⟨abz,aA _,trivial⟩
  refine gI oW Tryz.func174 Tryz.results174 ?_
  exact wR trivial h1 ah
def Ei(t:Tl):List Nat:=aO t.t.toNat++aO t.i.toNat++mP t.b
def lM(l:List Int):List Nat:=l.flatMap fun n=>aO n.toNat
def Ej(c:Cm):List Nat:=aO c.d.toNat++aO c.z.toNat++kP c.s++lM c.c++mP c.b
def Em(x:Ll):List Nat:=aO x.p.toNat++kP x.s++x.r.map u8i
def Am(e:En):List Nat:=ku e.1++aO e.2.1.toNat++aO e.2.2.toNat
def Eo(t:Tp):List Nat:=aO t.z.toNat++aO t.t.toNat++mP t.b++aO t.e.length++t.e.flatMap Am
def Ap(e:En):List Nat:=ku e.1++aO e.2.1.toNat
def Ep(t:Fq):List Nat:=aO t.z.toNat++aO t.t.toNat++aO t.l.toNat++mP t.b++aO t.e.length++t.e.flatMap Ap
def vC(l:List (List Nat)):List Nat:=aO l.length++l.flatMap ku
def Es(x:Rk):List Nat:=aO x.z.toNat++aO x.t.toNat++aO x.l.toNat++mP x.b++aO x.v.length++x.v.flatMap vC
theorem L8(l:List Int)(i:Nat)(h:i<l.length):lM (l.take (i+1))=lM (l.take i)++aO (l.getD i 0).toNat:=by
 rw[List.take_succ_eq_append_getElem h,lM,List.flatMap_append];simp [lM,List.getD,h]
theorem P6{α:Type}(f:α→List Nat)(d:α)(l:List α)(i:Nat)(h:i<l.length):(l.take (i+1)).flatMap f=(l.take i).flatMap f++f (l.getD i d):=by
 rw[List.take_succ_eq_append_getElem h,List.flatMap_append];simp [List.getD,h]
theorem Aq{α:Type}(f:α→List Nat)(B:Nat)(l:List α)(h:∀x∈l,(f x).length≤B):(l.flatMap f).length≤l.length*B:=by
 induction l with
 | nil=>simp
 | cons a l ih =>
  have h1:=h a (by simp)
  have h2:=ih fun x hx=>h x (by simp [hx])
  simp only[List.flatMap_cons,List.length_append,List.length_cons,Nat.succ_mul]
  omega
theorem nV{α:Type}(f:α→List Nat)(B:Nat)(l:List α)(i:Nat)(h:∀x∈l,(f x).length≤B):((l.take i).flatMap f).length≤l.length*B:=by
 refine Nat.le_trans (Aq f B (l.take i) fun x hx=>h x (List.mem_of_mem_take hx)) (Nat.mul_le_mul_right _ ?_)
 rw[List.length_take];omega
theorem Et(t:Tl)(h:vTl t=0):Gxx 114 [.agg (tlF t)] (.tup [fzb (Ei t),vi 0]):=by
 have h1:=nC t
 rw[h] at h1
 have hr:(0≤t.t∧t.t≤4294967295)∧(0≤t.i∧t.i≤4294967295):=by
  unfold vTl at h
  split at h
  ·omega
  ·cases h
 have h2:=kW t.t (by omega)
 have h3:=iW t.i (by omega)
 have h4:=vz t.b
 have l2:=aS t.t.toNat
 have l3:=aS t.i.toNat
 have l4:=jU t.b
 unfold Ei
 generalize aO t.t.toNat=a at *
 generalize aO t.i.toNat=b at *
 have ha:=ax a
 have hb:=ax b
 have hab:=dP a b
 have hab2:=ax (a++b)
 rw[List.length_append] at hab2
 generalize mP t.b=c at *
 have hc:=ax c
 have habc:=dP (a++b) c
 refine Good.fzt (vs:=[ob 0 (a++b++c),vi 0]) ?_ rfl ⟨aA _,aA _,trivial⟩
 obtain⟨t1,t2,t3⟩:=t
 simp only at *
 refine gI oW Tryz.func114 Tryz.results114 ?_
 exact wR (aI @ha (aI @hb (aI @hab (aI @hab2 (aI @hc @habc))))) (aI h1 (aI h2 (aI h3 h4))) (ids [1])
theorem zl(c:Cm)(h:vCm c=0)(hs:0≤c.s∧c.s<18446744073709551616):Gxx 115 [.agg (cmF c)] (.tup [fzb (Ej c),vi 0]):=by
 have h1:=lg c
 rw[h] at h1
 obtain⟨i1,i2,i3,i4⟩:=PL h
 have hm:=zY i1 i2
 have h2:=kW c.d (by omega)
 have h3:=iW c.z (by omega)
 have h4:=vz c.b
 have h5:=LP c.s hs
 have l2:=aS c.d.toNat
 have l3:=aS c.z.toNat
 have l4:=jU c.b
 have l5:=lV c.s
 have hcell:=fun i (hi:i<c.c.length)=>F6 i4 hi
 have hnx:=fun i (hi:i<c.c.length)=>L8 c.c i hi
 have hln:=fun i=>nV (fun n:Int=>aO n.toNat) 9 c.c i (fun x _=>aS _)
 unfold Ej
 generalize hA:aO c.d.toNat++aO c.z.toNat++kP c.s=A
 have hAl:A.length≤26:=by rw[←hA];simp only[List.length_append];omega
 refine Good.fzt (vs:=[ob 0 (A++lM c.c++mP c.b),vi 0]) ?_ rfl ⟨aA _,aA _,trivial⟩
 generalize aO c.d.toNat=a at *
 generalize aO c.z.toNat=b at *
 generalize kP c.s=e at *
 generalize mP c.b=f at *
 have ha:=ax a
 have hb:=ax b
 have he:=ax e
 have hf:=ax f
 have hab:=dP a b
 have hab2:=ax (a++b)
 rw[List.length_append] at hab2
 have habe:=dP (a++b) e
 obtain⟨d,z,s,l,bb⟩:=c
 simp only at *
 have hil:=bP l
 refine gI oW Tryz.func115 Tryz.results115 ?_
 refine wS (aI @ha (aI @hb (aI @he (aI @hab (aI @hab2 (aI @habe @hA)))))) (aI h1 (aI h2 (aI h3 h5))) ?_
 refine aK (fun i:Nat=>mkA [(1,.ref 0 0),(5,ob 0 (A++lM (l.take i))),(6,vi i)] [(0,(82,cmF ⟨d,z,s,l,bb⟩))] 1 (fun _ => .top)) (fun i=>i≤l.length) (fun i=>l.length-i) 0 [1] [0] ?_ (Nat.zero_le _) ?_
 ·refine kL ?_
  all_goals first|exact aW rfl (by simp [lM])|skip
 ·intro i hi
  replace hi:i≤l.length:=hi
  have hbl:=ax (A++lM (l.take i))
  have hl2:(A++lM (l.take i)).length≤100000:=by
   have:=hln i
   rw[List.length_append]
   show A.length+(lM (l.take i)).length≤_
   unfold lM
   omega
  rcases Nat.lt_or_ge i l.length with hlt|hge
  ·have hg:=mg l i hlt
   have hx:=hcell i hlt
   have hn:=hnx i hlt
   have k1:=iW (l.getD i 0) (by omega)
   have k2:=aS (l.getD i 0).toNat
   have hap:=dP (A++lM (l.take i)) (aO (l.getD i 0).toNat)
   rw[List.append_assoc A,←hn] at hap
   generalize aO (l.getD i 0).toNat=u at *
   generalize l.getD i 0=n at *
   have hul:=ax u
   refine wS (aI @hil (aI @hg (aI @hbl (aI @hul @hap)))) k1 ?_
   exact bE (i+1) [0] [0] hlt
  ·have:i=l.length:=by omega
   subst this
   rw[List.take_length] at *
   have hap:=dP (A++lM l) f
   exact wR (aI @hil (aI @hbl (aI @hf @hap))) h4 (ids [0])
theorem BC(x:Ll)(h:vLl x=0)(hs:0≤x.s∧x.s<18446744073709551616)(hn:x.r.length≤1000000):Gxx 116 [.agg (llF x)] (.tup [fzb (Em x),vi 0]):=by
 have h1:=mG x hn
 rw[h] at h1
 obtain⟨i1,i2,i3⟩:=PM h
 have h2:=kW x.p (by omega)
 have h5:=LP x.s hs
 have l2:=aS x.p.toNat
 have l5:=lV x.s
 unfold Em
 generalize hA:aO x.p.toNat++kP x.s=A
 have hAl:A.length≤17:=by rw[←hA];simp only[List.length_append];omega
 refine Good.fzt (vs:=[ob 0 (A++x.r.map u8i),vi 0]) ?_ rfl ⟨aA _,aA _,trivial⟩
 generalize aO x.p.toNat=a at *
 generalize kP x.s=e at *
 have ha:=ax a
 have he:=ax e
 have hae:=dP a e
 obtain⟨z,s,l⟩:=x
 simp only at *
 have hil:=bP l
 refine gI oW Tryz.func116 Tryz.results116 ?_
 refine wS (aI @ha (aI @he (aI @hae @hA))) (aI h1 (aI h2 h5)) ?_
 refine aK (fun i:Nat=>mkA [(1,.ref 0 0),(5,ob 0 (A++(l.take i).map u8i)),(6,vi i)] [(0,(84,llF ⟨z,s,l⟩))] 1 (fun _ => .top)) (fun i=>i≤l.length) (fun i=>l.length-i) 0 [1] [0] ?_ (Nat.zero_le _) ?_
 ·exact kE
  all_goals first|exact aW rfl (by simp)|skip
 ·intro i hi
  replace hi:i≤l.length:=hi
  have hbl:=ax (A++(l.take i).map u8i)
  have hl2:(A++(l.take i).map u8i).length≤2000000:=by simp only[List.length_append,List.length_map,List.length_take];omega
  rcases Nat.lt_or_ge i l.length with hlt|hge
  ·have hg:=mg l i hlt
   have hx:=afE (l.getD i 0)
   have hap:bv (A++(l.take i).map u8i)++[V.c (.int .u8 ((u8i (l.getD i 0):Nat):Int))]=bv (A++(l.take (i+1)).map u8i):=by
    have e:(l.take (i+1)).map u8i=(l.take i).map u8i++[u8i (l.getD i 0)]:=by rw[List.take_succ_eq_append_getElem hlt,List.map_append];simp [List.getD,hlt]
    rw[bvS,List.append_assoc,←e]
   generalize u8i (l.getD i 0)=u at *
   generalize l.getD i 0=n at *
   refine wS (aI @hil (aI @hg (aI @hbl (aI @hx @hap)))) trivial ?_
   exact bE (i+1) [0] [0] hlt
  ·have:i=l.length:=by omega
   subst this
   rw[List.take_length]
   exact wR @hil trivial (ids [0])
theorem L9(e:En)(h:e.1.length≤32):(Am e).length≤59:=by
 have h1:=nH e.1
 have h2:=aS e.2.1.toNat
 have h3:=aS e.2.2.toNat
 unfold Am;simp only[List.length_append];omega
theorem jS{α:Type}(l:List α)(i:Nat)(d:α)(h:i<l.length):l.getD i d∈l:=by rw[List.getD_eq_getElem?_getD,List.getElem?_eq_getElem h];exact List.getElem_mem h
theorem qh{α:Type}{l:List α}{x:α}(d:α)(h:x∈l):∃i,i<l.length∧l.getD i d=x:=by
 obtain⟨i,hi,rfl⟩:=List.getElem_of_mem h
 exact⟨i,hi,by simp [List.getD,hi]⟩
theorem IQ(t:Tp)(h:vTp t=0)(ho:octE t.e)(hn:t.e.length≤1000000):Gxx 117 [.agg (tpF t)] (.tup [fzb (Eo t),vi 0]):=by
 have h1:=pX t ho hn
 rw[h] at h1
 obtain⟨i1,i2,i3,i4⟩:=IA h
 have hen:=fun i (hi:i<t.e.length)=>yV (i4 i hi)
 have h2:=kW t.z (by omega)
 have h3:=iW t.t (by omega)
 have h4:=vz t.b
 have h5:=iW (t.e.length:Int) (by omega)
 rw[Int.toNat_natCast] at h5
 have l2:=aS t.z.toNat
 have l3:=aS t.t.toNat
 have l4:=jU t.b
 have l5:=aS t.e.length
 have hkl:∀i,i<t.e.length→(t.e.getD i eD).1.length≤32:=fun i hi=>by have:=(hen i hi).1;rw[kV] at this;exact this.2
 have hnx:=fun i (hi:i<t.e.length)=>P6 Am eD t.e i hi
 have hln:=fun i=>nV Am 59 t.e i (fun x hx=>by obtain⟨j,hj,he⟩:=qh eD hx;exact L9 x (by rw[←he];exact hkl j hj))
 unfold Eo
 generalize hA:aO t.z.toNat++aO t.t.toNat++mP t.b++aO t.e.length=A
 have hAl:A.length≤28:=by rw[←hA];simp only[List.length_append];omega
 refine Good.fzt (vs:=[ob 0 (A++t.e.flatMap Am),vi 0]) ?_ rfl ⟨aA _,aA _,trivial⟩
 generalize aO t.z.toNat=a at *
 generalize aO t.t.toNat=b at *
 generalize mP t.b=f at *
 generalize aO t.e.length=e at *
 have ha:=ax a
 have hb:=ax b
 have he:=ax e
 have hf:=ax f
 have hab:=dP a b
 have hab2:=ax (a++b)
 rw[List.length_append] at hab2
 have habf:=dP (a++b) f
 have habf2:=ax (a++b++f)
 rw[List.length_append,List.length_append] at habf2
 have habfe:=dP (a++b++f) e
 obtain⟨z,tt,l,bb⟩:=t
 simp only at *
 have hil:=aY l
 have hol:=fun i=>lu ho i
 refine gI oW Tryz.func117 Tryz.results117 ?_
 refine wS (aI @hil (aI @ha (aI @hb (aI @he (aI @hf (aI @hab (aI @hab2 (aI @habf (aI @habf2 (aI @habfe @hA)))))))))) (aI h1 (aI h2 (aI h3 (aI h4 h5)))) ?_
 refine aK (fun i:Nat=>mkA [(1,.ref 0 0),(5,ob 0 (A++(l.take i).flatMap Am)),(6,vi i)] [(0,(86,tpF ⟨z,tt,l,bb⟩))] 1 (fun _ => .top)) (fun i=>i≤l.length) (fun i=>l.length-i) 0 [1] [0] ?_ (Nat.zero_le _) ?_
 ·refine kL ?_
  all_goals first|exact aW rfl (by simp)|skip
 ·intro i hi
  replace hi:i≤l.length:=hi
  have hbl:=ax (A++(l.take i).flatMap Am)
  have hl2:(A++(l.take i).flatMap Am).length≤100000000:=by have:=hln i;rw[List.length_append];omega
  rcases Nat.lt_or_ge i l.length with hlt|hge
  ·have hg:=jr l i hlt
   have hx:=hen i hlt
   have hn1:=hnx i hlt
   have hk:=hkl i hlt
   have ho1:=hol i
   generalize l.getD i ([],0,0)=y at *
   obtain⟨k,c,er⟩:=y
   simp only at hg hx hn1 hk ho1
   have k1:=Ef k ho1 (by omega)
   have k2:=iW c (by omega)
   have k3:=iW er (by omega)
   have q1:=nH k
   have q2:=aS c.toNat
   have q3:=aS er.toNat
   have hE:Am (k,c,er)=ku k++aO c.toNat++aO er.toNat:=rfl
   rw[hE] at hn1
   generalize (l.take i).flatMap Am=M at *
   generalize ku k=u at *
   generalize aO c.toNat=v at *
   generalize aO er.toNat=w at *
   have hul:=ax u
   have hvl:=ax v
   have hwl:=ax w
   have p1:=dP (A++M) u
   have p2:=ax (A++M++u)
   rw[List.length_append] at p2
   have p3:=dP (A++M++u) v
   have p4:=ax (A++M++u++v)
   rw[List.length_append,List.length_append] at p4
   have p5:=dP (A++M++u++v) w
   have p6:A++M++u++v++w=A++(l.take (i+1)).flatMap Am:=by rw[hn1];simp only[List.append_assoc]
   rw[p6] at p5
   refine wS (aI @hil (aI @hg (aI @hbl (aI @hul (aI @hvl (aI @hwl (aI @p1 (aI @p2 (aI @p3 (aI @p4 @p5)))))))))) (aI k1 (aI k2 k3)) ?_
   exact bE (i+1) [0] [0] hlt
  ·have:i=l.length:=by omega
   subst this
   rw[List.take_length]
   exact wR @hil trivial (ids [0])
theorem Mc(e:En)(h:e.1.length≤32):(Ap e).length≤50:=by
 have h1:=nH e.1
 have h2:=aS e.2.1.toNat
 unfold Ap;simp only[List.length_append];omega
theorem zo(t:Fq)(h:vFq t=0)(ho:octE t.e)(hn:t.e.length≤1000000):Gxx 118 [.agg (fqF t)] (.tup [fzb (Ep t),vi 0]):=by
 have h1:=lm t ho hn
 rw[h] at h1
 obtain⟨i1,i2,i2',i3,i4⟩:=IC h
 have hen:=fun i (hi:i<t.e.length)=>yZ (i4 i hi)
 have h2:=kW t.z (by omega)
 have h3:=iW t.t (by omega)
 have h3':=iW t.l (by omega)
 have h4:=vz t.b
 have h5:=iW (t.e.length:Int) (by omega)
 rw[Int.toNat_natCast] at h5
 have l2:=aS t.z.toNat
 have l3:=aS t.t.toNat
 have l3':=aS t.l.toNat
 have l4:=jU t.b
 have l5:=aS t.e.length
 have hkl:∀i,i<t.e.length→(t.e.getD i eD).1.length≤32:=fun i hi=>by have:=(hen i hi).1;rw[kV] at this;exact this.2
 have hnx:=fun i (hi:i<t.e.length)=>P6 Ap eD t.e i hi
 have hln:=fun i=>nV Ap 50 t.e i (fun x hx=>by obtain⟨j,hj,he⟩:=qh eD hx;exact Mc x (by rw[←he];exact hkl j hj))
 unfold Ep
 generalize hA:aO t.z.toNat++aO t.t.toNat++aO t.l.toNat++mP t.b++aO t.e.length=A
 have hAl:A.length≤37:=by rw[←hA];simp only[List.length_append];omega
 refine Good.fzt (vs:=[ob 0 (A++t.e.flatMap Ap),vi 0]) ?_ rfl ⟨aA _,aA _,trivial⟩
 generalize aO t.z.toNat=a at *
 generalize aO t.t.toNat=b at *
 generalize aO t.l.toNat=c at *
 generalize mP t.b=f at *
 generalize aO t.e.length=e at *
 have ha:=ax a
 have hb:=ax b
 have hc:=ax c
 have he:=ax e
 have hf:=ax f
 have hab:=dP a b
 have hab2:=ax (a++b)
 rw[List.length_append] at hab2
 have habc:=dP (a++b) c
 have habc2:=ax (a++b++c)
 rw[List.length_append,List.length_append] at habc2
 have habf:=dP (a++b++c) f
 have habf2:=ax (a++b++c++f)
 rw[List.length_append,List.length_append,List.length_append] at habf2
 have habfe:=dP (a++b++c++f) e
 obtain⟨z,tt,tl,l,bb⟩:=t
 simp only at *
 have hil:=aY l
 have hol:=fun i=>lu ho i
 refine gI oW Tryz.func118 Tryz.results118 ?_
 refine wS (aI @hil (aI @ha (aI @hb (aI @hc (aI @he (aI @hf (aI @hab (aI @hab2 (aI @habc (aI @habc2 (aI @habf (aI @habf2 (aI @habfe @hA))))))))))))) (aI h1 (aI h2 (aI h3 (aI h3' (aI h4 h5))))) ?_
 refine aK (fun i:Nat=>mkA [(1,.ref 0 0),(5,ob 0 (A++(l.take i).flatMap Ap)),(6,vi i)] [(0,(88,fqF ⟨z,tt,tl,l,bb⟩))] 1 (fun _ => .top)) (fun i=>i≤l.length) (fun i=>l.length-i) 0 [1] [0] ?_ (Nat.zero_le _) ?_
 ·refine kL ?_
  all_goals first|exact aW rfl (by simp)|skip
 ·intro i hi
  replace hi:i≤l.length:=hi
  have hbl:=ax (A++(l.take i).flatMap Ap)
  have hl2:(A++(l.take i).flatMap Ap).length≤100000000:=by have:=hln i;rw[List.length_append];omega
  rcases Nat.lt_or_ge i l.length with hlt|hge
  ·have hg:=jr l i hlt
   have hx:=hen i hlt
   have hn1:=hnx i hlt
   have hk:=hkl i hlt
   have ho1:=hol i
   generalize l.getD i ([],0,0)=y at *
   obtain⟨k,c,er⟩:=y
   simp only at hg hx hn1 hk ho1
   have k1:=Ef k ho1 (by omega)
   have k2:=iW c (by omega)
   have q1:=nH k
   have q2:=aS c.toNat
   have hE:Ap (k,c,er)=ku k++aO c.toNat:=rfl
   rw[hE] at hn1
   generalize (l.take i).flatMap Ap=M at *
   generalize ku k=u at *
   generalize aO c.toNat=v at *
   have hul:=ax u
   have hvl:=ax v
   have p1:=dP (A++M) u
   have p2:=ax (A++M++u)
   rw[List.length_append] at p2
   have p3:=dP (A++M++u) v
   have p6:A++M++u++v=A++(l.take (i+1)).flatMap Ap:=by rw[hn1];simp only[List.append_assoc]
   rw[p6] at p3
   refine wS (aI @hil (aI @hg (aI @hbl (aI @hul (aI @hvl (aI @p1 (aI @p2 @p3))))))) (aI k1 k2) ?_
   exact bE (i+1) [0] [0] hlt
  ·have:i=l.length:=by omega
   subst this
   rw[List.take_length]
   exact wR @hil trivial (ids [0])
theorem Md(l:List (List Nat))(h:∀k∈l,k.length≤32)(hl:l.length≤31):(vC l).length≤1280:=by
 have h1:=aS l.length
 have h2:=Aq ku 41 l (fun k hk=>by have:=nH k;have:=h k hk;omega)
 unfold vC;rw[List.length_append];omega
theorem Me{x:Rk}(h:vRk x=0):∀i,i<x.v.length→∀k∈x.v.getD i [],k.length≤32:=by
 intro i hi k hk
 have h3:tC (uY x.z x.v) x.v.length 0=0:=by
  unfold vRk at h
  split at h
  ·cases h
  ·split at h
   ·cases h
   ·split at h
    ·rename_i h3;exact absurd h h3
    ·rename_i h3;exact Classical.byContradiction h3
 have h4:=D8 _ _ _ h3 i (Nat.zero_le _) (by omega)
 unfold uY at h4
 split at h4
 ·cases h4
 ·obtain⟨j,hj,he⟩:=qh [] hk
  have h5:=D8 _ _ _ h4 j (Nat.zero_le _) (by omega)
  unfold Gs at h5
  split at h5
  ·cases h5
  ·rename_i h6
   have:fH ((x.v.getD i []).getD j [])=true:=by simpa using h6
   rw[kV,he] at this
   exact this.2
theorem Eu(x:Rk)(h:vRk x=0)(hv:∀l∈x.v,octL l)(hn:x.v.length≤1000000)(hn2:∀l∈x.v,l.length≤1000000):Gxx 119 [.agg (rkF x)] (.tup [fzb (Es x),vi 0]):=by
 have h1:=nG x hv hn hn2
 rw[h] at h1
 have hkeys:=Me h
 obtain⟨i1,i2,i2',i3,i4⟩:=IG h
 have h2:=kW x.z (by omega)
 have h3:=iW x.t (by omega)
 have h3':=iW x.l (by omega)
 have h4:=vz x.b
 have h5:=iW (x.v.length:Int) (by omega)
 rw[Int.toNat_natCast] at h5
 have l2:=aS x.z.toNat
 have l3:=aS x.t.toNat
 have l3':=aS x.l.toNat
 have l4:=jU x.b
 have l5:=aS x.v.length
 have hnx:=fun i (hi:i<x.v.length)=>P6 vC [] x.v i hi
 have hln:=fun i=>nV vC 1280 x.v i (fun l hl=>by obtain⟨j,hj,he⟩:=qh [] hl;rw[←he];exact Md _ (hkeys j hj) (i4 j))
 unfold Es
 generalize hA:aO x.z.toNat++aO x.t.toNat++aO x.l.toNat++mP x.b++aO x.v.length=A
 have hAl:A.length≤37:=by rw[←hA];simp only[List.length_append];omega
 refine Good.fzt (vs:=[ob 0 (A++x.v.flatMap vC),vi 0]) ?_ rfl ⟨aA _,aA _,trivial⟩
 generalize aO x.z.toNat=a at *
 generalize aO x.t.toNat=b at *
 generalize aO x.l.toNat=c at *
 generalize mP x.b=f at *
 generalize aO x.v.length=e at *
 have ha:=ax a
 have hb:=ax b
 have hc:=ax c
 have he:=ax e
 have hf:=ax f
 have hab:=dP a b
 have hab2:=ax (a++b)
 rw[List.length_append] at hab2
 have habc:=dP (a++b) c
 have habc2:=ax (a++b++c)
 rw[List.length_append,List.length_append] at habc2
 have habf:=dP (a++b++c) f
 have habf2:=ax (a++b++c++f)
 rw[List.length_append,List.length_append,List.length_append] at habf2
 have habfe:=dP (a++b++c++f) e
 have hol:∀i,octL (x.v.getD i []):=fun i=>by
  rcases Nat.lt_or_ge i x.v.length with hi|hi
  ·exact hv _ (jS _ _ _ hi)
  ·rw[List.getD,List.getElem?_eq_none hi];intro e he;cases he
 obtain⟨z,tt,tl,l,bb⟩:=x
 simp only at *
 have hil:=mr l
 refine gI oW Tryz.func119 Tryz.results119 ?_
 refine wS (aI @hil (aI @ha (aI @hb (aI @hc (aI @he (aI @hf (aI @hab (aI @hab2 (aI @habc (aI @habc2 (aI @habf (aI @habf2 (aI @habfe @hA))))))))))))) (aI h1 (aI h2 (aI h3 (aI h3' (aI h4 h5))))) ?_
 refine aK (fun i:Nat=>mkA [(1,.ref 0 0),(5,ob 0 (A++(l.take i).flatMap vC)),(6,vi i)] [(0,(91,rkF ⟨z,tt,tl,l,bb⟩))] 1 (fun _ => .top)) (fun i=>i≤l.length) (fun i=>l.length-i) 0 [1] [0] ?_ (Nat.zero_le _) ?_
 ·refine kL ?_
  all_goals first|exact aW rfl (by simp)|skip
 ·intro i hi
  replace hi:i≤l.length:=hi
  have hbl:=ax (A++(l.take i).flatMap vC)
  have hl2:(A++(l.take i).flatMap vC).length≤100000000:=by have:=hln i;rw[List.length_append];omega
  rcases Nat.lt_or_ge i l.length with hlt|hge
  ·have hg:=uK l i hlt
   have hn1:=hnx i hlt
   have hk:=hkeys i hlt
   have ho1:=hol i
   have hlen:=i4 i
   generalize l.getD i []=y at *
   have hyl:=au y
   have k2:=iW (y.length:Int) (by omega)
   rw[Int.toNat_natCast] at k2
   have q2:=aS y.length
   have hE:vC y=aO y.length++y.flatMap ku:=rfl
   rw[hE,←List.append_assoc] at hn1
   have hkn:=fun j (hj:j<y.length)=>P6 ku [] y j hj
   have hkt:=fun j=>nV ku 41 y j (fun k hk1=>by have:=nH k;have:=hk k hk1;omega)
   generalize aO y.length=u at *
   have hul:=ax u
   have p1:=dP (A++(l.take i).flatMap vC) u
   have p2:(A++(l.take i).flatMap vC++u).length≤100000009:=by rw[List.length_append];omega
   have p3:A++(l.take i).flatMap vC++u++y.flatMap ku=A++(l.take (i+1)).flatMap vC:=by rw[hn1];simp only[List.append_assoc]
   generalize hMN:(l.take (i+1)).flatMap vC=MN at *
   generalize A++(l.take i).flatMap vC=M at *
   refine wS (aI @hil (aI @hg (aI @hyl (aI @hbl (aI @hul @p1))))) k2 ?_
   generalize M++u=N at *
   refine aK (fun j:Nat=>mkA [(1,.ref 0 0),(5,ob 0 (N++(y.take j).flatMap ku)),(6,vi i),(7,vi j)] [(0,(91,rkF ⟨z,tt,tl,l,bb⟩))] 1 (fun _ => .top)) (fun j=>j≤y.length) (fun j=>y.length-j) 0 [0] [0] ?_ (Nat.zero_le _) ?_
   ·refine kL ?_
    all_goals first|exact aW rfl (by simp)|skip
   ·intro j hj
    replace hj:j≤y.length:=hj
    have hbl2:=ax (N++(y.take j).flatMap ku)
    have hl3:(N++(y.take j).flatMap ku).length≤200000000:=by have:=hkt j;rw[List.length_append];omega
    rcases Nat.lt_or_ge j y.length with hlt2|hge2
    ·have hg2:=iK y j hlt2
     have hkl:=hk _ (jS y j [] hlt2)
     have hok:=uZ ho1 j
     have hkn1:=hkn j hlt2
     have k3:=Ef (y.getD j []) hok (by omega)
     have q3:=nH (y.getD j [])
     have p5:=dP (N++(y.take j).flatMap ku) (ku (y.getD j []))
     rw[List.append_assoc N,←hkn1] at p5
     generalize ku (y.getD j [])=w at *
     generalize y.getD j []=k at *
     have hwl:=ax w
     refine wS (aI @hil (aI @hg (aI @hg2 (aI @hyl (aI @hbl2 (aI @hwl @p5)))))) k3 ?_
     exact bE (j+1) [0] [0] hlt2
    ·have:j=y.length:=by omega
     subst this
     rw[List.take_length,p3]
     refine wS (aI @hil (aI @hg @hyl)) trivial ?_
     (refine bL (i+1) [0] [0] hlt ?_;refine kL ?_)
     all_goals exact aW rfl (by rw[hMN])
  ·have:i=l.length:=by omega
   subst this
   rw[List.take_length]
   exact wR @hil trivial (ids [0])
end Go.Proofs.YtjiolbcdfgclaaaGreatDoor
