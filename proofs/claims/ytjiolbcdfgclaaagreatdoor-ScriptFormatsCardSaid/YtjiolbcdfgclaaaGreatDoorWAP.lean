/-
  Texts of this claim, merged; own names are short.
-/
import Derived.Test.YtjiolbcdfgclaaaGreatDoorWAO
import Derived.Test.YtjiolbcdfgclaaaGreatDoorWAJ
import Derived.Test.YtjiolbcdfgclaaaGreatDoorWAN
import Derived.Test.YtjiolbcdfgclaaaGreatDoorWAM
import Derived.Test.YtjiolbcdfgclaaaGreatDoorWAK
set_option linter.unusedVariables false
set_option linter.unusedSimpArgs false
set_option linter.unusedSectionVars false
set_option linter.defProp false
set_option maxRecDepth 100000
set_option maxHeartbeats 8000000
namespace Go.Proofs.YtjiolbcdfgclaaaGreatDoor
open Go Go.Pg
def Gs(l:List (List Nat))(i:Nat):Int:=if fH (l.getD i [])=false then 7 else if 0<i∧kl (l.getD i []) (l.getD (i-1) [])=true then 19 else 0
def uY(z:Int)(v:List (List (List Nat)))(h:Nat):Int:=if ((v.getD h []).length:Int)≥z then 11 else tC (Gs (v.getD h [])) (v.getD h []).length 0
def unR(v:List (List (List Nat))):Nat→Int
 | 0=>0
 | n+1=>unR v n+(v.getD n []).length*2^n
def aa3(t:Int)(v:List (List (List Nat))):Int:=if 0<v.length∧(v.getD (v.length-1) []).length=0 then 18 else if unR v v.length≠t then 17 else 0
def vRk(x:Rk):Int:=if ¬(((2≤x.z∧x.z≤32)∧x.z%2=0)∧(0≤x.t∧x.t≤1099511627776)∧(0≤x.l∧x.l≤1099511627776)) then 5 else if x.v.length > 41 then 11
 else if tC (uY x.z x.v) x.v.length 0≠0 then tC (uY x.z x.v) x.v.length 0 else aa3 x.t x.v
def octL(l:List (List Nat)):Prop:=∀e∈l,oct e
theorem uZ{l:List (List Nat)}(h:octL l)(i:Nat):oct (l.getD i []):=by
 rcases Nat.lt_or_ge i l.length with hi|hi
 ·have:l.getD i []=l[i]:=by simp [List.getD,hi]
  rw[this];exact h _ (List.getElem_mem hi)
 ·have:l.getD i []=[]:=by simp [List.getD,hi]
  rw[this];exact dV
theorem ajB(v:List (List (List Nat)))(n:Nat)(hn:n≤41)(h:∀i,i<n→(v.getD i []).length<32):0≤unR v n∧unR v n≤n*35184372088832:=by
 induction n with
 | zero=>exact⟨Int.le_refl _,Int.le_refl _⟩
 | succ n ih =>
  obtain⟨h1,h2⟩:=ih (by omega) (fun i hi=>h i (by omega))
  have h3:=h n (by omega)
  have h4:2^n≤2^40:=Nat.pow_le_pow_right (by decide) (by omega)
  have h5:(v.getD n []).length*2^n≤32*2^40:=Nat.mul_le_mul (by omega) h4
  have h6:(((v.getD n []).length*2^n:Nat):Int)=((v.getD n []).length:Int)*2^n:=by simp
  simp only[unR]
  rw[←h6]
  generalize (v.getD n []).length*2^n=m at *
  omega
theorem ajC(l n:Nat)(hl:l<32)(hn:n≤40):IntKind.i64.wrap ((l:Int)*2^min n IntKind.i64.bits)=(l:Int)*2^n∧0≤(l:Int)*2^n∧(l:Int)*2^n≤35184372088832:=by
 have h4:2^n≤2^40:=Nat.pow_le_pow_right (by decide) hn
 have h5:l*2^n≤32*2^40:=Nat.mul_le_mul (by omega) h4
 have h6:((l*2^n:Nat):Int)=(l:Int)*2^n:=by simp
 have h7:min n IntKind.i64.bits=n:=Nat.min_eq_left (show n≤64 by omega)
 rw[h7,←h6]
 generalize l*2^n=m at *
 refine⟨?_,by omega,by omega⟩
 exact Y2 _ (by omega) (by omega)
theorem nG(x:Rk)(hv:∀l∈x.v,octL l)(hn:x.v.length≤1000000)(hn2:∀l∈x.v,l.length≤1000000):Gxx 160 [.agg (rkF x)] (vi (vRk x)):=by
 obtain⟨z,t,lo,v,b⟩:=x
 simp only at hv hn hn2
 have hv':∀i,octL (v.getD i []):=fun i=>by
  rcases Nat.lt_or_ge i v.length with hi|hi
  ·have:v.getD i []=v[i]:=by simp [List.getD,hi]
   rw[this];exact hv _ (List.getElem_mem hi)
  ·have:v.getD i []=[]:=by simp [List.getD,hi]
   rw[this];intro e he;cases he
 unfold vRk
 simp only
 have hel:=mr v
 by_cases c1:((2≤z∧z≤32)∧z%2=0)∧(0≤t∧t≤1099511627776)∧(0≤lo∧lo≤1099511627776)
 ·rw[if_neg (fun h=>h c1)]
  have k1:=aU z 2 32 c1.1.1
  have k2:=aU t 0 1099511627776 c1.2.1
  have k2':=aU lo 0 1099511627776 c1.2.2
  have et:z.tmod 2=z%2:=Int.tmod_eq_emod_of_nonneg (by omega)
  by_cases c2:v.length > 41
  ·rw[if_pos c2]
   refine gI oW Tryz.func160 Tryz.results160 ?_
   exact wR (aI @mr @et) (aI k1 (aI k2 k2')) ah
  ·rw[if_neg c2]
   refine gI oW Tryz.func160 Tryz.results160 ?_
   refine wS (aI @mr @et) (aI k1 (aI k2 k2')) ?_
   generalize hE:tC (uY z v) v.length 0=E
   generalize hR:(if E≠0 then E else aa3 t v)=R
   refine aK (fun i:Nat=>mkA [(1,.ref 0 0),(3,vi (unR v i)),(4,vi i)] [(0,(91,rkF ⟨z,t,lo,v,b⟩))] 1 (fun _ => .top)) (fun i=>i≤v.length∧tC (uY z v) (v.length-i) i=E∧∀j,j<i→(v.getD j []).length<32) (fun i=>v.length-i) 0 [] [0] ?_ ⟨Nat.zero_le _,hE,fun j hj=>by omega⟩ ?_
   ·exact kE
    all_goals first|exact gB rfl|skip
   ·rintro h ⟨hi,he,hlt32⟩
    rcases Nat.lt_or_ge h v.length with hlt|hge
    ·have hg:=uK v h hlt
     have hoct:=hv' h
     have hun:=ajB v h (by omega) hlt32
     rw[show v.length-h=(v.length-(h+1))+1 by omega] at he
     have eRk:uY z v h=if ((v.getD h []).length:Int)≥z then 11 else tC (Gs (v.getD h [])) (v.getD h []).length 0:=rfl
     have eun:unR v (h+1)=unR v h+(v.getD h []).length*2^h:=rfl
     have ext:∀c:Int,c≠0→uY z v h=c→c=R:=fun c h0 h1=>by
      rw[D7 _ _ _ (by omega)] at he
      rw[←hR,←he,h1,if_pos h0]
     have hlt32':(v.getD h []).length<32→∀j,j<h+1→(v.getD j []).length<32:=fun h0 j hj=>by
      rcases Nat.lt_or_ge j h with h1|h1
      ·exact hlt32 j h1
      ·have:j=h:=by omega
       rw[this];exact h0
     generalize hlev:v.getD h []=lev at *
     have hsl:=au lev
     generalize hS:unR v h=S at *
     by_cases q1:(lev.length:Int)≥z
     ·rw[if_pos q1] at eRk
      have:=ext 11 (by omega) eRk
      subst this
      exact wR (aI @pgv (aI @hel (aI @hg @hsl))) trivial ah
     ·rw[if_neg q1] at eRk
      have hlt32'':=hlt32' (by omega)
      obtain⟨hsh,hsh1,hsh2⟩:=ajC lev.length h (by omega) (by omega)
      refine wS (aI @pgv (aI @hel (aI @hg @hsl))) trivial ?_
      refine aK (fun i:Nat=>mkA [(1,.ref 0 0),(3,vi S),(4,vi h),(5,vi i)] [(0,(91,rkF ⟨z,t,lo,v,b⟩))] 1 (fun _ => .top)) (fun i=>i≤lev.length∧tC (Gs lev) (lev.length-i) i=uY z v h) (fun i=>lev.length-i) 0 [] [0] ?_ ⟨Nat.zero_le _,eRk.symm⟩ ?_
      ·exact kE
      ·rintro i ⟨hi2,he2⟩
       rcases Nat.lt_or_ge i lev.length with hlt2|hge2
       ·have hg2:=iK lev i hlt2
        rw[show lev.length-i=(lev.length-(i+1))+1 by omega] at he2
        have k3:=uH (lev.getD i [])
        have eLv:Gs lev i=if fH (lev.getD i [])=false then 7 else if 0<i∧kl (lev.getD i []) (lev.getD (i-1) [])=true then 19 else 0:=rfl
        have hox:=uZ hoct i
        generalize lev.getD i []=xk at *
        have ext2:∀c:Int,c≠0→Gs lev i=c→c=R:=fun c h0 h1=>by
         rw[D7 _ _ _ (by omega),h1] at he2
         exact ext c h0 he2.symm
        cases q2:fH xk
        ·rw[q2] at k3 eLv
         have:=ext2 7 (by omega) (by rw[eLv];rfl)
         subst this
         exact wR (aI @pgv (aI @hel (aI @hg (aI @hsl @hg2)))) k3 ah
        ·rw[q2] at k3 eLv
         rw[if_neg (by simp)] at eLv
         by_cases q4:0<i
         ·have hg3:=iK lev (i-1) (by omega)
          have hi1:((i:Int)-1).toNat=i-1:=by omega
          generalize lev.getD (i-1) []=yk at *
          cases q5:kl xk yk
          ·rw[if_neg (by rw[q5];simp)] at eLv
           rw[uV _ _ _ eLv] at he2
           refine wS (aI @pgv (aI @hel (aI @hg (aI @hsl (aI @hg2 (aI @hg3 (aI @hi1 (aI @rP @q5)))))))) k3 ?_
           exact bE (i+1) [] [0] ⟨hlt2,he2⟩
          ·rw[if_pos ⟨q4,q5⟩] at eLv
           have:=ext2 19 (by omega) eLv
           subst this
           exact wR (aI @pgv (aI @hel (aI @hg (aI @hsl (aI @hg2 (aI @hg3 (aI @hi1 (aI @rP @q5)))))))) k3 ah
         ·rw[if_neg (by omega)] at eLv
          rw[uV _ _ _ eLv] at he2
          refine wS (aI @pgv (aI @hel (aI @hg (aI @hsl @hg2)))) k3 ?_
          exact bE (i+1) [] [0] ⟨hlt2,he2⟩
       ·have:i=lev.length:=by omega
        subst this
        rw[Nat.sub_self] at he2
        have he3:uY z v h=0:=he2.symm
        rw[uV _ _ _ he3] at he
        refine wS (aI @pgv (aI @hel (aI @hg (aI @hsl @hsh)))) trivial ?_
        (refine bC (h+1) [] [0] (⟨hlt,he,hlt32''⟩) (by first|omega|(simp only[List.length_cons];omega)) ?_;(refine iy ?_ ?_ (kD _ _ _) (by decide) (by decide) (by decide) (by decide);(repeat' (first|exact trivial|refine gJ _ _ rfl rfl ?_ ?_));all_goals (try simp only[pgs,pgl,pgx,pgf,pgw,fQ,ig,fU,iq,dB,eY,fJ,pgn,simprocAttr]);all_goals (try (repeat' (first|apply aI)));all_goals (try (first|exact trivial|exact gB (by omega)|exact gq rfl|exact aW rfl rfl|exact je rfl))))
        all_goals first|exact gB (by rw[eun])|skip
    ·have:h=v.length:=by omega
     subst this
     rw[Nat.sub_self] at he
     have he0:0=E:=he
     subst he0
     rw[if_neg (by omega)] at hR
     unfold aa3 at hR
     by_cases q6:0<v.length
     ·have hg:=uK v (v.length-1) (by omega)
      have hi1:((v.length:Int)-1).toNat=v.length-1:=by omega
      generalize v.getD (v.length-1) []=lev at *
      have hsl:=au lev
      by_cases q7:lev.length=0
      ·rw[if_pos ⟨q6,q7⟩] at hR
       subst hR
       exact wR (aI @pgv (aI @hel (aI @hg (aI @hsl @hi1)))) trivial ah
      ·rw[if_neg (by omega)] at hR
       by_cases q8:unR v v.length=t
       ·rw[if_neg (by omega)] at hR
        subst hR
        exact wR (aI @pgv (aI @hel (aI @hg (aI @hsl @hi1)))) trivial ah
       ·rw[if_pos q8] at hR
        subst hR
        exact wR (aI @pgv (aI @hel (aI @hg (aI @hsl @hi1)))) trivial ah
     ·rw[if_neg (by omega)] at hR
      by_cases q8:unR v v.length=t
      ·rw[if_neg (by omega)] at hR
       subst hR
       exact wR (aI @pgv @hel) trivial ah
      ·rw[if_pos q8] at hR
       subst hR
       exact wR (aI @pgv @hel) trivial ah
 ·rw[if_pos c1]
  have k1:=fC z 2 32
  have k2:=fC t 0 1099511627776
  have k3:=fC lo 0 1099511627776
  by_cases c2:2≤z∧z≤32
  ·rw[uI c2] at k1
   have et:z.tmod 2=z%2:=Int.tmod_eq_emod_of_nonneg (by omega)
   by_cases c4:z%2=0
   ·by_cases c3:0≤t∧t≤1099511627776
    ·rw[uI c3] at k2
     rw[jY (by omega)] at k3
     refine gI oW Tryz.func160 Tryz.results160 ?_
     exact wR @et (aI k1 (aI k2 k3)) ah
    ·rw[jY c3] at k2
     refine gI oW Tryz.func160 Tryz.results160 ?_
     exact wR @et (aI k1 k2) ah
   ·refine gI oW Tryz.func160 Tryz.results160 ?_
    exact wR @et k1 ah
  ·rw[jY c2] at k1
   refine gI oW Tryz.func160 Tryz.results160 ?_
   exact wR trivial k1 ah
def pwI(h:Nat):Int:=IntKind.i64.wrap (1*2^min h IntKind.i64.bits)
theorem aa4(h:Nat):IntKind.i64.wrap (1*2^min h IntKind.i64.bits)=pwI h:=rfl
theorem ahd(h:Nat):W64 (pwI h):=by
 unfold pwI W64
 rw[IntKind.wrap_i64]
 omega
theorem anQ(n:Int):bits .and .i64 n 1=n%2:=jH n 1 (by decide)
theorem RQ(co:List Nat)(i:Int):Iq co i=0∨Iq co i=1:=by
 unfold Iq
 split
 ·exact .inl rfl
 ·rw[anQ];omega
theorem aow(a b:List (List Nat)):sv a++sv b=sv (a++b):=by simp [sv]
theorem aou(l:List (List Nat)):V.flatL (sv l)=true:=by
 induction l with
 | nil=>rfl
 | cons a l ih=>simp only[sv,List.map_cons,V.flatL,V.flat] at ih ⊢;simpa using ih
theorem Lr(id:Nat)(e:TypeId)(l:List (List Nat)):(V.sl (.own id e) 1 (sv l)).flat=true:=aou l
theorem pY(i k:Nat)(e:TypeId)(xs:List V):V.free (.sl (.own i e) k xs)=false:=rfl
def evN(l:List (List Nat))(c n:Nat):List (List Nat):=(List.range n).map fun j=>l.getD (c+2*j) []
theorem Ls(l:List (List Nat))(c n:Nat):evN l c n++[l.getD (c+2*n) []]=evN l c (n+1):=by simp [evN,List.range_succ]
theorem IE(l:List (List Nat))(c n:Nat):(evN l c n).length=n:=by simp [evN]
abbrev Stl:=Nat × List (List Nat) × Int × Int × List (List (List Nat))
def iD(v:List (List (List Nat)))(s:Stl):List (List Nat):=srt kl (if s.1<v.length then v.getD s.1 []++s.2.1 else s.2.1)
def jZ(v:List (List (List Nat)))(z:Int)(co:List Nat)(s:Stl):Stl :=
 if ((iD v s).length:Int)<z then (s.1+1,[],s.2.2.1,s.2.2.2.1,s.2.2.2.2++[iD v s])
 else (s.1+1,evN (iD v s) (Iq co s.2.2.2.1).toNat ((iD v s).length / 2),(fK s.2.2.1 (pwI s.1)).1,s.2.2.2.1+1,s.2.2.2.2++[(iD v s).drop ((iD v s).length / 2*2)])
def vg(v:List (List (List Nat)))(z:Int)(co:List Nat):Nat→Stl→Stl
 | 0,s=>s
 | f+1,s=>if s.1<v.length∨0<s.2.1.length then vg v z co f (jZ v z co s) else s
def zg(v:List (List (List Nat)))(M:Nat)(s:Stl):Nat:=(v.length-s.1)*(M+1)+s.2.1.length
theorem Ea(v:List (List (List Nat)))(s:Stl):(iD v s).length=(if s.1<v.length then (v.getD s.1 []).length else 0)+s.2.1.length:=by
 unfold iD
 rw[RG]
 split<;>simp
theorem ajD(v:List (List (List Nat)))(z:Int)(hz:2≤z)(co:List Nat)(M:Nat)(hM:∀i,(v.getD i []).length≤M)(s:Stl)(hs:s.2.1.length≤M)(hc:s.1<v.length∨0<s.2.1.length) :
  (jZ v z co s).2.1.length≤M∧zg v M (jZ v z co s)<zg v M s:=by
 have hl:=Ea v s
 have hi:=hM s.1
 obtain⟨h,ca,lo,a,o⟩:=s
 have key:(jZ v z co (h,ca,lo,a,o)).1=h+1∧(jZ v z co (h,ca,lo,a,o)).2.1.length≤(iD v (h,ca,lo,a,o)).length / 2:=by
  unfold jZ
  by_cases q:((iD v (h,ca,lo,a,o)).length:Int)<z
  ·rw[if_pos q];exact⟨rfl,Nat.zero_le _⟩
  ·rw[if_neg q];exact⟨rfl,by simp only[IE];omega⟩
 obtain⟨k1,k2⟩:=key
 unfold zg
 rw[k1]
 generalize (jZ v z co (h,ca,lo,a,o)).2.1.length=n at *
 simp only at *
 rcases Nat.lt_or_ge h v.length with h1|h1
 ·rw[if_pos h1] at hl
  have e:v.length-h=(v.length-(h+1))+1:=by omega
  have e2:(v.length-h)*(M+1)=(v.length-(h+1))*(M+1)+(M+1):=by rw[e,Nat.succ_mul]
  rw[e2]
  generalize (v.length-(h+1))*(M+1)=q
  omega
 ·rw[if_neg (by omega)] at hl
  have e:v.length-h=0:=by omega
  have e2:v.length-(h+1)=0:=by omega
  rw[e,e2,Nat.zero_mul]
  omega
def qf:Nat→List (List (List Nat))→List (List (List Nat))
 | 0,l=>l
 | f+1,l=>if 0<l.length∧(l.getD (l.length-1) []).length=0 then qf f (l.take (l.length-1)) else l
def tJ(v:List (List (List Nat)))(z lost:Int)(co:List Nat)(at':Int)(M:Nat):Stl:=vg v z co (v.length*(M+1)) (0,[],lost,at',[])
theorem afw(v:List (List (List Nat)))(z:Int)(co:List Nat):∀(f:Nat) (s:Stl),(vg v z co f s).2.2.2.2.length≤s.2.2.2.2.length+f:=by
 intro f
 induction f with
 | zero=>intro s;exact Nat.le_refl _
 | succ f ih =>
  intro s
  unfold vg
  split
  ·have:=ih (jZ v z co s)
   have h:(jZ v z co s).2.2.2.2.length=s.2.2.2.2.length+1:=by unfold jZ;split<;>simp
   omega
  ·omega
theorem Vy(v:List (List (List Nat)))(z lost:Int)(co:List Nat)(at':Int)(M:Nat)(hz:2≤z∧z≤32)(hco:oct co)(hM:∀i,(v.getD i []).length≤M)(hM2:M≤10000)(hv:v.length≤100)(hl:W64 lost)(ha:0≤at'∧at'≤1073741824) :
  Gxx 219 [fzl v,vi z,vi lost,fzb co,vi at'] (.tup [fzl (qf (tJ v z lost co at' M).2.2.2.2.length (tJ v z lost co at' M).2.2.2.2),vi (tJ v z lost co at' M).2.2.1,vi (tJ v z lost co at' M).2.2.2.1]):=by
 have hvl:=mr v
 have hF:v.length*(M+1)≤100*10001:=Nat.mul_le_mul hv (by omega)
 unfold tJ
 generalize hR:vg v z co (v.length*(M+1)) (0,[],lost,at',[])=R
 refine gI oW Tryz.func219 Tryz.results219 ?_
 refine wS trivial trivial ?_
 refine aK (fun x:Nat × Stl=>mkA [(0,fzl v),(1,vi z),(2,vi x.2.2.2.1),(3,fzb co),(4,vi x.2.2.2.2.1),(13,.sl (.own 0 23) 1 (lv x.2.2.2.2.2)),(14,.sl (.own 1 9) 1 (sv x.2.2.1)),(15,vi x.2.1)] [] 2 (fun _ => .top))
  (fun x=>zg v M x.2≤x.1∧x.2.2.1.length≤M∧W64 x.2.2.2.1∧vg v z co x.1 x.2=R∧x.1+x.2.1=v.length*(M+1)∧x.2.2.2.2.2.length=x.2.1∧0≤x.2.2.2.2.1∧x.2.2.2.2.1≤1073741824+x.2.1) (fun x=>x.1) (v.length*(M+1),(0,[],lost,at',[])) [] [] ?_ ⟨by simp [zg],Nat.zero_le _,hl,hR,rfl,rfl,ha.1,by simp only;omega⟩ ?_
 ·exact kE
  all_goals first|exact gK rfl|skip
 ·rintro⟨f,h,ca,lo,a,o⟩ ⟨i1,i2,i3,i4,i5,i6,i7,i8⟩
  simp only at i1 i2 i3 i4 i5 i6 i7 i8
  have hcl:=au ca
  have hol:=mr o
  by_cases hc:h<v.length∨0<ca.length
  ·have hmu:=ajD v z hz.1 co M hM (h,ca,lo,a,o) i2 hc
   have hcu:=Ea v (h,ca,lo,a,o)
   have est:jZ v z co (h,ca,lo,a,o)=if ((iD v (h,ca,lo,a,o)).length:Int)<z then (h+1,[],lo,a,o++[iD v (h,ca,lo,a,o)]) else (h+1,evN (iD v (h,ca,lo,a,o)) (Iq co a).toNat ((iD v (h,ca,lo,a,o)).length / 2),(fK lo (pwI h)).1,a+1,o++[(iD v (h,ca,lo,a,o)).drop ((iD v (h,ca,lo,a,o)).length / 2*2)]):=rfl
   cases f with
   | zero=>exact absurd hmu.2 (by omega)
   | succ f =>
   have e:vg v z co (f+1) (h,ca,lo,a,o)=vg v z co f (jZ v z co (h,ca,lo,a,o)):=if_pos hc
   rw[e] at i4
   by_cases hlt:h<v.length
   ·have ecu:iD v (h,ca,lo,a,o)=srt kl (v.getD h []++ca):=by unfold iD;simp only[if_pos hlt]
    have hg:=uK v h hlt
    have hlM:=hM h
    simp only[if_pos hlt] at hcu
    have hso:=D9 (v.getD h []++ca) (by rw[List.length_append];omega)
    rw[←ecu] at hso
    have hfl:=Lr 0 9 (iD v (h,ca,lo,a,o))
    have hbi:=Z4 co hco a (by omega)
    have hb01:=RQ co a
    generalize iD v (h,ca,lo,a,o)=cur at *
    have hsl:=au cur
    have hap:=aow (v.getD h []) ca
    have hsl2:=au (v.getD h [])
    generalize v.getD h []++ca=lc at *
    generalize v.getD h []=lev at *
    by_cases q1:(cur.length:Int)<z
    ·rw[if_pos q1] at est
     rw[est] at hmu i4
     have hls:=yz o cur
     (repeat' first|refine wP (aI @pgv (aI @pY (aI @aF (aI @false_or (aI @Bool.false_eq_true (aI @Option.bind_none.{0,0} (aI @hvl (aI @hcl (aI @hol (aI @hg (aI @hap (aI @hsl (aI @hls @hsl2))))))))))))) trivial ?_|refine cF hso hfl ?_|refine tS ?_ ?_<;>intro hc|fail)
     refine bC (f,(h+1,[],lo,a,o++[cur])) [0,1] [] ⟨by have:=hmu.2;show zg v M (h+1,[],lo,a,o++[cur])≤f;omega,Nat.zero_le _,i3,i4,by simp only;omega,by simp [i6],i7,by simp only;omega⟩ (by show f<f+1;omega) ?_
     exact kE
     all_goals exact gK rfl
    ·rw[if_neg q1] at est
     rw[est] at hmu i4
     have k5:=tH lo (pwI h) i3 (ahd h)
     have har:=Ad lo (pwI h)
     have ed:(cur.length:Int).tdiv 2=((cur.length / 2:Nat):Int):=by rw[Int.tdiv_eq_ediv_of_nonneg (by omega)];omega
     have em:(((cur.length / 2:Nat):Int)*2).toNat=cur.length / 2*2:=by omega
     have hdr:=RP cur (cur.length / 2*2)
     have hls:=yz o (cur.drop (cur.length / 2*2))
     obtain⟨cn,hcn,hcn1⟩:∃cn:Nat,Iq co a=(cn:Int)∧cn≤1:=by
      rcases hb01 with h|h
      ·exact⟨0,h,by decide⟩
      ·exact⟨1,h,by decide⟩
     rw[hcn] at hbi est hmu i4
     rw[Int.toNat_natCast] at est hmu i4
     (repeat' first|refine wP (aI @pgv (aI @pY (aI @aF (aI @false_or (aI @Bool.false_eq_true (aI @Option.bind_none.{0,0} (aI @hvl (aI @hcl (aI @hol (aI @hg (aI @hap (aI @hsl (aI @hsl2 @ed))))))))))))) hbi ?_|refine cF hso hfl ?_|refine tS ?_ ?_<;>intro hc|fail)
     refine aK (fun j:Nat=>mkA [(0,fzl v),(1,vi z),(2,vi lo),(3,fzb co),(4,vi a),(13,.sl (.own 0 23) 1 (lv o)),(14,.sl (.own 1 9) 1 (sv (evN cur cn j))),(15,vi h),(16,.sl (.own 2 9) 1 (sv cur)),(17,vi (((cur.length / 2:Nat):Int)*2)),(18,vi ((cn:Int)+2*j))] [] 3 (fun _ => .top)) (fun j=>j≤cur.length / 2) (fun j=>cur.length / 2-j) 0 [0,1,3] [] ?_ (Nat.zero_le _) ?_
     ·exact kE
      all_goals exact gK rfl
     ·intro j hj
      replace hj:j≤cur.length / 2:=hj
      have hev:(sv (evN cur cn j)).length=j:=by rw[au,IE]
      rcases Nat.lt_or_ge j (cur.length / 2) with hjl|hjg
      ·have hin:((cn:Int)+2*(j:Int)).toNat=cn+2*j:=by omega
       have hg2:=iK cur (cn+2*j) (by omega)
       have hsn:sv (evN cur cn j)++[vs (cur.getD (cn+2*j) [])]=sv (evN cur cn (j+1)):=by rw[svS,Ls]
       refine wS (aI @pgv (aI @hsl (aI @hin (aI @hg2 (aI @hsn @hev))))) trivial ?_
       exact bE (j+1) [0,1,2] [] hjl
       all_goals first|exact gB (by omega)|skip
      ·have:j=cur.length / 2:=by omega
       subst this
       refine wS (aI @pgv (aI @pY (aI @aF (aI @false_or (aI @Bool.false_eq_true (aI @Option.bind_none.{0,0} (aI @hvl (aI @hcl (aI @hol (aI @hsl (aI @hev (aI @em (aI @hdr (aI @hls @aa4)))))))))))))) k5 ?_
       refine bC (f,(h+1,evN cur cn (cur.length / 2),(fK lo (pwI h)).1,a+1,o++[cur.drop (cur.length / 2*2)])) [0,1] [] ⟨by have:=hmu.2;show zg v M (h+1,evN cur cn (cur.length / 2),(fK lo (pwI h)).1,a+1,o++[cur.drop (cur.length / 2*2)])≤f;omega,hmu.1,by simp only;unfold W64;omega,i4,by simp only;omega,by simp [i6],by simp only;omega,by simp only;omega⟩ (by show f<f+1;omega) ?_
       exact kE
   ·have hca:0<ca.length:=by rcases hc with h|h;exact absurd h hlt;exact h
    have ecu:iD v (h,ca,lo,a,o)=srt kl ca:=by unfold iD;simp only[if_neg hlt]
    simp only[if_neg hlt] at hcu
    have hso:=D9 ca (by omega)
    rw[←ecu] at hso
    have hfl:=Lr 0 9 (iD v (h,ca,lo,a,o))
    have hbi:=Z4 co hco a (by omega)
    have hb01:=RQ co a
    generalize iD v (h,ca,lo,a,o)=cur at *
    have hsl:=au cur
    by_cases q1:(cur.length:Int)<z
    ·rw[if_pos q1] at est
     rw[est] at hmu i4
     have hls:=yz o cur
     (repeat' first|refine wP (aI @pgv (aI @pY (aI @aF (aI @false_or (aI @Bool.false_eq_true (aI @Option.bind_none.{0,0} (aI @hvl (aI @hcl (aI @hol (aI @hsl @hls)))))))))) trivial ?_|refine cF hso hfl ?_|refine tS ?_ ?_<;>intro hc|fail)
     refine bC (f,(h+1,[],lo,a,o++[cur])) [0,1] [] ⟨by have:=hmu.2;show zg v M (h+1,[],lo,a,o++[cur])≤f;omega,Nat.zero_le _,i3,i4,by simp only;omega,by simp [i6],i7,by simp only;omega⟩ (by show f<f+1;omega) ?_
     exact kE
     all_goals exact gK rfl
    ·rw[if_neg q1] at est
     rw[est] at hmu i4
     have k5:=tH lo (pwI h) i3 (ahd h)
     have har:=Ad lo (pwI h)
     have ed:(cur.length:Int).tdiv 2=((cur.length / 2:Nat):Int):=by rw[Int.tdiv_eq_ediv_of_nonneg (by omega)];omega
     have em:(((cur.length / 2:Nat):Int)*2).toNat=cur.length / 2*2:=by omega
     have hdr:=RP cur (cur.length / 2*2)
     have hls:=yz o (cur.drop (cur.length / 2*2))
     obtain⟨cn,hcn,hcn1⟩:∃cn:Nat,Iq co a=(cn:Int)∧cn≤1:=by
      rcases hb01 with h|h
      ·exact⟨0,h,by decide⟩
      ·exact⟨1,h,by decide⟩
     rw[hcn] at hbi est hmu i4
     rw[Int.toNat_natCast] at est hmu i4
     (repeat' first|refine wP (aI @pgv (aI @pY (aI @aF (aI @false_or (aI @Bool.false_eq_true (aI @Option.bind_none.{0,0} (aI @hvl (aI @hcl (aI @hol (aI @hsl @ed)))))))))) hbi ?_|refine cF hso hfl ?_|refine tS ?_ ?_<;>intro hc|fail)
     refine aK (fun j:Nat=>mkA [(0,fzl v),(1,vi z),(2,vi lo),(3,fzb co),(4,vi a),(13,.sl (.own 0 23) 1 (lv o)),(14,.sl (.own 1 9) 1 (sv (evN cur cn j))),(15,vi h),(16,.sl (.own 2 9) 1 (sv cur)),(17,vi (((cur.length / 2:Nat):Int)*2)),(18,vi ((cn:Int)+2*j))] [] 3 (fun _ => .top)) (fun j=>j≤cur.length / 2) (fun j=>cur.length / 2-j) 0 [0,1,2] [] ?_ (Nat.zero_le _) ?_
     ·exact kE
      all_goals exact gK rfl
     ·intro j hj
      replace hj:j≤cur.length / 2:=hj
      have hev:(sv (evN cur cn j)).length=j:=by rw[au,IE]
      rcases Nat.lt_or_ge j (cur.length / 2) with hjl|hjg
      ·have hin:((cn:Int)+2*(j:Int)).toNat=cn+2*j:=by omega
       have hg2:=iK cur (cn+2*j) (by omega)
       have hsn:sv (evN cur cn j)++[vs (cur.getD (cn+2*j) [])]=sv (evN cur cn (j+1)):=by rw[svS,Ls]
       refine wS (aI @pgv (aI @hsl (aI @hin (aI @hg2 (aI @hsn @hev))))) trivial ?_
       exact bE (j+1) [0,1,2] [] hjl
       all_goals first|exact gB (by omega)|skip
      ·have:j=cur.length / 2:=by omega
       subst this
       refine wS (aI @pgv (aI @pY (aI @aF (aI @false_or (aI @Bool.false_eq_true (aI @Option.bind_none.{0,0} (aI @hvl (aI @hcl (aI @hol (aI @hsl (aI @hev (aI @em (aI @hdr (aI @hls @aa4)))))))))))))) k5 ?_
       refine bC (f,(h+1,evN cur cn (cur.length / 2),(fK lo (pwI h)).1,a+1,o++[cur.drop (cur.length / 2*2)])) [0,1] [] ⟨by have:=hmu.2;show zg v M (h+1,evN cur cn (cur.length / 2),(fK lo (pwI h)).1,a+1,o++[cur.drop (cur.length / 2*2)])≤f;omega,hmu.1,by simp only;unfold W64;omega,i4,by simp only;omega,by simp [i6],by simp only;omega,by simp only;omega⟩ (by show f<f+1;omega) ?_
       exact kE
  ·have e:vg v z co f (h,ca,lo,a,o)=(h,ca,lo,a,o):=by
    cases f with
    | zero=>rfl
    | succ f=>exact if_neg hc
   rw[e] at i4
   subst i4
   simp only
   refine wS (aI @hvl (aI @hcl @hol)) trivial ?_
   refine Zq 0 ?_
   refine wS @hvl trivial ?_
   generalize hT:qf o.length o=T
   refine aK (fun x:Nat × List (List (List Nat))=>mkA [(2,vi lo),(4,vi a),(13,fzl x.2)] [] 0 (fun _ => .top)) (fun x=>x.2.length≤x.1∧qf x.1 x.2=T∧x.2.length≤10000000) (fun x=>x.1) (o.length,o) [] [] ?_ ⟨Nat.le_refl _,hT,by simp only;omega⟩ ?_
   ·exact kE
   ·rintro⟨g,o⟩ ⟨n1,n2,n3⟩
    simp only at n1 n2 n3
    have hol:=mr o
    by_cases q6:0<o.length
    ·have hg:=uK o (o.length-1) (by omega)
     have hi1:((o.length:Int)-1).toNat=o.length-1:=by omega
     cases g with
     | zero=>exact absurd q6 (by omega)
     | succ g =>
     have e:qf (g+1) o=if 0<o.length∧(o.getD (o.length-1) []).length=0 then qf g (o.take (o.length-1)) else o:=rfl
     rw[e] at n2
     have htk:=ae3 o (o.length-1)
     generalize o.getD (o.length-1) []=lev at *
     have hsl:=au lev
     by_cases q7:lev.length=0
     ·rw[if_pos ⟨q6,q7⟩] at n2
      refine wS (aI @pgv (aI @hol (aI @hg (aI @hsl (aI @hi1 @htk))))) trivial ?_
      refine bC (g,o.take (o.length-1)) [] [] ⟨by simp only[List.length_take];omega,n2,by simp only[List.length_take];omega⟩ (by show g<g+1;omega) ?_
      exact kE
     ·rw[if_neg (by omega)] at n2
      subst n2
      exact wR (aI @pgv (aI @hol (aI @hg (aI @hsl @hi1)))) trivial ah
    ·have e:qf g o=o:=by
      cases g with
      | zero=>rfl
      | succ g=>exact if_neg (fun h=>q6 h.1)
     rw[e] at n2
     subst n2
     exact wR (aI @pgv @hol) trivial ah
def lU(v:List (List (List Nat)))(n:Nat):List (List (List Nat)):=v++List.replicate (n-v.length) []
theorem Gt(v:List (List (List Nat)))(n:Nat):(lU v n).length=max v.length n:=by simp [lU];omega
theorem xm(v:List (List (List Nat)))(n:Nat)(h:n≤v.length):lU v n=v:=by
 have:n-v.length=0:=by omega
 simp [lU,this]
theorem Pv(v:List (List (List Nat)))(n:Nat)(h:v.length≤n):lU v n++[[]]=lU v (n+1):=by
 unfold lU
 rw[show n+1-v.length=(n-v.length)+1 by omega,List.replicate_succ',List.append_assoc]
theorem Gu(v:List (List (List Nat)))(n i:Nat):(lU v n).getD i []=v.getD i []:=by
 unfold lU
 rcases Nat.lt_or_ge i v.length with h|h
 ·simp [List.getD,List.getElem?_append,h]
 ·rw[List.getD,List.getD,List.getElem?_append_right h,List.getElem?_eq_none (l:=v) h]
  rcases Nat.lt_or_ge (i-v.length) (n-v.length) with h2|h2
  ·simp [List.getElem?_replicate,h2]
  ·simp [List.getElem?_replicate,Nat.not_lt.2 h2]
def EW(k:List Nat)(v:List (List (List Nat)))(p:Nat):List (List (List Nat)):=(lU v (p+1)).set p (v.getD p []++[k])
def qL(k:List Nat)(ps:List Int)(v:List (List (List Nat))):Nat→List (List (List Nat))
 | 0=>v
 | i+1=>EW k (qL k ps v i) (ps.getD i 0).toNat
theorem Lu(l:List (List (List Nat)))(p:Nat)(x:List (List Nat))(i n:Nat)(h:∀i,(l.getD i []).length≤n)(hx:x.length≤n):((l.set p x).getD i []).length≤n:=by
 rw[List.getD]
 rcases Nat.lt_or_ge p l.length with hp|hp
 ·by_cases he:p=i
  ·subst he;rw[List.getElem?_set_self hp];exact hx
  ·rw[List.getElem?_set_ne he];exact h i
 ·rw[List.set_eq_of_length_le hp];exact h i
theorem LC(k:List Nat)(ps:List Int)(v:List (List (List Nat)))(hps:∀i,(ps.getD i 0).toNat≤62)(M:Nat)(hM:∀i,(v.getD i []).length≤M)(hv:v.length≤63)(i:Nat):(qL k ps v i).length≤63∧∀j,((qL k ps v i).getD j []).length≤M+i:=by
 induction i with
 | zero=>exact⟨hv,hM⟩
 | succ i ih =>
  obtain⟨h1,h2⟩:=ih
  refine⟨?_,fun j => ?_⟩
  ·show (EW k (qL k ps v i) (ps.getD i 0).toNat).length≤63
   have:=hps i
   unfold EW
   rw[List.length_set,Gt]
   omega
  ·show ((EW k (qL k ps v i) (ps.getD i 0).toNat).getD j []).length≤M+(i+1)
   unfold EW
   refine Lu _ _ _ _ _ (fun j => ?_) ?_
   ·rw[Gu];have:=h2 j;omega
   ·rw[List.length_append];have:=h2 (ps.getD i 0).toNat;simp only[List.length_cons,List.length_nil];omega
theorem LD(n:Int)(m i:Nat)(hm:0<m):0≤(kZ n m).getD i 0∧(kZ n m).getD i 0≤m-1:=by
 rcases Nat.lt_or_ge i (kZ n m).length with h|h
 ·have hmem:(kZ n m).getD i 0∈kZ n m:=by rw[List.getD_eq_getElem?_getD,List.getElem?_eq_getElem h];exact List.getElem_mem h
  unfold kZ at hmem
  obtain⟨j,hj,he⟩:=List.mem_map.1 hmem
  have:=List.mem_range.1 (List.mem_filter.1 hj).1
  unfold kZ
  rw[←he];omega
 ·rw[List.getD,List.getElem?_eq_none h];simp;omega
theorem IG{x:Rk}(h:vRk x=0):((2≤x.z∧x.z≤32)∧x.z%2=0)∧(0≤x.t∧x.t≤1099511627776)∧(0≤x.l∧x.l≤1099511627776)∧x.v.length≤41∧∀i,(x.v.getD i []).length≤31:=by
 unfold vRk at h
 split at h
 ·cases h
 ·rename_i h1
  have h1:=Classical.byContradiction h1
  split at h
  ·cases h
  ·rename_i h2
   split at h
   ·rename_i h3;exact absurd h h3
   ·rename_i h3
    have h3:=Classical.byContradiction h3
    refine⟨h1.1,h1.2.1,h1.2.2,by omega,fun i => ?_⟩
    rcases Nat.lt_or_ge i x.v.length with hi|hi
    ·have h4:=D8 _ _ _ h3 i (Nat.zero_le _) (by omega)
     unfold uY at h4
     split at h4
     ·cases h4
     ·omega
    ·rw[List.getD,List.getElem?_eq_none hi];simp
def Af(x:Rk)(k:List Nat)(w:Int):List (List (List Nat)):=qL k (kZ w 63) x.v (kZ w 63).length
def EX(x:Rk)(k:List Nat)(w:Int)(co:List Nat)(at':Int):Stl:=tJ (Af x k w) x.z x.l co at' 100
def rU(x:Rk)(k:List Nat)(w:Int)(co:List Nat)(at':Int):Rk × Int × Int :=
 if vRk x≠0 then (Rk.o,0,vRk x) else if eF k w≠0 then (Rk.o,0,eF k w) else if ¬(0≤at'∧at'≤1073741824) then (Rk.o,0,5)
 else if (fK x.t w).2=true then (⟨x.z,x.t,x.l,x.v,true⟩,at',0)
 else (⟨x.z,(fK x.t w).1,(EX x k w co at').2.2.1,qf (EX x k w co at').2.2.2.2.length (EX x k w co at').2.2.2.2,x.b⟩,(EX x k w co at').2.2.2.1,0)
theorem Px:wkV (.agg [vi 0,vi 0,vi 0,nls,vb false]) (.agg (rkF Rk.o)) := .inr ⟨_,_,rfl,rfl,⟨.inl rfl,.inl rfl,.inl rfl,oq _ _,.inl rfl,trivial⟩⟩
theorem Eb(x:Rk)(k:List Nat)(w:Int)(co:List Nat)(at':Int)(ho:oct k)(hco:oct co)(hv:∀l∈x.v,octL l)(hn:x.v.length≤1000000)(hn2:∀l∈x.v,l.length≤1000000) :
  Gxx 177 [.agg (rkF x),.agg [vs k,vi w],fzb co,vi at'] (.tup [.agg (rkF (rU x k w co at').1),vi (rU x k w co at').2.1,vi (rU x k w co at').2.2]):=by
 have h1:=nG x hv hn hn2
 have h2:=bZ k w
 have h3:=Lp at'
 unfold rU
 by_cases c1:vRk x=0
 ·rw[if_neg (by omega)]
  rw[c1] at h1
  by_cases c2:eF k w=0
  ·rw[if_neg (by omega)]
   rw[c2] at h2
   by_cases c3:0≤at'∧at'≤1073741824
   ·rw[if_neg (fun h=>h c3)]
    rw[decide_eq_true c3] at h3
    obtain⟨i1,i2,i3,i4,i5⟩:=IG c1
    obtain⟨j1,j2⟩:=rJ c2
    have k1:=tH x.t w (by unfold W64;omega) (by unfold W64;omega)
    by_cases c4:(fK x.t w).2=true
    ·rw[if_pos c4]
     generalize fK x.t w=a at *
     obtain⟨a1,a2⟩:=a
     simp only at c4 k1
     subst c4
     obtain⟨z,t,lo,v,b⟩:=x
     simp only at *
     refine gI oW Tryz.func177 Tryz.results177 ?_
     exact wR trivial (aI h1 (aI h2 (aI h3 k1))) ah
    ·rw[if_neg c4]
     have k2:=Vh w (by omega)
     have hps:=fun i=>LD w 63 i (by decide)
     have hpl:=KO w 63
     have hin:=fun i=>LC k (kZ w 63) x.v (fun i=>by have:=hps i;omega) 31 i5 (by omega) i
     have hst:=Vy (Af x k w) x.z x.l co at' 100 (by omega) hco (fun i=>by have:=(hin (kZ w 63).length).2 i;unfold Af;omega) (by omega) (by have:=(hin (kZ w 63).length).1;unfold Af;omega) (by unfold W64;omega) c3
     have hR:tJ (Af x k w) x.z x.l co at' 100=EX x k w co at':=rfl
     rw[hR] at hst
     generalize EX x k w co at'=R at *
     generalize qf R.2.2.2.2.length R.2.2.2.2=T at *
     unfold Af at hst
     have hp0:qL k (kZ w 63) x.v 0=x.v:=rfl
     have hpn:∀i,qL k (kZ w 63) x.v (i+1)=EW k (qL k (kZ w 63) x.v i) ((kZ w 63).getD i 0).toNat:=fun _=>rfl
     generalize hps2:kZ w 63=ps at *
     generalize fK x.t w=a at *
     obtain⟨a1,a2⟩:=a
     simp only at c4 k1
     have c4:a2=false:=by simpa using c4
     subst c4
     obtain⟨z,t,lo,v,b⟩:=x
     simp only at *
     have hvl:=mr v
     have hil:=bP ps
     refine dE (JJ (fun d=>bif d == 85 then true else false) [] mix) Tryz.func177 rfl Tryz.results177 rfl (by kernel_rfl) (Nat.le_of_ble_eq_true (by kernel_rfl)) ?_
     refine wS (aI @pgF @mr) (aI h1 (aI h2 (aI h3 (aI k1 k2)))) ?_
     refine aK (fun i:Nat=>mkA [(2,fzb co),(3,vi at'),(4,.ref 0 0),(5,.ref 1 0),(8,.ref 2 0),(13,vi a1),(15,.sl (.own 0 23) 1 (lv (qL k ps v i))),(16,fzi ps),(17,vi i)] [(0,(91,rkF ⟨z,t,lo,v,b⟩)),(1,(64,[vs k,vi w])),(2,(91,[vi 0,vi 0,vi 0,nls,vb false]))] 3 (fun _ => .top)) (fun i=>i≤ps.length) (fun i=>ps.length-i) 0 [3] [0,1,2] ?_ (Nat.zero_le _) ?_
     ·exact kE
     ·intro i hi
      replace hi:i≤ps.length:=hi
      have hcl:=(hin i).1
      have hlc:=mr (qL k ps v i)
      rcases Nat.lt_or_ge i ps.length with hlt|hge
      ·have hg:=mg ps i hlt
       have hpi:=hps i
       have hnx:=hpn i
       generalize hcur:qL k ps v i=cur at *
       generalize hpp:ps.getD i 0=p' at *
       obtain⟨p,rfl⟩:∃p:Nat,p'=p:=⟨p'.toNat,by omega⟩
       rw[Int.toNat_natCast] at hnx
       refine wS (aI @pgF (aI @hil @hg)) trivial ?_
       refine aK (fun m:Nat=>mkA [(2,fzb co),(3,vi at'),(4,.ref 0 0),(5,.ref 1 0),(8,.ref 2 0),(13,vi a1),(15,.sl (.own 0 23) 1 (lv (lU cur m))),(16,fzi ps),(17,vi i)] [(0,(91,rkF ⟨z,t,lo,v,b⟩)),(1,(64,[vs k,vi w])),(2,(91,[vi 0,vi 0,vi 0,nls,vb false]))] 3 (fun _ => .top)) (fun m=>cur.length≤m∧(m=cur.length∨m≤p+1)) (fun m=>p+1-m) cur.length [0] [0,1,2] ?_ ⟨Nat.le_refl _,.inl rfl⟩ ?_
       ·refine kL ?_
        all_goals exact aW rfl (by rw[xm _ _ (Nat.le_refl _)])
       ·rintro m ⟨hm1,hm2⟩
        have hgl:=Gt cur m
        rw[Nat.max_eq_right hm1] at hgl
        have hlg:=mr (lU cur m)
        have hgn:=Pv cur m hm1
        have hls:=yz (lU cur m) []
        rw[hgn] at hls
        rcases Nat.lt_or_ge p m with hpm|hpm
        ·have hmm:lU cur m=lU cur (p+1):=by
          rcases hm2 with rfl|h
          ·rw[xm _ _ (Nat.le_refl _),xm _ _ hpm]
          ·have:m=p+1:=by omega
           rw[this]
         have hgp:=uK (lU cur m) p (by omega)
         rw[Gu] at hgp
         have hput:EW k cur p=(lU cur m).set p (cur.getD p []++[k]):=by unfold EW;rw[hmm]
         rw[hput] at hnx
         have hset:=aiS (lU cur m) p (cur.getD p []++[k])
         rw[←hnx] at hset
         have hll:=(hin i).2 p
         rw[hcur] at hll
         generalize lU cur m=G at *
         generalize cur.getD p []=lev at *
         have hsl:=au lev
         have hsn:=svS lev k
         refine wS (aI @pgF (aI @pgv (aI @pY (aI @aF (aI @false_or (aI @Bool.false_eq_true (aI @Option.bind_none.{0,0} (aI @hil (aI @hg (aI @hlg (aI @hgl (aI @hgp (aI @hsl (aI @hsn @hset)))))))))))))) trivial ?_
         (refine bL (i+1) [0] [0,1,2] hlt ?_;refine kL ?_)
         all_goals exact aW rfl hset
        ·refine wS (aI @pgF (aI @pgv (aI @hil (aI @hg (aI @hlg @hgl))))) trivial ?_
         (refine bL (m+1) [0] [0,1,2] ⟨by omega,.inr (by omega)⟩ ?_;refine kL ?_)
         all_goals exact Y4 rfl (by rw[←hls];exact Js (.inr (.inl ⟨rfl,rfl,1,rfl⟩)) _)
      ·have:i=ps.length:=by omega
       subst this
       (repeat' first|refine wP (aI @pgF (aI @pgv (aI @hil @id_eq.{1}))) trivial ?_|refine cG [0] hst ?_|refine tS ?_ ?_<;>intro hc|fail)
       exact rE []
   ·rw[if_pos c3]
    rw[decide_eq_false c3] at h3
    refine Good.fzt (vs:=[.agg [vi 0,vi 0,vi 0,nls,vb false],vi 0,vi 5]) ?_ rfl ⟨Px,aA _,aA _,trivial⟩
    refine gI oW Tryz.func177 Tryz.results177 ?_
    exact wR trivial (aI h1 (aI h2 h3)) ah
  ·rw[if_pos (by omega)]
   refine Good.fzt (vs:=[.agg [vi 0,vi 0,vi 0,nls,vb false],vi 0,vi (eF k w)]) ?_ rfl ⟨Px,aA _,aA _,trivial⟩
   refine gI oW Tryz.func177 Tryz.results177 ?_
   exact wR trivial (aI h1 h2) ah
 ·rw[if_pos (by omega)]
  refine Good.fzt (vs:=[.agg [vi 0,vi 0,vi 0,nls,vb false],vi 0,vi (vRk x)]) ?_ rfl ⟨Px,aA _,aA _,trivial⟩
  refine gI oW Tryz.func177 Tryz.results177 ?_
  exact wR trivial h1 ah
def hdW(l:List (List Nat)):List Nat:=l.headD []
theorem vZ{l:List (List Nat)}(h:∀x∈l,oct x):oct (hdW l):=by
 cases l with
 | nil=>exact dV
 | cons w l=>exact h w (by simp)
theorem Ec(e:Nat→V)(bx:Nat→Option (TypeId × List V))(n:Nat)(h:Nat→V)(b:Nat)(l:List (List Nat))(bad:Bool)(hb:bx b=some (108,rdC l bad))(hl:l.length≤1000000) :
  Gxz 93 [.ref b 0] ⟨e,bx,n,h⟩ ⟨e,upd bx b (some (108,rdC l.tail (bad||l.isEmpty))),n,h⟩ (vs (hdW l)):=by
 cases l with
 | nil =>
  have:=afn e bx n h b bad hb
  simpa [hdW] using this
 | cons w l =>
  have:=vY e bx n h b w l bad hb (by simp at hl;omega)
  simpa [hdW] using this
def iE(l:List (List Nat)):Bool:=l.isEmpty || !decide ((aZ (hdW l)).2=0)
def qW(l:List (List Nat)):Bool:=l.isEmpty || !decide ((pk (hdW l)).2=0)
theorem anR{a:Bool}{l:List (List Nat)}(h:(a||l.isEmpty)=true):(a||iE l)=true:=by cases a<;>simp_all [iE]
theorem anS{a:Bool}{l:List (List Nat)}(h:(a||l.isEmpty)=false):(a||iE l) = !decide ((aZ (hdW l)).2=0):=by cases a<;>simp_all [iE]
theorem anT{a:Bool}{l:List (List Nat)}(h:(a||l.isEmpty)=true):(a||qW l)=true:=by cases a<;>simp_all [qW]
theorem anU{a:Bool}{l:List (List Nat)}(h:(a||l.isEmpty)=false):(a||qW l) = !decide ((pk (hdW l)).2=0):=by cases a<;>simp_all [qW]
theorem RS(n:Nat):((n:Int) != 0) = !decide (n=0):=by
 cases n<;>simp
 all_goals omega
theorem Ed(e:Nat→V)(bx:Nat→Option (TypeId × List V))(n:Nat)(h:Nat→V)(b:Nat)(l:List (List Nat))(bad:Bool)(hb:bx b=some (108,rdC l bad))(hl:l.length≤1000000)(ho:oct (hdW l))(hw:(hdW l).length≤1000000) :
  Gxz 98 [.ref b 0] ⟨e,bx,n,h⟩ ⟨e,upd bx b (some (108,rdC l.tail (bad||iE l))),n,h⟩ (vi (aZ (hdW l)).1):=by
 have hn:=aaf (hdW l) ho (by omega)
 unfold Ry at hn
 refine gZ oW Tryz.func98 Tryz.results98 ?_
 (repeat' first|refine wP (aI @iQ (aI @dm (aI @bI @hb))) hn ?_|refine cZ (Ec _ _ _ _ b l bad hb hl) ?_|refine tS ?_ ?_<;>intro hc|fail)
 all_goals (refine lh (aG _ _ _) ?_;rw[dJ,dK,jG];first|rw[anR hc]|rw[anS hc,RS])
theorem aa5(e:Nat→V)(bx:Nat→Option (TypeId × List V))(n:Nat)(h:Nat→V)(b:Nat)(l:List (List Nat))(bad:Bool)(hb:bx b=some (108,rdC l bad))(hl:l.length≤1000000)(ho:oct (hdW l))(hw:(hdW l).length≤1000000) :
  Gxz 97 [.ref b 0] ⟨e,bx,n,h⟩ ⟨e,upd bx b (some (108,rdC l.tail (bad||qW l))),n,h⟩ (vs (pk (hdW l)).1):=by
 have hn:=ajg (hdW l) ho (by omega)
 unfold pkV at hn
 refine gZ oW Tryz.func97 Tryz.results97 ?_
 (repeat' first|refine wP (aI @iQ (aI @dm (aI @bI @hb))) hn ?_|refine cZ (Ec _ _ _ _ b l bad hb hl) ?_|refine tS ?_ ?_<;>intro hc|fail)
 all_goals (refine lh (aG _ _ _) ?_;rw[dJ,dK,jG];first|rw[anT hc]|rw[anU hc,RS])
theorem afx(e:Nat→V)(bx:Nat→Option (TypeId × List V))(n:Nat)(h:Nat→V)(b:Nat)(u:Nat)(hu:u<18446744073709551616)(l:List (List Nat))(bad:Bool)(hb:bx b=some (108,rdC (jy u::l) bad))(hl:l.length≤100000) :
  Gxz 143 [.ref b 0] ⟨e,bx,n,h⟩ ⟨e,upd bx b (some (108,rdC l bad)),n,h⟩ (vu u):=by
 have hif:=aau
 cases bad
 ·refine gZ oW Tryz.func143 Tryz.results143 ?_
  (repeat' first|refine wP (aI @iQ (aI @dm (aI @bI (aI @hb @DY)))) (aI (A8 u hu) (tu u hu)) ?_|refine cZ (vY _ _ _ _ b (jy u) l false hb (by omega)) ?_|refine tS ?_ ?_<;>intro hc|fail)
  all_goals (refine lh (aG _ _ _) ?_;rw[dJ,dK,jG])
 ·refine gZ oW Tryz.func143 Tryz.results143 ?_
  (repeat' first|refine wP (aI @iQ (aI @dm (aI @bI (aI @hb @DY)))) (aI (A8 u hu) (tu u hu)) ?_|refine cZ (vY _ _ _ _ b (jy u) l true hb (by omega)) ?_|refine tS ?_ ?_<;>intro hc|fail)
  all_goals (refine lh (aG _ _ _) ?_;rw[dJ,dK,jG])
theorem LG{n:Nat}{e h:Nat→V}(he:FrE n e)(hh:FrE n h):FrE n (Bg e h):=by
 intro t
 unfold Bg
 split
 ·exact he _
 ·exact hh _
theorem aa6(n:Nat)(l:List (List Nat))(bad:Bool):∀v∈rdC l bad,Fr n v:=by
 intro v hv
 simp only[List.mem_cons,List.not_mem_nil,or_false] at hv
 rcases hv with rfl|rfl<;>rfl
def byV(w:List Nat):List Nat:=if w=[45] then [] else if okB w (w.length / 2)=true then prs w (w.length / 2) else []
def oH(w:List Nat):Bool:=if w=[45] then false else if okB w (w.length / 2)=true then decide (w=[])||decide (w.length%2≠0) else true
def byA(n:Nat)(l:List Nat):Nat→V
 | 0=>nls
 | j+1 => .sl (.own (n+1) 5) 1 (bv (prs l (j+1)))
def byR(n:Nat)(w:List Nat):V:=if byV w=[] then nls else .sl (.own (n+1) 5) 1 (bv (byV w))
theorem aa7(n b:Nat)(l:List (List Nat))(bad:Bool)(hbn:b<n)(hl:l.length≤1000000)(ho:oct (hdW l))(hw:(hdW l).length≤1000000)(e:Nat→V)(bx:Nat→Option (TypeId × List V))(h:Nat→V)(hE:FrE n e)(hB:FrB n bx)(hH:FrE n h)(hb:bx b=some (108,rdC l bad)) :
  Gxz 96 [.ref b 0] ⟨e,bx,n,h⟩ ⟨e,upd bx b (some (108,rdC l.tail (bad||l.isEmpty||oH (hdW l)))),n+1000002,h⟩ (byR n (hdW l)):=by
 have hwd:=fun e h=>Ec e bx n h b l bad hb hl
 have hP:=QZ (id:=n+1) (LG hE hH) (by omega)
 have hBx:=fun d=>Q3 (id:=n+1) (hB.upd b (108,rdC l.tail d) (aa6 n _ _)) (by omega)
 generalize hd:(bad||l.isEmpty)=d
 simp only[hd] at hwd
 generalize hdW l=w at *
 have key:∃n',Gxz 96 [.ref b 0] ⟨e,bx,n,h⟩ ⟨e,upd bx b (some (108,rdC l.tail (d||oH w))),n',h⟩ (byR n w)∧n'≤n+1000002:=by
  by_cases h45:w=[45]
  ·subst h45
   refine⟨n, ?_,by omega⟩
   have e1:oH [45]=false:=rfl
   have e2:byR n [45]=nls:=rfl
   rw[e1,e2,Bool.or_false]
   refine gZ oW Tryz.func96 Tryz.results96 ?_
   (repeat' first|refine wP (aI @iQ (aI @dm (aI @bI (aI @k45 @DY)))) trivial ?_|refine cZ (hwd _ _) ?_|refine tS ?_ ?_<;>intro hc|fail)
   all_goals (refine lh (aG _ _ _) ?_;rw[dJ,dK])
  ·have hn45:=aaw ho (jI [45] rfl) h45
   refine⟨n+2*(w.length / 2), ?_,by omega⟩
   refine gZ oW Tryz.func96 Tryz.results96 ?_
   (repeat' first|refine wP (aI @iQ (aI @dm (aI @bI (aI @k45 @hn45)))) trivial ?_|refine cZ (hwd _ _) ?_|refine tS ?_ ?_<;>intro hc|fail)
   refine OM (fun j:Nat=>[(0,.ref b 0),(3,vs w),(4,byA n w j),(5,vi (2*(j:Int)))]) (fun _=>upd bx b (some (108,rdC l.tail d))) (fun j=>n+2*j) (fun j=>j≤w.length / 2∧okB w j=true) (fun j=>w.length / 2-j) 0 ?_ (fun _ => .inl rfl) (Nat.le_refl _) ⟨Nat.zero_le _,rfl⟩ ?_
   ·((try simp only[kF,lQ,lD,mf,pgo,simprocAttr,and_true,true_and]);try (repeat' (first|exact trivial|rfl|apply aI)))
   ·rintro j ⟨hj,hok⟩
    have en1:(2*(j:Int)).toNat=2*j:=by omega
    have en2:(2*(j:Int)+1).toNat=2*j+1:=by omega
    rcases Nat.lt_or_ge j (w.length / 2) with hlt|hge
    ·have q1:=DJ yC (w.getD (2*j) 0) rG (gW ho _)
     have q2:=DJ yC (w.getD (2*j+1) 0) rG (gW ho _)
     rw[KX _ (gW ho _)] at q1 q2
     have hr1:=qK (w.getD (2*j) 0)
     have hr2:=qK (w.getD (2*j+1) 0)
     have hv:0≤nib (w.getD (2*j) 0)→0≤nib (w.getD (2*j+1) 0)→16*nib (w.getD (2*j) 0)+nib (w.getD (2*j+1) 0)=((prB w j:Nat):Int):=by
      intro h1 h2
      unfold prB
      omega
     have hpl:=yG w j
     cases hp:okP w j
     ·have hno:=Rq hlt hp
      have hbb:oH w=true:=by unfold oH;rw[if_neg h45,hno];rfl
      have hbr:byR n w=nls:=by unfold byR byV;rw[if_neg h45,hno];rfl
      rw[hbb,hbr,Bool.or_true]
      unfold okP at hp
      have hp':nib (w.getD (2*j) 0)<0∨nib (w.getD (2*j+1) 0)<0:=by
       rw[←Bool.not_eq_true,Bool.and_eq_true,decide_eq_true_eq,decide_eq_true_eq] at hp
       omega
      rcases hp' with hp'|hp'
      ·(repeat' first|refine wP (aI @DK (aI @en1 (aI @en2 (aI @dm @Hy)))) (aI q1 q2) ?_|refine tS ?_ ?_<;>intro hc|fail)
       all_goals exact uO (aG _ _ _) (dJ _ _) (dK _ _) (jG _ _ _ _) (by omega)
      ·(repeat' first|refine wP (aI @DK (aI @en1 (aI @en2 (aI @dm @Hy)))) (aI q1 q2) ?_|refine tS ?_ ?_<;>intro hc|fail)
       all_goals exact uO (aG _ _ _) (dJ _ _) (dK _ _) (jG _ _ _ _) (by omega)
     ·have hp0:=hp
      unfold okP at hp
      rw[Bool.and_eq_true,decide_eq_true_eq,decide_eq_true_eq] at hp
      have hv:=hv hp.1 hp.2
      have hnx:=DL w j
      rcases Nat.eq_zero_or_pos j with h0|h0
      ·have eA:byA n w j=nls:=by rw[h0];rfl
       have eN:byA n w (j+1) = .sl (.own (n+2*j+1) 5) 1 [V.c (.int .u8 ((prB w j:Nat):Int))]:=by rw[h0];rfl
       rw[eA]
       refine wS (aI @DK (aI @en1 (aI @en2 (aI @hv (aI @hP @hBx))))) (aI q1 q2) ?_
       refine Dz (j+1) ⟨hlt,by rw[yE,hok,hp0];rfl⟩ (by omega) ?_ (fun _ => .inl rfl) (by first|omega|(split<;>omega))
       ((try simp only[kF,lQ,lD,mf,pgo,simprocAttr,and_true,true_and,eN]);try (repeat' (first|exact trivial|rfl|apply aI)))
      ·have eA:byA n w j = .sl (.own (n+1) 5) 1 (bv (prs w j)):=by cases j with|zero=>omega|succ j=>rfl
       have eN:byA n w (j+1) = .sl (.own (n+1) 5) 1 (bv (prs w j)++[V.c (.int .u8 ((prB w j:Nat):Int))]):=by show V.sl _ _ _=_;rw[hnx,←dP];rfl
       rw[eA]
       refine wS (aI @DK (aI @en1 (aI @en2 (aI @hv (aI @hP @hBx))))) (aI q1 q2) ?_
       refine Dz (j+1) ⟨hlt,by rw[yE,hok,hp0];rfl⟩ (by omega) ?_ (fun _ => .inl rfl) (by first|omega|(split<;>omega))
       ((try simp only[kF,lQ,lD,mf,pgo,simprocAttr,and_true,true_and,eN]);try (repeat' (first|exact trivial|rfl|apply aI)))
    ·have hjn:j=w.length / 2:=by omega
     have hbb:oH w=(decide (w=[])||decide (w.length%2≠0)):=by unfold oH;rw[if_neg h45,←hjn,hok,if_pos rfl]
     have hbr:byR n w=byA n w j:=by
      unfold byR byV
      rw[if_neg h45,←hjn,hok,if_pos rfl]
      cases j with
      | zero=>rfl
      | succ j=>rw[if_neg (by intro h;have:=yG w (j+1);rw[h] at this;simp at this)];rfl
     have e5:(w.length:Int).tmod 2=((w.length%2:Nat):Int):=rfl
     have hsn:decide (sB w=sB [])=decide (w=[]):=aaC w ho
     rw[hbb,hbr]
     cases d
     ·by_cases hw0:w=[]
      ·rw[decide_eq_true hw0] at hsn ⊢
       (repeat' first|refine wP (aI @ai (aI @e5 (aI @hsn @dm))) trivial ?_|refine tS ?_ ?_<;>intro hc|fail)
       all_goals exact uO (aG _ _ _) (dJ _ _) (dK _ _) (jG _ _ _ _) (by omega)
      ·rw[decide_eq_false hw0] at hsn ⊢
       by_cases hodd:w.length%2=0
       ·rw[decide_eq_false (by omega:¬w.length%2≠0)]
        (repeat' first|refine wP (aI @ai (aI @e5 (aI @hsn (aI @hodd @dm)))) trivial ?_|refine tS ?_ ?_<;>intro hc|fail)
        all_goals exact uO (aG _ _ _) (dJ _ _) (dK _ _) (jG _ _ _ _) (by omega)
       ·rw[decide_eq_true (by omega:w.length%2≠0)]
        have ho1:w.length%2=1:=by omega
        (repeat' first|refine wP (aI @ai (aI @e5 (aI @hsn (aI @ho1 @dm)))) trivial ?_|refine tS ?_ ?_<;>intro hc|fail)
        all_goals exact uO (aG _ _ _) (dJ _ _) (dK _ _) (jG _ _ _ _) (by omega)
     ·(repeat' first|refine wP (aI @ai (aI @e5 (aI @hsn @dm))) trivial ?_|refine tS ?_ ?_<;>intro hc|fail)
      all_goals exact uO (aG _ _ _) (dJ _ _) (dK _ _) (jG _ _ _ _) (by omega)
 obtain⟨n',k1,k2⟩:=key
 exact k1.le k2 (fun _ => .inl rfl)
theorem RU(e:Nat→V)(bx:Nat→Option (TypeId × List V))(n:Nat)(h:Nat→V)(b:Nat)(l:List (List Nat))(bad:Bool)(hb:bx b=some (108,rdC l bad))(hbn:b<n)(hl:l.length≤1000000)(ho:oct (hdW l))(hw:(hdW l).length≤1000000) :
  Gxz 96 [.ref b 0] ⟨e,bx,n,h⟩ ⟨e,upd bx b (some (108,rdC l.tail (bad||l.isEmpty||oH (hdW l)))),n+1000002,h⟩ (byR n (hdW l)) :=
 GoodZ.fresh (x0:=(108,rdC l bad)) (X:=(108,rdC l.tail (bad||l.isEmpty||oH (hdW l)))) (aa6 n _ _) (fun e bx h hE hB hH hb=>aa7 n b l bad hbn hl ho hw e bx h hE hB hH hb) e bx h hb
def its(acc:List (List Nat × Int))(l:List (List Nat))(bad:Bool):List (List Nat × Int) × List (List Nat) × Bool :=
 match bad,l with
 | true,l=>(acc,l,true)
 | false,[]=>(acc,[],false)
 | false,[k]=>(acc++[((pk k).1,(aZ []).1)],[],true)
 | false,k::w::r=>its (acc++[((pk k).1,(aZ w).1)]) r (qW (k::w::r)||iE (w::r))
termination_by l.length
theorem ahe(acc:List (List Nat × Int))(l:List (List Nat)):its acc l true=(acc,l,true):=by unfold its;rfl
theorem ahf(acc:List (List Nat × Int)):its acc [] false=(acc,[],false):=by unfold its;rfl
theorem ahg(acc:List (List Nat × Int))(k:List Nat)(l:List (List Nat)):its acc (k::l) false=its (acc++[((pk k).1,(aZ (hdW l)).1)]) l.tail (qW (k::l)||iE l):=by
 cases l with
 | nil =>
  have e:(qW [k]||iE [])=true:=by simp [iE]
  rw[e]
  show its acc [k] false=its _ [] true
  rw[ahe]
  unfold its
  rfl
 | cons w r =>
  conv=>lhs;unfold its
  rfl
def itA(id:Nat)(acc:List (List Nat × Int)):V:=if acc=[] then nls else .sl (.own id 64) 2 (itv acc)
abbrev opI(nm:List Nat)(it co:V):List V:=[vi 6,vs nm,vs [],nls,vi 0,vi 0,vi 0,vu 0,it,co,vi 0,vi 0,vi 0,vi 0,vi 0,vi 0,vi 0,vs [],vi 0,vi 0,vi 0,nls]
def EY(m:Nat)(f:Nat→Option (TypeId × List V)):Nat→Option (TypeId × List V):=fun c=>if m<c then none else f c
theorem qM(m:Nat)(f:Nat→Option (TypeId × List V))(c:Nat):EY m f c=if m<c then none else f c:=rfl
def opB(bx:Nat→Option (TypeId × List V))(n b:Nat)(nm:List Nat)(it co:V)(l:List (List Nat))(bad:Bool):Nat→Option (TypeId × List V) :=
 EY (n+1+1) (upd (upd (upd bx n (some (32,op0 0))) (n+1+1) (some (32,opI nm it co))) b (some (108,rdC l bad)))
theorem aa8(n:Nat)(w:List Nat):(byR n w).cs=some [byR n w]:=by unfold byR;split<;>rfl
theorem wu(n:Nat)(w:List Nat):(byR n w).one=true:=by unfold byR;split<;>rfl
theorem afy(n:Nat)(w:List Nat)(id:Nat)(h:¬n+1=id):(byR n w).any (Tag.is id) (fun _=>false) false=false:=by
 unfold byR
 split
 ·rfl
 ·simp [V.any,Tag.is,h]
theorem BV(id:Nat)(acc:List (List Nat × Int)):(itA id acc).one=true:=by unfold itA;split<;>rfl
theorem afz(id:Nat):itA id []=nls:=rfl
theorem RV(id:Nat)(acc:List (List Nat × Int))(h:acc≠[]):itA id acc = .sl (.own id 64) 2 (itv acc):=if_neg h
theorem LH(l:List (List Nat × Int))(k:List Nat)(n:Int):itv l++[V.agg [vs k,vi n]]=itv (l++[(k,n)]):=by simp [itv]
theorem aa9(n b:Nat)(l:List (List Nat))(hbn:b<n)(hl:l.length≤100000)(ho:∀x∈l,oct x)(hw:∀x∈l,x.length≤100000)(e:Nat→V)(bx:Nat→Option (TypeId × List V))(h:Nat→V)(hE:FrE n e)(hB:FrB n bx)(hH:FrE n h)(hb:bx b=some (108,rdC ([105,110,115,101,114,116]::l) false)) :
  Gxz 54 [.ref b 0] ⟨e,bx,n,h⟩ ⟨e,upd bx b (some (108,rdC (its [] l.tail.tail (l.isEmpty||l.tail.isEmpty||oH (hdW l.tail))).2.1 (its [] l.tail.tail (l.isEmpty||l.tail.isEmpty||oH (hdW l.tail))).2.2)),n+10000000,h⟩
   (.agg (opI (hdW l) (itA (n+1000007) (its [] l.tail.tail (l.isEmpty||l.tail.isEmpty||oH (hdW l.tail))).1) (byR (n+3) (hdW l.tail)))):=by
 have hne:∀j,j<6→1≤j→aH.getD j []≠[105,110,115,101,114,116]:=by decide
 have d1:¬n=b:=by omega
 have d2:¬b=n:=by omega
 have d3:¬n=n+1+1:=by omega
 have d4:¬n+1+1=n:=by omega
 have d5:¬n+1+1=b:=by omega
 have d6:¬b=n+1+1:=by omega
 have d7:¬n+2=n:=by omega
 have d8:¬n=n+2:=by omega
 have d9:¬n+2=b:=by omega
 have d0:¬b=n+2:=by omega
 have c1:¬n+1+1<b:=by omega
 have c2:¬n+1+1<n:=by omega
 have c3:¬n+1+1<n+1+1:=by omega
 have hoh:∀l':List (List Nat),(∀x∈l',oct x)→oct (hdW l'):=fun l' h'=>vZ h'
 have hwt:∀l':List (List Nat),(∀x∈l',x.length≤100000)→(hdW l').length≤1000000:=fun l' h'=>by
  cases l' with
  | nil=>simp [hdW]
  | cons x r=>have:=h' x (by simp);simp only[hdW,List.headD_cons];omega
 have hot:=hoh l.tail (fun x hx=>ho x (List.mem_of_mem_tail hx))
 have hwt1:=hwt l.tail (fun x hx=>hw x (List.mem_of_mem_tail hx))
 generalize hF:its [] l.tail.tail (l.isEmpty||l.tail.isEmpty||oH (hdW l.tail))=F
 have key:∃bx' n',Gxz 54 [.ref b 0] ⟨e,bx,n,h⟩ ⟨e,bx',n',h⟩ (.agg (opI (hdW l) (itA (n+1000007) F.1) (byR (n+3) (hdW l.tail))))∧n'≤n+10000000∧∀c,upd bx b (some (108,rdC F.2.1 F.2.2)) c=bx' c∨upd bx b (some (108,rdC F.2.1 F.2.2)) c=none∨(n≤c∧upd bx b (some (108,rdC F.2.1 F.2.2)) c=bx c):=by
  refine⟨upd (opB bx n b (hdW l) (itA (n+1000007) F.1) (byR (n+3) (hdW l.tail)) F.2.1 F.2.2) n (some (32,opI (hdW l) (itA (n+1000007) F.1) (byR (n+3) (hdW l.tail)))),n+10000000, ?_,Nat.le_refl _, ?_⟩
  ·refine gZ oW Tryz.func54 Tryz.results54 ?_
   (repeat' first|refine wP (aI @iQ (aI @dm (aI @bI (aI @hb (aI @ai (aI @d1 (aI @d2 (aI @d3 (aI @d4 (aI @d5 (aI @d6 (aI @jG (aI @aa8 @wu))))))))))))) aN ?_|refine cZ (yR _ _ _ _ b [105,110,115,101,114,116] l _ aH 6 (by simp only[upd];rw[if_neg (by omega)];exact hb) (by omega) (jI _ rfl) Pq (by decide) (by decide) rfl hne) ?_|refine cZ (Ec _ _ _ _ b l false (by simp only[upd];(repeat' (first|rw[if_neg (by omega)]|rw[if_pos rfl]|rw[if_pos trivial]))) (by omega)) ?_|refine cZ (RU _ _ _ _ b l.tail _ (by simp only[upd];(repeat' (first|rw[if_neg (by omega)]|rw[if_pos rfl]|rw[if_pos trivial]))) (by omega) (by simp only[List.length_tail];omega) hot hwt1) ?_|refine tS ?_ ?_<;>intro hc|fail)
   refine OM (fun _:List (List Nat × Int) × List (List Nat) × Bool=>[(0,.ref b 0),(2,.ref n 0),(3,.ref (n+1+1) 0)]) (fun x=>opB bx n b (hdW l) (itA (n+1000007) x.1) (byR (n+3) (hdW l.tail)) x.2.1 x.2.2) (fun x=>n+1000005+3*x.1.length) (fun x=>its x.1 x.2.1 x.2.2=F∧x.1.length+x.2.1.length≤100000∧(∀y∈x.2.1,oct y∧y.length≤100000)) (fun x=>x.2.1.length) ([],l.tail.tail,l.isEmpty||l.tail.isEmpty||oH (hdW l.tail)) ?_ ?_ ?_ ?_ ?_
   ·((try simp only[kF,lQ,lD,mf,pgo,simprocAttr,and_true,true_and]);try (repeat' (first|exact trivial|rfl|apply aI)))
   ·intro c
    simp only[opB,EY,upd,afz]
    (repeat' split)<;>first|exact .inr rfl|exact .inl rfl|(exfalso;omega)
   ·show n+1+1+1+1000002≤_
    simp only[List.length_nil];omega
   ·refine⟨hF,by simp only[List.length_nil,List.length_tail];omega,fun y hy => ?_⟩
    have h1:=List.mem_of_mem_tail (List.mem_of_mem_tail hy)
    exact⟨ho y h1,hw y h1⟩
   ·rintro⟨acc,l',bad⟩ ⟨hi1,hi2,hi3⟩
    simp only at hi1 hi2 hi3
    have hfin:∀(hx:its acc l' bad=(acc,l',bad)),F=(acc,l',bad):=fun hx=>by rw[←hi1,hx]
    cases bad with
    | true =>
     have hF':=hfin (ahe acc l')
     subst hF'
     have hx:=au l'
     (repeat' (first|(simp (disch:=first|exact dqz|fail) only[pgz,simprocAttr,opB,qM,c1,c2,c3,hx,dm,bI,d1,d2,d3,d4,d5,d6,BV,wu])|((with_reducible first|apply di|apply bK|apply eX)<;>intro hc<;>(try simp only[hc])<;>(try simp only[pgd] at hc))|(with_reducible refine cK ?_)))
     all_goals (refine uO (by first|exact aG _ _ _|exact jq _ _ _ _|(simp (disch:=first|assumption|omega|(simp only[Fits,maxLen,pgq] at *;omega)) only[pgr,pgo,tyf,simprocAttr,d1,d2,d3,d4,d5,d6,c1,c2,c3,opB,qM];done)|(simp (disch:=first|assumption|omega|(simp only[Fits,maxLen,pgq] at *;omega)) only[pgr,pgo,tyf,simprocAttr,d1,d2,d3,d4,d5,d6,c1,c2,c3,opB,qM];rfl)) (dJ _ _) (dK _ _) (by first|rfl|skip) (by first|omega|skip))
    | false =>
     cases l' with
     | nil =>
      have hF':=hfin (ahf acc)
      subst hF'
      have hx:=au []
      (repeat' (first|(simp (disch:=first|exact dqz|fail) only[pgz,simprocAttr,opB,qM,c1,c2,c3,hx,dm,bI,d1,d2,d3,d4,d5,d6,BV,wu])|((with_reducible first|apply di|apply bK|apply eX)<;>intro hc<;>(try simp only[hc])<;>(try simp only[pgd] at hc))|(with_reducible refine cK ?_)))
      all_goals (refine uO (by first|exact aG _ _ _|exact jq _ _ _ _|(simp (disch:=first|assumption|omega|(simp only[Fits,maxLen,pgq] at *;omega)) only[pgr,pgo,tyf,simprocAttr,d1,d2,d3,d4,d5,d6,c1,c2,c3,opB,qM];done)|(simp (disch:=first|assumption|omega|(simp only[Fits,maxLen,pgq] at *;omega)) only[pgr,pgo,tyf,simprocAttr,d1,d2,d3,d4,d5,d6,c1,c2,c3,opB,qM];rfl)) (dJ _ _) (dK _ _) (by first|rfl|skip) (by first|omega|skip))
     | cons k r =>
      have hx:=au (k::r)
      have hk:=hi3 k (by simp)
      have hrl:acc.length+r.length+1≤100000:=by simpa [Nat.add_assoc] using hi2
      have hr:oct (hdW r)∧(hdW r).length≤1000000:=by
       cases r with
       | nil=>exact⟨dV,by simp [hdW]⟩
       | cons w r=>have:=hi3 w (by simp);exact⟨this.1,by simp only[hdW,List.headD_cons];omega⟩
      have hlen:((k::r).length:Int)=(r.length:Int)+1:=by simp
      rw[ahg] at hi1
      have hnxt:its (acc++[((pk k).1,(aZ (hdW r)).1)]) r.tail (qW (k::r)||iE r)=F∧(acc++[((pk k).1,(aZ (hdW r)).1)]).length+r.tail.length≤100000∧∀y∈r.tail,oct y∧y.length≤100000:=by
       refine⟨hi1,by simp only[List.length_append,List.length_cons,List.length_nil,List.length_tail];omega,fun y hy=>hi3 y (by simp [List.mem_of_mem_tail hy])⟩
      have m1:¬n+1000005+3*acc.length=b:=by omega
      have m2:¬b=n+1000005+3*acc.length:=by omega
      have m3:¬n+1000005+3*acc.length=n:=by omega
      have m4:¬n=n+1000005+3*acc.length:=by omega
      have m5:¬n+1000005+3*acc.length=n+1+1:=by omega
      have m6:¬n+1+1=n+1000005+3*acc.length:=by omega
      have hP:=QZ (id:=n+1000007) (LG hE hH) (by omega)
      have hk1:hdW (k::r)=k:=rfl
      have hbc:∀c,(bx c).map (fun y=>(y.1,y.2.map (aJ (n+1000007))))=bx c:=fun c=>congrFun (Q3 (id:=n+1000007) hB (by omega)) c
      have hit:=aB acc
      by_cases hac:acc=[]
      ·have eA:itA (n+1000007) acc=nls:=by rw[hac];rfl
       (repeat' (first|(simp (disch:=first|exact dqz|fail) only[pgz,simprocAttr,opB,qM,c1,c2,c3,hx,hlen,eA,hk1,BV,wu,bI,List.tail_cons,Bool.false_or,d1,d2,d3,d4,d5,d6,m1,m2,m3,m4,m5,m6,jG])|((with_reducible show gU _ _ _ _ _ _);first|refine nT _ (aa5 _ _ _ _ b (k::r) false (by simp only[opB,EY,upd];(repeat' (first|rw[if_neg (by omega)]|rw[if_pos rfl]|rw[if_pos trivial]))) (by simp only[List.length_cons];omega) hk.1 (by rw[hk1];omega)) rfl ?_|refine nT _ (Ed _ _ _ _ b r _ (by simp only[opB,EY,upd];(repeat' (first|rw[if_neg (by omega)]|rw[if_pos rfl]|rw[if_pos trivial]))) (by omega) hr.1 hr.2) rfl ?_)|((with_reducible first|apply di|apply bK|apply eX)<;>intro hc<;>(try simp only[hc])<;>(try simp only[pgd] at hc))|(with_reducible refine cK ?_)))
       refine Dz (acc++[((pk k).1,(aZ (hdW r)).1)],r.tail,qW (k::r)||iE r) hnxt (by simp only[List.length_cons,List.length_tail];omega) ?_ ?_ (by simp only[List.length_append,List.length_cons,List.length_nil];first|omega|(split<;>omega))
       ·((try simp only[kF,lQ,lD,mf,pgo,simprocAttr,and_true,true_and]);try (repeat' (first|exact trivial|rfl|apply aI)))
       ·intro c
        subst hac
        simp only[opB,EY,upd]
        (repeat' split)<;>first|exact .inr rfl|exact .inl rfl|(exfalso;omega)
      ·have eA:=RV (n+1000007) acc hac
       have hby:=afy (n+3) (hdW l.tail) (n+1000007) (by omega)
       (repeat' (first|(simp (disch:=first|exact dqz|fail) only[pgz,simprocAttr,hby,opB,qM,c1,c2,c3,hx,hlen,eA,hk1,BV,wu,bI,hP,List.tail_cons,Bool.false_or,d1,d2,d3,d4,d5,d6,m1,m2,m3,m4,m5,m6,jG,LH])|((with_reducible show gU _ _ _ _ _ _);first|refine nT _ (aa5 _ _ _ _ b (k::r) false (by simp only[opB,EY,upd];(repeat' (first|rw[if_neg (by omega)]|rw[if_pos rfl]|rw[if_pos trivial]))) (by simp only[List.length_cons];omega) hk.1 (by rw[hk1];omega)) rfl ?_|refine nT _ (Ed _ _ _ _ b r _ (by simp only[opB,EY,upd];(repeat' (first|rw[if_neg (by omega)]|rw[if_pos rfl]|rw[if_pos trivial]))) (by omega) hr.1 hr.2) rfl ?_)|((with_reducible first|apply di|apply bK|apply eX)<;>intro hc<;>(try simp only[hc])<;>(try simp only[pgd] at hc))|(with_reducible refine cK ?_)))
       refine Dz (acc++[((pk k).1,(aZ (hdW r)).1)],r.tail,qW (k::r)||iE r) hnxt (by simp only[List.length_cons,List.length_tail];omega) ?_ ?_ (by simp only[List.length_append,List.length_cons,List.length_nil];first|omega|(split<;>omega))
       ·((try simp only[kF,lQ,lD,mf,pgo,simprocAttr,and_true,true_and]);try (repeat' (first|exact trivial|rfl|apply aI)))
       ·intro c
        have eN:itA (n+1000007) (acc++[((pk k).1,(aZ (hdW r)).1)]) = .sl (.own (n+1000007) 64) 2 (itv (acc++[((pk k).1,(aZ (hdW r)).1)])):=RV _ _ (by simp)
        simp only[opB,EY,upd,QN,eN]
        (repeat' split)<;>first|exact .inr rfl|exact .inl rfl|(exfalso;omega)|exact .inl (hbc c).symm|skip
  ·intro c
   simp only[opB,EY,upd]
   (repeat' split)<;>first|exact .inl rfl|exact .inr (.inl rfl)|exact .inr (.inr ⟨by omega,rfl⟩)|(exfalso;omega)
 obtain⟨bx',n',h1,h2,h3⟩:=key
 exact h1.le h2 h3
theorem RX(e:Nat→V)(bx:Nat→Option (TypeId × List V))(n:Nat)(h:Nat→V)(b:Nat)(l:List (List Nat))(hb:bx b=some (108,rdC ([105,110,115,101,114,116]::l) false))(hbn:b<n)(hl:l.length≤100000)(ho:∀x∈l,oct x)(hw:∀x∈l,x.length≤100000) :
  Gxz 54 [.ref b 0] ⟨e,bx,n,h⟩ ⟨e,upd bx b (some (108,rdC (its [] l.tail.tail (l.isEmpty||l.tail.isEmpty||oH (hdW l.tail))).2.1 (its [] l.tail.tail (l.isEmpty||l.tail.isEmpty||oH (hdW l.tail))).2.2)),n+10000000,h⟩
   (.agg (opI (hdW l) (itA (n+1000007) (its [] l.tail.tail (l.isEmpty||l.tail.isEmpty||oH (hdW l.tail))).1) (byR (n+3) (hdW l.tail)))) :=
 GoodZ.fresh (x0:=(108,rdC ([105,110,115,101,114,116]::l) false)) (X:=(108,rdC (its [] l.tail.tail (l.isEmpty||l.tail.isEmpty||oH (hdW l.tail))).2.1 (its [] l.tail.tail (l.isEmpty||l.tail.isEmpty||oH (hdW l.tail))).2.2)) (aa6 n _ _) (fun e bx h hE hB hH hb=>aa9 n b l hbn hl ho hw e bx h hE hB hH hb) e bx h hb
theorem ajE:∀x∈kN,oct x:=by
 intro x hx
 have:∀x∈kN,(x.all fun b=>decide (b<256))=true:=by decide
 intro b hb
 simpa using List.all_eq_true.1 (this x hx) b hb
theorem sh5(n:Int):Int.fdiv n (2^min 5 IntKind.i64.bits)=n.fdiv 32:=rfl
theorem sh7(n:Int):Int.fdiv n (2^min 7 IntKind.i64.bits)=n.fdiv 128:=rfl
end Go.Proofs.YtjiolbcdfgclaaaGreatDoor
