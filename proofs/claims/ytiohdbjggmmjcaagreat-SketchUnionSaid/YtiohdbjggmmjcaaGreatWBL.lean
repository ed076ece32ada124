/-
  Merged texts.
-/
import Derived.Test.YtiohdbjggmmjcaaGreatWAY
import Derived.Test.YtiohdbjggmmjcaaGreatWBK
set_option linter.unusedVariables false
set_option linter.unusedSimpArgs false
set_option linter.unusedSectionVars false
set_option linter.defProp false
set_option maxRecDepth 100000
set_option maxHeartbeats 8000000
namespace Go.Proofs.YtiohdbjggmmjcaaGreat
open Go Go.Pg
theorem aik{x:Tp}(h:vTp x=0):0≤fK x∧fK x≤1099511627776:=by
 unfold fK
 split
 ·omega
 ·rename_i q
  have hl:x.e.length-1<x.e.length:=by omega
  have:=Zd h (x.e.getD (x.e.length-1) eD) (nJ _ _ _ hl)
  omega
theorem ail{x:Tp}(h:vTp x=0)(k:List Nat):(0≤(lZ x k).1.2.1∧(lZ x k).1.2.1≤1099511627776)∧0≤(lZ x k).1.2.2∧(lZ x k).1.2.2≤1099511627776:=by
 have hl:=aik h
 unfold lZ
 split
 ·exact⟨hl,hl⟩
 ·rename_i q
  have hr:=lQ x.e k
  have:=Zd h (x.e.getD (bi x.e k).toNat ([],0,0)) (nJ _ _ _ (by omega))
  simp only
  omega
theorem Nj{x:Tp}(h:vTp x=0)(k:List Nat):W64 (lZ x k).1.2.1∧W64 (lZ x k).1.2.2:=by
 have:=ail h k
 unfold W64;omega
theorem agZ{x:Tp}(k:List Nat):(lZ x k).2=decide (0≤bi x.e k):=by
 unfold lZ
 have:=lQ x.e k
 split
 ·rename_i q;rw[decide_eq_false (by omega)]
 ·rename_i q;rw[decide_eq_true (by omega)]
def tu(x y:Tp)(n:Nat):List En:=x.e++(y.e.take n).filter fun z=>decide (bi x.e z.1<0)
def tJ(x y:Tp)(m:List En):List En:=m.map fun z=>SC x y z.1
def yw(x y:Tp)(m:List En):Bool:=m.any fun z=>prF x y z.1
theorem XR(x y:Tp)(m:List En)(z:En):tJ x y m++[SC x y z.1]=tJ x y (m++[z]):=by simp [tJ]
theorem GV(x y:Tp)(s:Bool)(m:List En)(z:En):((s||yw x y m)||prF x y z.1)=(s||yw x y (m++[z])):=by simp [yw,Bool.or_assoc]
theorem sJ(l:List En)(i:Nat)(h:i<l.length):l.take i++[l.getD i ([],0,0)]=l.take (i+1):=by
 rw[List.take_succ_eq_append_getElem h];simp [List.getD,h]
theorem aim(x y:Tp):tu x y 0=x.e:=by simp [tu]
theorem Zh(x y:Tp)(i:Nat)(h:i<y.e.length)(q:bi x.e (y.e.getD i ([],0,0)).1<0):tu x y i++[y.e.getD i ([],0,0)]=tu x y (i+1):=by
 unfold tu
 rw[←sJ y.e i h,List.filter_append,List.append_assoc]
 have hq:=decide_eq_true q
 generalize y.e.getD i ([],0,0)=z at *
 simp [List.filter,hq]
theorem aft(x y:Tp)(i:Nat)(h:i<y.e.length)(q:¬bi x.e (y.e.getD i ([],0,0)).1<0):tu x y i=tu x y (i+1):=by
 unfold tu
 rw[←sJ y.e i h,List.filter_append]
 have hq:=decide_eq_false q
 generalize y.e.getD i ([],0,0)=z at *
 simp [List.filter,hq]
theorem ain(x y:Tp)(n:Nat):(tu x y n).length≤x.e.length+y.e.length:=by
 unfold tu
 rw[List.length_append]
 have h1:=List.length_filter_le (fun z:En=>decide (bi x.e z.1<0)) (y.e.take n)
 rw[List.length_take] at h1
 omega
theorem aio{x y:Tp}(hx:vTp x=0)(hy:vTp y=0)(n:Nat):(tu x y n).Pairwise fun a b=>a.1≠b.1:=by
 unfold tu
 rw[List.pairwise_append]
 refine⟨afo hx,((afo hy).sublist (List.take_sublist _ _)).sublist List.filter_sublist,fun a ha b hb => ?_⟩
 have hb:=(List.mem_filter.1 hb).2
 simp only[decide_eq_true_eq] at hb
 exact wX b.1 x.e 0 hb a ha
theorem aip{x y:Tp}(hx:vTp x=0)(hy:vTp y=0)(n:Nat):(tJ x y (tu x y n)).Pairwise fun a b=>a.1≠b.1:=by
 unfold tJ
 rw[List.pairwise_map]
 exact aio hx hy n
theorem aiq{x y:Tp}(hx:octE x.e)(hy:octE y.e)(n:Nat):octE (tu x y n):=fun z hz=>by
 unfold tu at hz
 rcases List.mem_append.1 hz with h|h
 ·exact hx z h
 ·exact hy z (List.mem_of_mem_take (List.mem_filter.1 h).1)
theorem air{x y:Tp}(hx:octE x.e)(hy:octE y.e)(n:Nat):octE (tJ x y (tu x y n)):=fun z hz=>by
 obtain⟨u,hu,rfl⟩:=List.mem_map.1 hz
 exact aiq hx hy n u hu
theorem aiJ(x y:Tp)(m:List En):∀z∈tJ x y m, -9000000000000000000≤z.2.1∧z.2.1≤9000000000000000000:=fun z hz=>by
 obtain⟨u,hu,rfl⟩:=List.mem_map.1 hz
 have:=pR (lZ x u.1).1.2.1 (lZ y u.1).1.2.1
 exact⟨Int.le_trans (by decide) this.1,Int.le_trans this.2 (by decide)⟩
def sZ(x y:Tp):Tp × Int :=
 if vTp x≠0 then (Tp.o,vTp x) else if vTp y≠0 then (Tp.o,vTp y) else if x.z≠y.z then (Tp.o,10)
 else (⟨x.z,(aO x.t y.t).1,(srt bfE (nM (tJ x y (tu x y y.e.length)))).take x.z.toNat,x.b||y.b||(aO x.t y.t).2||yw x y (tu x y y.e.length)⟩,0)
def bM(x y:Tp)(z t:Int)(l:List En)(s:Bool):Bxx :=
 upd (upd (upd (upd (fun _=>none) 0 (some (34,tpF x))) 1 (some (34,tpF y))) 2 (some (34,[vi 0,vi 0,nls,vb false]))) 3 (some (34,[vi z,vi t,.sl (.own 4 119) 3 (ev l),vb s]))
abbrev fnM:V := .fn 122 [] [.ref 0 0,.ref 1 0,.ref 3 0]
def slM(l:List En):V := .sl (mX (ev l) 0 119) 3 (ev l)
theorem aiX:elemT Tryz.prog 32=some 119:=by kernel_rfl
theorem aiY:tsz Tryz.prog 119=some 3:=by kernel_rfl
theorem ai7(L:List En)(z:Int)(hz:1≤z)(hl:L.length≤1000000)(s:St)(id:Nat):lI Tryz.prog s 32 id 3 (ev L) none (some (.c (.int .i64 (min z (L.length:Int)))))=some (fzv (L.take z.toNat),s.mapV (frz id)):=by
 have hel:=aG L
 have hcut:slV Tryz.prog 32 (.sl .fz 3 (ev L)) none (some (.c (.int .i64 (min z (L.length:Int)))))=some (fzv (L.take z.toNat)):=by
  rw[EU]
  simp only[bdV,Option.bind_some,aiX,aiY]
  rw[if_pos ⟨trivial,by omega,by omega,by rw[hel];omega⟩]
  have e1:(ev L).take (min z (L.length:Int)).toNat=ev (L.take z.toNat):=by
   unfold ev
   rw[←List.map_take]
   congr 1
   rcases Int.le_total z L.length with h|h
   ·rw[Int.min_eq_left h]
   ·rw[Int.min_eq_right h,Int.toNat_natCast,List.take_of_length_le (Nat.le_refl _),List.take_of_length_le (by omega)]
  simp only[Int.toNat_natCast,List.drop_zero,e1]
  first|rfl|done
 unfold lI
 rw[hcut];rfl
theorem ais{X Y:Tp}{z t:Int}{l:List En}{s:Bool}{F:Bxx}(h:∀c,c<4→F c=bM X Y z t l s c)(c:Nat)(x':TypeId × List V)(hx:bM X Y z t l s c=some x'):∃x,F c=some x∧x.1=x'.1∧uT x.2 x'.2:=by
 by_cases hc:c<4
 ·exact⟨x',by rw[h c hc];exact hx,rfl,fZ _⟩
 ·have:bM X Y z t l s c=none:=by simp [bM,upd,show ¬c=0 by omega,show ¬c=1 by omega,show ¬c=2 by omega,show ¬c=3 by omega]
  rw[this] at hx;cases hx
theorem aiR{X Y:Tp}{z t:Int}{l l2:List En}{s s2:Bool}{n:Nat}{F:Bxx}(hF:∀c,c<4→F c=bM X Y z t l s c)(c:Nat)(hc:c<4) :
  upd (mapB (aJ 4) F) 3 (some (34,[vi z,vi t,.sl (.own 4 119) 3 (ev l2),vb s2])) c=bM X Y z t l2 s2 c:=by
 rcases (by omega:c=0∨c=1∨c=2∨c=3) with rfl|rfl|rfl|rfl
 ·rw[TY _ _ _ _ (by decide),iG,hF 0 (by decide)];rfl
 ·rw[TY _ _ _ _ (by decide),iG,hF 1 (by decide)];rfl
 ·rw[TY _ _ _ _ (by decide),iG,hF 2 (by decide)];rfl
 ·rw[lF];rfl
theorem ait(x y:Tp)(hx:octE x.e)(hy:octE y.e)(c1:vTp x=0)(c2:vTp y=0)(cz:x.z=y.z) :
  Gxx 51 [.agg (tpF x),.agg (tpF y)] (.tup [.agg [vi x.z,vi (aO x.t y.t).1,slM ((srt bfE (nM (tJ x y (tu x y y.e.length)))).take x.z.toNat),vb (x.b||y.b||(aO x.t y.t).2||yw x y (tu x y y.e.length))],vi 0]):=by
 obtain⟨i1,i2,i3,i4⟩:=kK c1
 obtain⟨j1,j2,j3,j4⟩:=kK c2
 have h1:=Jt x hx (by omega)
 have h2:=Jt y hy (by omega)
 rw[c1] at h1
 rw[c2] at h2
 have hw:=Nj c1
 have hw':=Nj c2
 have hzp:=fun (k:List Nat) (ho:oct k)=>aiW x y k ho hx hy (by omega) (by omega) hw hw'
 have hfd:=fun (k:List Nat) (ho:oct k)=>acR x k ho hx (by omega)
 have hzt:=fun (e:Nat→V) (bx:Bxx) (n:Nat) (h:Nat→V) (en:V) (sa:Bool) (hb:bx 3=some (34,[vi x.z,vi 0,en,vb sa]))=>JP e bx n h 3 x.t y.t x.z 0 en sa (by unfold W64;omega) (by unfold W64;omega) hb
 have hdis:=aip c1 c2 y.e.length
 have hoc:=air hx hy y.e.length
 have hbd:=aiJ x y (tu x y y.e.length)
 have hel1:=aG x.e
 have hel2:=aG y.e
 have hzz:(x.z=y.z)=True:=eq_true cz
 generalize haT:aO x.t y.t=aT at *
 obtain⟨T,s1⟩:=aT
 obtain⟨z,t,l,b⟩:=x
 obtain⟨z2,t2,l2,b2⟩:=y
 simp only at *
 obtain⟨sA,hsA⟩:∃sA,sA=(b||b2||s1):=⟨_,rfl⟩
 rw[←hsA]
 obtain⟨bv,hbv⟩:∃bv,bv=b:=⟨_,rfl⟩
 obtain⟨X,hX⟩:∃X:Tp,X=⟨z,t,l,bv⟩:=⟨_,rfl⟩
 obtain⟨Y,hY⟩:∃Y:Tp,Y=⟨z2,t2,l2,b2⟩:=⟨_,rfl⟩
 rw[←hbv,←hX,←hY] at hzp hdis hoc hbd ⊢
 rw[←hbv,←hX] at hfd
 have hXF:tpF X=tpF ⟨z,t,l,bv⟩:=by rw[hX]
 have hYF:tpF Y=tpF ⟨z2,t2,l2,b2⟩:=by rw[hY]
 rw[hXF,hYF,hbv]
 have hm0:tu X Y 0=l:=by rw[aim,hX]
 have hXe:X.e=l:=by rw[hX]
 have hYe:Y.e=l2:=by rw[hY]
 have hmy:=fun i (hi:i<l2.length) (q:bi l (l2.getD i ([],0,0)).1<0)=>Zh X Y i (by rw[hYe];exact hi) (by rw[hXe,hYe];exact q)
 have hmn:=fun i (hi:i<l2.length) (q:¬bi l (l2.getD i ([],0,0)).1<0)=>aft X Y i (by rw[hYe];exact hi) (by rw[hXe,hYe];exact q)
 have hml:=fun i=>ain X Y i
 rw[hXe,hYe] at hml
 rw[hYe] at hmy
 have hfy:=fun k=>agZ (x:=X) k
 rw[hXe] at hfy
 cases b
 all_goals
  refine gI (eu [] mix) Tryz.func51 Tryz.results51 ?_
  (repeat' (first|(simp (disch:=first|exact dqz|fail) only[pgz,simprocAttr,pgE,pgj,iC,hel1,hel2,hzz])|(refine tC ?_;first|refine cU h1 ?_|refine cU h2 ?_|refine dZ _ (hzt _ _ _ _ _ _ (by first|rfl|simp [upd])) rfl ?_)|(refine tE ?_ ?_<;>intro hc)|refine xK ?_|fail))
  refine sO (ι:=Nat) (fun i=>⟨iP [(2,.ref 0 0),(3,.ref 1 0),(4,.ref 2 0),(8,.ref 3 0),(9,fnM),(51,fzv l),(52,vi l.length),(53,vi i)],bM X Y z T (tJ X Y (l.take i)) (sA||yw X Y (l.take i)),5+4*i,fun _ => .top⟩) (fun i=>i≤l.length) (fun i=>l.length-i) 0 ?_ (Nat.zero_le _) ?_
  ·refine kP (EnvIs.w ?_) (fun c x' hx => ?_) (by decide)
   ·exact eE
   ·by_cases k3:c=3
    ·subst k3
     cases hx
     refine⟨_,rfl,rfl,bJ _,bJ _,FZ _ _, ?_,trivial⟩
     rw[hsA]
     simp only[List.take_zero,yw,List.any_nil,Bool.or_false,Bool.false_or,Bool.true_or]
     exact bJ _
    ·by_cases k2:c=2
     ·subst k2;cases hx;exact⟨_,rfl,rfl,fZ _⟩
     ·by_cases k1:c=1
      ·subst k1
       have hx:some (34,tpF Y)=some x':=hx
       cases hx;rw[hYF];exact⟨_,rfl,rfl,fZ _⟩
      ·by_cases k0:c=0
       ·subst k0
        have hx:some (34,tpF X)=some x':=hx
        cases hx;rw[hXF,hbv];exact⟨_,rfl,rfl,fZ _⟩
       ·have hn:bM X Y z T (tJ X Y (l.take 0)) (sA||yw X Y (l.take 0)) c=none:=by simp [bM,upd,k0,k1,k2,k3]
        rw[hn] at hx;cases hx
  ·rintro i hi
   have hi:i≤l.length:=hi
   rcases Nat.lt_or_ge i l.length with hlt|hge
   ·have hg:=eY l i hlt
    have hok:=fV hx i
    have hz:=hzp _ hok
    have hE:=XR X Y (l.take i) (l.getD i ([],0,0))
    have hF:=GV X Y sA (l.take i) (l.getD i ([],0,0))
    rw[sJ l i hlt] at hE hF
    have hml1:(tJ X Y (l.take i)).length≤1000000:=by simp only[tJ,List.length_map,List.length_take];omega
    have hlt2:((i:Int)<(l.length:Int))=True:=eq_true (by omega)
    generalize l.getD i ([],0,0)=en at *
    (repeat' (first|(simp (disch:=first|exact dqz|fail) only[pgz,simprocAttr,pgE,pgj,iC,hel1,hlt2,hg,hE,hF])|(refine tC ?_;refine cY (hz _ _ _ _ z T _ _ 4 hml1 (by first|(rw[TY _ _ _ _ (by omega),TY _ _ _ _ (by omega)];rfl)|rfl) (by first|(rw[TY _ _ _ _ (by omega),TY _ _ _ _ (by omega)];rfl)|rfl) (by first|(rw[TY _ _ _ _ (by omega),TY _ _ _ _ (by omega)];rfl)|rfl) (by omega) (by omega)) ?_)|(refine tE ?_ ?_<;>intro hc)|refine xK ?_|fail))
    refine lY (i+1) hlt (by show l.length-(i+1)<l.length-i;omega) (kP (EnvIs.w ?_) (ais (fun c hc=>aiR (n:=0) (fun c hc=>by rw[TY _ _ _ _ (by omega),TY _ _ _ _ (by omega)]) c hc)) (by show 5+4*i+1+3≤5+4*(i+1);omega))
    ((try simp only[bu,jm,cO,cu,pgo,simprocAttr,and_true,true_and]);try (repeat' (first|exact trivial|rfl|apply aI)))
   ·have hil:i=l.length:=by omega
    subst hil
    rw[List.take_length]
    have hlt2:((l.length:Int)<(l.length:Int))=False:=eq_false (by omega)
    have hb1:bM X Y z T (tJ X Y l) (sA||yw X Y l) 1=some (34,[vi z2,vi t2,fzv l2,vb b2]):=by
     show some (34,tpF Y)=_
     rw[hYF]
    (repeat' (first|(simp (disch:=first|exact dqz|fail) only[pgz,simprocAttr,pgE,pgj,iC,hel1,hel2,hlt2,hb1])|(refine tE ?_ ?_<;>intro hc)|refine xK ?_|fail))
    refine sO (ι:=Nat) (fun i=>⟨iP [(2,.ref 0 0),(4,.ref 2 0),(8,.ref 3 0),(9,fnM),(63,fzv l2),(64,vi l2.length),(65,vi i)],bM X Y z T (tJ X Y (tu X Y i)) (sA||yw X Y (tu X Y i)),5+4*l.length+5*i,fun _ => .top⟩) (fun i=>i≤l2.length) (fun i=>l2.length-i) 0 ?_ (Nat.zero_le _) ?_
    ·refine kP (EnvIs.w ?_) (fun c x' hx => ?_) (Nat.le_refl _)
     ·exact eE
     ·rw[hm0] at hx
      exact⟨x',hx,rfl,fZ _⟩
    ·rintro i hi
     have hi:i≤l2.length:=hi
     rcases Nat.lt_or_ge i l2.length with hlt|hge
     ·have hg:=eY l2 i hlt
      have hok:=fV hy i
      have hz:=hzp _ hok
      have hf:=hfd _ hok
      rw[hfy,hXF] at hf
      have hlt2:((i:Int)<(l2.length:Int))=True:=eq_true (by omega)
      have hb0:bM X Y z T (tJ X Y (tu X Y i)) (sA||yw X Y (tu X Y i)) 0=some (34,tpF ⟨z,t,l,bv⟩):=by rw[←hXF];rfl
      have hml1:(tJ X Y (tu X Y i)).length≤1000000:=by have:=hml i;simp only[tJ,List.length_map];omega
      have hq0:(0=5+4*l.length+5*i)=False:=eq_false (by omega)
      have hq1:(5+4*l.length+5*i=5+4*l.length+5*i+1)=False:=eq_false (by omega)
      have hq2:(0=5+4*l.length+5*i+1)=False:=eq_false (by omega)
      by_cases q:bi l (l2.getD i ([],0,0)).1<0
      ·have hE:=XR X Y (tu X Y i) (l2.getD i ([],0,0))
       have hF:=GV X Y sA (tu X Y i) (l2.getD i ([],0,0))
       rw[hmy i hlt q] at hE hF
       rw[decide_eq_false (by omega)] at hf
       generalize l2.getD i ([],0,0)=en at *
       generalize (lZ X en.1).1=fe at *
       (repeat' (first|(simp (disch:=first|exact dqz|fail) only[pgz,simprocAttr,pgE,pgj,iC,hel2,hlt2,hg,hE,hF,hb0,hq0,hq1,hq2])|(refine tC ?_;first|refine cU hf ?_|refine cY (hz _ _ _ _ z T _ _ 4 hml1 (by first|(rw[TY _ _ _ _ (by omega),TY _ _ _ _ (by omega),TY _ _ _ _ (by omega),TY _ _ _ _ (by omega)];rfl)|rfl) (by first|(rw[TY _ _ _ _ (by omega),TY _ _ _ _ (by omega),TY _ _ _ _ (by omega),TY _ _ _ _ (by omega)];rfl)|rfl) (by first|(rw[TY _ _ _ _ (by omega),TY _ _ _ _ (by omega),TY _ _ _ _ (by omega),TY _ _ _ _ (by omega)];rfl)|rfl) (by omega) (by omega)) ?_)|(refine tE ?_ ?_<;>intro hc)|refine xK ?_|fail))
       refine lY (i+1) hlt (by show l2.length-(i+1)<l2.length-i;omega) (kP (EnvIs.w ?_) (ais (fun c hc=>aiR (n:=0) (fun c hc=>by rw[TY _ _ _ _ (by omega),TY _ _ _ _ (by omega),TY _ _ _ _ (by omega),TY _ _ _ _ (by omega)]) c hc)) (by show 5+4*l.length+5*i+1+1+3≤5+4*l.length+5*(i+1);omega))
       ((try simp only[bu,jm,cO,cu,pgo,simprocAttr,and_true,true_and]);try (repeat' (first|exact trivial|rfl|apply aI)))
      ·rw[decide_eq_true (by omega)] at hf
       have hE:=hmn i hlt q
       generalize l2.getD i ([],0,0)=en at *
       generalize (lZ X en.1).1=fe at *
       (repeat' (first|(simp (disch:=first|exact dqz|fail) only[pgz,simprocAttr,pgE,pgj,iC,hel2,hlt2,hg,hb0,hq0,hq1,hq2])|(refine tC ?_;refine cU hf ?_)|(refine tE ?_ ?_<;>intro hc)|refine xK ?_|fail))
       refine lY (i+1) hlt (by show l2.length-(i+1)<l2.length-i;omega) (kP (EnvIs.w ?_) (ais (fun c hc=>by rw[TY _ _ _ _ (by omega),TY _ _ _ _ (by omega),TY _ _ _ _ (by omega),TY _ _ _ _ (by omega),hE])) (by show _≤5+4*l.length+5*(i+1);omega))
       ((try simp only[bu,jm,cO,cu,pgo,simprocAttr,and_true,true_and]);try (repeat' (first|exact trivial|rfl|apply aI)))
     ·have hil:i=l2.length:=by omega
      subst hil
      have hlt2:((l2.length:Int)<(l2.length:Int))=False:=eq_false (by omega)
      have hE2l:(tJ X Y (tu X Y l2.length)).length≤64:=by have:=hml l2.length;simp only[tJ,List.length_map];omega
      have hb3:bM X Y z T (tJ X Y (tu X Y l2.length)) (sA||yw X Y (tu X Y l2.length)) 3=some (34,[vi z,vi T,.sl (.own 4 119) 3 (ev (tJ X Y (tu X Y l2.length))),vb (sA||yw X Y (tu X Y l2.length))]):=rfl
      have hb2:bM X Y z T (tJ X Y (tu X Y l2.length)) (sA||yw X Y (tu X Y l2.length)) 2=some (34,[vi 0,vi 0,nls,vb false]):=rfl
      generalize tJ X Y (tu X Y l2.length)=E2 at *
      generalize (sA||yw X Y (tu X Y l2.length))=fl at *
      have hst:=fun (e:Nat→V) (bx:Bxx) (n:Nat) (h:Nat→V)=>CG e bx n h 4 E2 (by omega) hdis hoc hbd
      have hE2e:=aG E2
      have hE3e:(ev (srt bfE (nM E2))).length=E2.length:=by rw[aG,wI];simp [nM]
      have hL3:(srt bfE (nM E2)).length=E2.length:=by rw[wI];simp [nM]
      have hown:=fun (s:St) (id:Nat)=>ai7 (srt bfE (nM E2)) z i1.1 (by omega) s id
      rw[hL3] at hown
      have hlk:((srt bfE (nM E2)).take z.toNat).length≤64:=by rw[List.length_take];omega
      generalize (srt bfE (nM E2)).take z.toNat=LL at *
      cases LL with
      | nil =>
       have hev0:ev []=[]:=rfl
       (repeat' (first|(simp (disch:=first|exact dqz|fail) only[pgz,simprocAttr,pgE,pgj,iC,hel2,hlt2,hb3,hb2,hE2e,hE3e,qB,kR,FW,isC,hown,hev0,Oo,if_true,id_eq])|(refine tC ?_;refine dZ _ (hst _ _ _ _) rfl ?_)|(refine tE ?_ ?_<;>intro hc)|refine xK ?_|fail))
       refine bZ [] (.tup [.agg [vi z,vi T,.sl .nn 3 [],vb fl],vi 0]) (by simp (disch:=first|assumption|omega) only[pgr,pgo,tyf,simprocAttr,qB,kR,FW,hb3,hb2];first|rfl|skip) (by decide) (by simp only[pgo,simprocAttr]) ?_
       first|rfl|simp only[pgo,simprocAttr]|skip
      | cons y0' l0' =>
       have hsl:slM (y0'::l0') = .sl (.own 0 119) 3 (ev (y0'::l0')):=rfl
       rw[hsl]
       generalize hl:y0'::l0'=LL at *
       have hl1:0<LL.length:=by rw[←hl];simp
       have hlle:=aG LL
       (repeat' (first|(simp (disch:=first|exact dqz|fail) only[pgz,simprocAttr,pgE,pgj,iC,hel2,hlt2,hb3,hb2,hE2e,hE3e,hlle,qB,kR,FW,isC,hown,if_true,id_eq])|(refine tC ?_;refine dZ _ (hst _ _ _ _) rfl ?_)|(refine tE ?_ ?_<;>intro hc)|refine xK ?_|fail))
       refine bZ [5+4*l.length+5*l2.length+E2.length+1] (.tup [.agg [vi z,vi T,.sl (.own (5+4*l.length+5*l2.length+E2.length+1) 119) 3 (ev LL),vb fl],vi 0]) (by simp (disch:=first|assumption|omega) only[pgr,pgo,tyf,simprocAttr,qB,kR,FW,hb3,hb2];first|rfl|skip) (by simp) (by simp only[pgo,simprocAttr];first|rfl|simp) ?_
       simp [V.map,V.mapL,nz,pgo]
end Go.Proofs.YtiohdbjggmmjcaaGreat
