/-
  Merged texts.
-/
import Derived.Test.YtiohdbjggmmjcaaGreatWAY
import Derived.Test.YtiohdbjggmmjcaaGreatWAZ
import Derived.Test.YtiohdbjggmmjcaaGreatWAQ
import Derived.Test.YtiohdbjggmmjcaaGreatWAU
set_option linter.unusedVariables false
set_option linter.unusedSimpArgs false
set_option linter.unusedSectionVars false
set_option linter.defProp false
set_option maxRecDepth 100000
set_option maxHeartbeats 8000000
section
namespace Go.Proofs.YtiohdbjggmmjcaaGreat
open Go Go.Pg
theorem wE{n:Nat}{e h:Nat→V}(he:FrE n e)(hh:FrE n h):FrE n (gm e h):=by
 intro t
 unfold gm
 split
 ·exact he _
 ·exact hh _
theorem sU(n:Nat)(h:n≤10000000):Fits n 16:=⟨by simp only[maxLen];omega,by omega⟩
theorem kQ{ψ:V→V}{bx:Bxx}{c:Nat}(h:∀x,bx c=some x→x.2.map ψ=x.2):mapB ψ bx c=bx c:=by
 show (bx c).map _=bx c
 cases hc:bx c with
 | none=>rfl
 | some x=>simp only[Option.map_some,Option.some.injEq];exact Prod.ext rfl (h x hc)
theorem Yw(cs:List V)(p:Nat)(x:V)(h:p<cs.length):List.take p cs++[x]++List.drop (p+1) cs=cs.set p x:=by
 rw[List.set_eq_take_append_cons_drop,if_pos h];simp
theorem Gf(cs:List V)(p:Nat)(x y:V)(h:p<cs.length):List.take p (cs.set p y)++[x]++List.drop (p+1) (cs.set p y)=cs.set p x:=by
 rw[Yw _ _ _ (by simpa using h),List.set_set]
section
attribute [local instance 2000] nestI
theorem Yx{lo n:Nat}{bx:Bxx}{b Lb:Nat}{z t l:Int}{sat:Bool}{v:List (List (List Nat))}{cs:List V}(H:RkAt lo n bx b Lb z t l sat v cs)(p:Nat)(hp:p≤100000)(ks:List (List Nat))(hks:ks.length≤100000)(hv:v.length≤100000)(hl:∀i,(v.getD i []).length≤100000)
  (e h:Nat→V) (he:FrE lo e) (hh:FrE lo h):GoodE Tryz.prog 90 [.ref b 0,vi p,fzs ks] ⟨e,bx,n,h⟩
   (fun s' r=>r = .tup []∧∃n' cs',n≤n'∧Lvs lo n' cs' (Ci v p ks)∧s'=⟨e,rkB lo bx b Lb z t l sat (Ci v p ks) cs',n',h⟩):=by
 have hpF:=wE he hh
 refine sQ (eu [] mix) Tryz.func90 rfl Tryz.results90 rfl (by kernel_rfl) (Nat.le_of_ble_eq_true (by kernel_rfl)) ?_
 (repeat' (first|(simp (disch:=first|exact dqz|fail) only[pgz,simprocAttr,oq,iT,pgE,pgj,dB])|(refine tE ?_ ?_<;>intro hc)|refine xK ?_|fail))
 refine sO (ι:=(Bxx) × Nat × List V × Nat) (fun i=>⟨iP [(0,.ref b 0),(1,vi p),(2,fzs ks)],i.1,i.2.1,gm e h⟩) (fun i=>RkAt lo i.2.1 i.1 b Lb z t l sat (v++List.replicate i.2.2.2 []) i.2.2.1∧n≤i.2.1∧i.2.2.2≤p+1-v.length∧∀c,c<lo→c≠b→i.1 c=bx c) (fun i=>p+1-v.length-i.2.2.2) (bx,n,cs,0) ?_ ⟨by simpa using H,Nat.le_refl _,Nat.zero_le _,fun _ _ _=>rfl⟩ ?_
 ·refine gK (gp ?_) (fun c => .inl rfl) (Nat.le_refl _)
  ((try simp only[bu,jm,cO,cu,pgo,simprocAttr,and_true,true_and]);try (repeat' (first|exact trivial|rfl|apply aI)))
 rintro⟨bx1,n1,cs1,k⟩ ⟨H1,hn1,hk,ho1⟩
 simp only at H1 hn1 hk ho1
 have hb:=H1.hb
 have hvl:(v++List.replicate k ([]:List (List Nat))).length=v.length+k:=by simp
 rw[hvl] at hb
 by_cases hle:v.length+k≤p
 ·have hc0:(((v.length+k:Nat):Int)≤(p:Int))=True:=eq_true (by omega)
  have hlen:=H1.lv.len
  rw[hvl] at hlen
  have hp1:dX (dP Lb) (gm e h)=gm e h:=JB hpF H1.n2
  have hkl:List.map (dP Lb) (cs1++[.c (.slice none 0 0)])=cs1++[.c (.slice none 0 0)]:=by
   rw[List.map_append,H1.lv.mapN (fun c l hc _=>JG hc Lb)];rfl
  have hnx:=H1.n1;have hny:=H1.n2;have hnz:=H1.n3
  have hbL:(b == Lb)=false:=by simp;omega
  have hnL:(n1≤Lb)=False:=eq_false (by omega)
  have hbE:(b=Lb)=False:=eq_false (by omega)
  have hbE2:(Lb=b)=False:=eq_false (by omega)
  have key:∀(e2:Nat→V) (bx2:Bxx) (n2:Nat),EnvIs e2 [(0,.ref b 0),(1,vi p),(2,fzs ks)]→(∀c,c<lo→c≠b→bx2 c=bx1 c)→bx2 b=some (tRk,[vi z,vi t,vi l,.bs Lb tLs 0 1 (v.length+k+1),.c (.bool sat)])→bx2 Lb=some (tLs,cs1++[yn])→n2≤n1+2 →
    qK (fun i:(Bxx) × Nat × List V × Nat=>(⟨iP [(0,.ref b 0),(1,vi p),(2,fzs ks)],i.1,i.2.1,gm e h⟩:St)) (fun i=>RkAt lo i.2.1 i.1 b Lb z t l sat (v++List.replicate i.2.2.2 []) i.2.2.1∧n≤i.2.1∧i.2.2.2≤p+1-v.length∧∀c,c<lo→c≠b→i.1 c=bx c) (fun i=>p+1-v.length-i.2.2.2) (bx1,n1,cs1,k) ⟨e2,bx2,n2,gm e h⟩:=by
   intro e2 bx2 n2 h1 h2 h3 h4 h5
   have hv1:v++List.replicate (k+1) ([]:List (List Nat))=v++List.replicate k []++[[]]:=by rw[List.replicate_succ',List.append_assoc]
   have hR:=Cf (z':=z) (t':=t) (l':=l) (sat':=sat) H1 (show n1≤n1+2 by omega) (H1.lv.snoc.mono (show n1≤n1+2 by omega))
   refine lY (rkB lo bx1 b Lb z t l sat (v++List.replicate k []++[[]]) (cs1++[yn]),n1+2,cs1++[yn],k+1) ⟨by rw[hv1];exact hR,by show n≤n1+2;omega,by show k+1≤p+1-v.length;omega,fun c hc hcb => ?_⟩ (by show p+1-v.length-(k+1)<p+1-v.length-k;omega) (gK (gp h1) (fun c => ?_) (by show n2≤n1+2;omega))
   ·show rkB _ _ _ _ _ _ _ _ _ _ c=_
    simp only[rkB,if_neg hcb]
    rw[if_neg (by omega),if_pos hc]
    exact ho1 c hc hcb
   ·show rkB _ _ _ _ _ _ _ _ _ _ c=_∨_
    by_cases hcb:c=b
    ·subst hcb;left
     rw[h3]
     simp [rkB]
     omega
    ·by_cases hcL:c=Lb
     ·subst hcL;left
      rw[h4]
      simp [rkB,hcb]
     ·by_cases hcl:c<lo
      ·left;rw[h2 c hcl hcb];simp [rkB,hcb,hcL,hcl]
      ·right;simp [rkB,hcb,hcL,hcl]
  have hfr:∀c x,c≠b→c≠Lb→bx1 c=some x→x.2.map (dP Lb)=x.2:=fun c x h1 h2 hx=>by
   conv=>rhs;rw[←List.map_id x.2]
   exact List.map_congr_left fun w hw=>BZ ((H1.old c x h1 h2 hx).2 w hw) H1.n2
  rcases Nat.eq_zero_or_pos (v.length+k) with h0|h0
  ·have hz:((v.length+k)*1=0)=True:=eq_true (by omega)
   have hcs:cs1=[]:=List.eq_nil_of_length_eq_zero (by omega)
   subst hcs
   have hk1:List.map (dP Lb) ([]++[V.c (.slice none 0 0)])=[V.c (.slice none 0 0)]:=rfl
   (repeat' (first|(simp (disch:=first|exact dqz|fail) only[pgz,simprocAttr,iT,pgE,pgj,dB,hb,hc0,hz,hk1,hp1,hbL,hnL,hbE,hbE2,beq_self_eq_true])|(refine tE ?_ ?_<;>intro hc)|refine xK ?_|fail))
   refine key _ _ _ ?_ (fun c h1 h2 => ?_) ?_ ?_ (by omega)
   ·((try simp only[bu,jm,cO,cu,pgo,simprocAttr,and_true,true_and,rM,zL,XW,hbL]);try (repeat' (first|exact trivial|rfl|apply aI)))
   ·have h3:c≠Lb:=by omega
    simp only[upd,if_neg h2,if_neg h3]
    exact kQ (fun x hx=>hfr c x h2 h3 hx)
   ·simp only[upd,if_true]<;>rfl
   ·simp only[upd,if_neg (show ¬Lb=b by omega),if_true]<;>rfl
  ·have hz:((v.length+k)*1=0)=False:=eq_false (by omega)
   have hL:bx1 Lb=some (tLs,cs1):=by
    rcases H1.hL with ⟨h1,_⟩|h1
    ·have:=congrArg List.length h1;rw[hvl] at this;simp only[List.length_nil] at this;omega
    ·exact h1
   have hz2:((v.length+k)*1≤cs1.length)=True:=eq_true (by omega)
   have hz3:List.take ((v.length+k)*1) cs1=cs1:=List.take_of_length_le (by omega)
   (repeat' (first|(simp (disch:=first|exact dqz|fail) only[pgz,simprocAttr,iT,pgE,pgj,dB,hb,hc0,hz,hL,hz2,hz3,hkl,hp1,hbL,hnL,hbE,hbE2,beq_self_eq_true])|(refine tE ?_ ?_<;>intro hc)|refine xK ?_|fail))
   refine key _ _ _ ?_ (fun c h1 h2 => ?_) ?_ ?_ (by omega)
   ·((try simp only[bu,jm,cO,cu,pgo,simprocAttr,and_true,true_and,rM,zL,XW,hbL]);try (repeat' (first|exact trivial|rfl|apply aI)))
   ·have h3:c≠Lb:=by omega
    simp only[upd,if_neg h2,if_neg h3]
    exact kQ (fun x hx=>hfr c x h2 h3 hx)
   ·simp only[upd,if_true]<;>rfl
   ·simp only[upd,if_neg (show ¬Lb=b by omega),if_true]<;>rfl
 ·have hc0:(((v.length+k:Nat):Int)≤(p:Int))=False:=eq_false (by omega)
  have hkk:k=p+1-v.length:=by omega
  subst hkk
  have hgr:v++List.replicate (p+1-v.length) ([]:List (List Nat))=iJ v (p+1):=rfl
  rw[hgr] at H1
  have hgl:=xW v (p+1)
  have hlen:=H1.lv.len
  rw[hgl] at hlen
  have hnx:=H1.n1;have hny:=H1.n2;have hnz:=H1.n3
  have hbL:(b == Lb)=false:=by simp;omega
  have hbE:(b=Lb)=False:=eq_false (by omega)
  have hbE2:(Lb=b)=False:=eq_false (by omega)
  have hL:bx1 Lb=some (tLs,cs1):=by
   rcases H1.hL with ⟨h1,_⟩|h1
   ·have:=congrArg List.length h1;rw[hgl] at this;simp only[List.length_nil] at this;omega
   ·exact h1
  have hpv:v.length+(p+1-v.length)=max v.length (p+1):=by omega
  have hpl:p<cs1.length:=by omega
  have hcell:=H1.lv.cell p (by rw[hgl];omega)
  rw[xX] at hcell
  have hget:cs1[p]?=some (cs1.getD p yn):=by rw[List.getD_eq_getElem?_getD,List.getElem?_eq_getElem hpl];rfl
  have hi0:(0:Int)≤(p:Int):=by omega
  have hi1:(p:Int)<((v.length+(p+1-v.length):Nat):Int):=by omega
  have hto:(p:Int).toNat=p:=by omega
  have fin:∀(e2:Nat→V) (bx2:Bxx) (n2:Nat) (c':V),LvC c' (v.getD p []++ks)→(∀id∈V.ids c',id∈V.ids (cs1.getD p yn)∨id=n1)→(∀c,c<lo→c≠b→bx2 c=bx1 c)→bx2 b=some (tRk,[vi z,vi t,vi l,.bs Lb tLs 0 1 (iJ v (p+1)).length,.c (.bool sat)])→bx2 Lb=some (tLs,cs1.set p c')→n2≤n1+1 →
    F6 Tryz.prog [] (fun s' r=>r = .tup []∧∃n' cs',n≤n'∧Lvs lo n' cs' (Ci v p ks)∧s'=⟨e,rkB lo bx b Lb z t l sat (Ci v p ks) cs',n',h⟩) ⟨e2,bx2,n2,gm e h⟩:=by
   intro e2 bx2 n2 c' h1 h1' h2 h3 h4 h5
   have hlv:Lvs lo (n1+1) (cs1.set p c') (Ci v p ks):=H1.lv.set (by rw[hgl];omega) h1 (by omega) (fun id hid=>by
    rcases h1' id hid with h|h
    ·exact .inl h
    ·right;omega)
   have hal:(Ci v p ks).length=(iJ v (p+1)).length:=by simp [Ci]
   refine acg (gK (n':=n1+1) (bx':=rkB lo bx b Lb z t l sat (Ci v p ks) (cs1.set p c')) (fun t => .inl rfl) (fun c => ?_) (by omega)) (F7 ⟨rfl,n1+1,_,by omega,hlv,rfl⟩ ⟨rfl,jk _ _,jl _ _,rfl,Nat.le_refl _⟩)
   by_cases hcb:c=b
   ·subst hcb;left
    rw[h3]
    simp [rkB,hal]
   ·by_cases hcL:c=Lb
    ·subst hcL;left
     rw[h4]
     simp [rkB,hcb]
    ·by_cases hcl:c<lo
     ·left;rw[h2 c hcl hcb,ho1 c hcl hcb];simp [rkB,hcb,hcL,hcl]
     ·right;simp [rkB,hcb,hcL,hcl]
  have hgL:v.length+(p+1-v.length)=(iJ v (p+1)).length:=by rw[hgl];omega
  have hkF:Fits ks.length 16:=sU _ (by omega)
  have hk2:=eG ks
  have hs1:=fun x=>Yw cs1 p x hpl
  have hs2:=fun x=>Gf cs1 p x .top hpl
  have hle1:(p+1≤cs1.length)=True:=eq_true (by omega)
  have hle2:(p+1≤(cs1.set p V.top).length)=True:=by rw[List.length_set];exact hle1
  rcases hcell with ⟨hc1,hc2⟩|⟨hc1,hc2⟩|⟨id,hc1⟩
  ·rw[hc1] at hget
   (repeat' (first|(simp (disch:=first|exact dqz|fail) only[pgz,simprocAttr,iT,pgE,pgj,dB,hb,hc0,hL,hget,hbL,hbE,hbE2,hto,Nat.mul_one,Nat.zero_add,hk2,hkF,hs1,hle1,gQ,jA])|(refine tE ?_ ?_<;>intro hc)|(with_reducible refine bH ?_)|(refine kw _ _ _ _ _ ?_)|(with_reducible refine cK ?_)))
   refine fin _ _ _ (.sl (.own n1 tSt) 1 (sv ks)) ?_ ?_ (fun c h1 h2 => ?_) ?_ ?_ (by omega)
   ·rw[hc2];exact .inr (.inr ⟨n1,rfl⟩)
   ·intro id hid;right;simpa [V.ids] using hid
   ·have h3:c≠Lb:=by omega
    simp only[upd,if_neg h3]
   ·rw[←hgL,←hb];simp only[upd,if_neg (show ¬b=Lb by omega)]
   ·simp only[upd,if_true]<;>rfl
  ·rw[hc1] at hget
   (repeat' (first|(simp (disch:=first|exact dqz|fail) only[pgz,simprocAttr,iT,pgE,pgj,dB,hb,hc0,hL,hget,hbL,hbE,hbE2,hto,Nat.mul_one,Nat.zero_add,hk2,hkF,O8,hs1,hle1,gQ,jA])|(refine tE ?_ ?_<;>intro hc)|(with_reducible refine bH ?_)|(refine kw _ _ _ _ _ ?_)|(with_reducible refine cK ?_)))
   refine fin _ _ _ (.sl (mX (sv ks) n1 tSt) 1 (sv ks)) ?_ ?_ (fun c h1 h2 => ?_) ?_ ?_ (by omega)
   ·rw[hc2];cases ks with
    | nil=>exact .inr (.inl ⟨rfl,rfl⟩)
    | cons x xs=>exact .inr (.inr ⟨n1,rfl⟩)
   ·intro id hid;right
    cases ks with
    | nil=>simp [V.ids,mX,sv] at hid
    | cons x xs=>simpa [V.ids,mX,sv] using hid
   ·have h3:c≠Lb:=by omega
    simp only[upd,if_neg h3]
   ·rw[←hgL,←hb];simp only[upd,if_neg (show ¬b=Lb by omega)]
   ·simp only[upd,if_true]<;>rfl
  ·rw[hc1] at hget
   have hid:id∈V.ids (cs1.getD p yn):=by rw[hc1];simp [V.ids]
   obtain⟨hi2,hi3⟩:=H1.lv.ids p id (by rw[hgl];omega) hid
   have hp1:dX (aJ id) (gm e h)=gm e h:=Oy hpF hi2
   have hsl:=eG (v.getD p [])
   have hlp:=hl p
   have hF2:Fits ((v.getD p []).length+ks.length) 16:=sU _ (by omega)
   have hmp:List.map (aJ id) cs1=cs1.set p .top:=by
    rw[H1.lv.map (i:=p) (by rw[hgl];omega) hid (ψ:=aJ id) (fun c hc=>by unfold aJ;rw[hc];rfl),hc1]
    unfold aJ;simp [V.has,V.any,Tag.is]
   have hnid:(if n1≤id+1 then id+1 else n1)=n1:=by split<;>omega
   have hnx2:(n1≤id)=False:=eq_false (by omega)
   (repeat' (first|(simp (disch:=first|exact dqz|fail) only[pgz,simprocAttr,iT,pgE,pgj,dB,hb,hc0,hL,hget,hbL,hbE,hbE2,hto,Nat.mul_one,Nat.zero_add,hk2,hkF,hsl,hF2,hmp,hp1,hnx2,hnid,hs2,hle2,gQ,jA])|(refine tE ?_ ?_<;>intro hc)|(with_reducible refine bH ?_)|(refine kw _ _ _ _ _ ?_)|(with_reducible refine cK ?_)))
   refine fin _ _ _ (.sl (.own id tSt) 1 (sv (v.getD p [])++sv ks)) ?_ ?_ (fun c h1 h2 => ?_) ?_ ?_ (by omega)
   ·exact .inr (.inr ⟨id,by rw[XD]⟩)
   ·intro id' hid';left;rw[hc1];simpa [V.ids] using hid'
   ·have h3:c≠Lb:=by omega
    simp only[upd,if_neg h3]
    refine kQ (fun x hx => ?_)
    conv=>rhs;rw[←List.map_id x.2]
    exact List.map_congr_left fun w hw=>xG ((H1.old c x h2 h3 hx).2 w hw) hi2
   ·rw[←hgL];simp only[upd,if_neg (show ¬b=Lb by omega),iG,hb];rfl
   ·simp only[upd,if_true]<;>rfl
end
end Go.Proofs.YtiohdbjggmmjcaaGreat
end
section
namespace Go.Proofs.YtiohdbjggmmjcaaGreat
open Go Go.Pg
theorem Yy{e:Nat→V}{bx bx':Bxx}{n:Nat}{h:Nat→V}(hb:∀b,bx' b=bx b∨bx' b=none):∀(C:Cx) (L:Lay) (a:Act) (w:World),Sim C ⟨e,bx,n,h⟩ L a w→Sim C ⟨e,bx',n,h⟩ L a w:=by
 intro C L a w S
 refine⟨S.defers,S.size,S.env,S.hid,fun c x hc => ?_,S.wf,S.kp⟩
 rcases hb c with h1|h1
 ·have h2:bx' c=some x:=hc
  rw[h1] at h2;exact S.box c x h2
 ·have h2:bx' c=some x:=hc
  rw[h1] at h2;cases h2
def cpB(n:Nat)(bx:Bxx)(Lb i:Nat)(cs:List V):Bxx:=fun c=>if c=Lb then (if i=0 then none else some (tLs,cs)) else if c<n then bx c else none
def cpX(n:Nat)(bx:Bxx)(z t l:Int)(sat:Bool)(v:List (List (List Nat)))(Lb i:Nat)(cs:List V):Bxx :=
 upd (upd (cpB n bx Lb i cs) n (some (tRk,[vi z,vi t,vi l,fzl v,.c (.bool sat)]))) (n+1) (some (tRk,[y0,y0,y0,yn,yf]))
theorem Lvs.push{lo n m:Nat}{cs:List V}{v:List (List (List Nat))}(h:Lvs lo n cs v){c:V}{l:List (List Nat)}(hc:LvC c l)(hm:n≤m)(hid:∀id∈V.ids c,lo≤id∧n≤id∧id<m):Lvs lo m (cs++[c]) (v++[l]):=by
 have hl:=h.len
 have:=h.snoc.set (i:=v.length) (by simp) hc hm (fun id hd => .inr (hid id hd))
 rw[List.set_append_right _ _ (by omega),List.set_append_right _ _ (by omega)] at this
 simpa [hl] using this
section
attribute [local instance 2000] nestI
theorem Tm(n:Nat)(bx:Bxx)(z t l:Int)(sat:Bool)(v:List (List (List Nat)))(hv:v.length≤1000)(hl:∀i,(v.getD i []).length≤1000)
  (e h:Nat→V) (he:FrE n e) (hh:FrE n h) (hB:FrB n bx):GoodE Tryz.prog 88 [.agg [vi z,vi t,vi l,fzl v,.c (.bool sat)]] ⟨e,bx,n,h⟩
   (fun s' r=>∃Lb cs n',n≤Lb∧Lb<n'∧Lvs n n' cs v∧r = .agg [vi z,vi t,vi l,.bs Lb tLs 0 1 v.length,.c (.bool sat)]∧∃bx',s'=⟨e,bx',n',h⟩∧∀c,cpB n bx Lb v.length cs c=bx' c∨cpB n bx Lb v.length cs c=none):=by
 have hpF:=wE he hh
 have hvl:=fD v
 refine sQ (eu [] mix) Tryz.func88 rfl Tryz.results88 rfl (by kernel_rfl) (Nat.le_of_ble_eq_true (by kernel_rfl)) ?_
 (repeat' (first|(simp (disch:=first|exact dqz|fail) only[pgz,simprocAttr,oq,iT,pgE,pgj,dB,hvl,Nat.add_assoc,Nat.left_eq_add,Nat.add_eq_left,Nat.add_left_cancel_iff])|(refine tE ?_ ?_<;>intro hc)|refine xK ?_|fail))
 refine sO (ι:=Nat × List V × Nat × Nat) (fun i=>⟨iP [(1,.ref n 0),(2,.ref (n+1) 0),(3,.bs i.1 tLs 0 1 i.2.2.2),(7,fzl v),(8,vi v.length),(9,vi i.2.2.2)],cpX n bx z t l sat v i.1 i.2.2.2 i.2.1,i.2.2.1,gm e h⟩) (fun i=>n+2≤i.1∧i.1<i.2.2.1∧Lvs n i.2.2.1 i.2.1 (v.take i.2.2.2)∧i.2.2.2≤v.length) (fun i=>v.length-i.2.2.2) (n+2,[],n+3,0) ?_ ⟨by show n+2≤n+2;omega,by show n+2<n+3;omega,by simpa using Lvs.nil n (n+3),Nat.zero_le _⟩ ?_
 ·refine kP (e:=_) ?_ (fun c x' hx => ?_) (by show _≤n+3;omega)
  ·simp only[mQ,pY,pgo,simprocAttr,and_true]
   exact⟨bJ _,bJ _,ae5 _ _ _ _,bJ _,bJ _,bJ _⟩
  ·have hx':cpX n bx z t l sat v (n+2) 0 [] c=some x':=hx
   refine⟨x', ?_,rfl,fZ _⟩
   rw[←hx']
   simp only[cpX,cpB,upd,if_true]
   by_cases h1:c=n+1
   ·simp [h1]
   ·by_cases h2:c=n
    ·simp [h2]
    ·simp only[if_neg h1,if_neg h2]
     simp only[cpX,cpB,upd,if_neg h1,if_neg h2,if_true] at hx'
     by_cases h3:c=n+2
     ·rw[if_pos h3] at hx';cases hx'
     ·rw[if_neg h3] at hx' ⊢
      split at hx'
      ·rename_i h4;rw[if_pos h4]
      ·cases hx'
 rintro⟨Lb,cs,n1,i⟩ ⟨h1,h2,h3,h4⟩
 simp only at h1 h2 h3 h4
 have hlen:=h3.len
 have htl:(v.take i).length=i:=by simp;omega
 rw[htl] at hlen
 have hX0:cpX n bx z t l sat v Lb i cs n=some (tRk,[vi z,vi t,vi l,fzl v,.c (.bool sat)]):=by simp [cpX,upd]
 have hX1:cpX n bx z t l sat v Lb i cs (n+1)=some (tRk,[y0,y0,y0,yn,yf]):=by simp [cpX,upd]
 have hp1:dX (dP Lb) (gm e h)=gm e h:=JB hpF (by omega)
 have hL:0<i→cpX n bx z t l sat v Lb i cs Lb=some (tLs,cs):=fun h0=>by
  simp only[cpX,upd,cpB,if_neg (show ¬Lb=n+1 by omega),if_neg (show ¬Lb=n by omega),if_neg (show ¬i=0 by omega),if_true]
 by_cases hi:i<v.length
 ·have hkn:(n == Lb)=false:=by simp;omega
  have hkn1:(n+1 == Lb)=false:=by simp;omega
  have hc0:((i:Int)<(v.length:Int))=True:=eq_true (by omega)
  have hg:=nG v i hi
  have hlp:=hl i
  have hk2:=eG (v.getD i [])
  have hF:Fits (v.getD i []).length 16:=sU _ (by omega)
  have hnL:(n1≤Lb)=False:=eq_false (by omega)
  have hnL2:(n1+2≤Lb)=False:=eq_false (by omega)
  have hnL3:(Lb=n1+1+1)=False:=eq_false (by omega)
  have hk1:∀c:V,(∃tg l,c = .sl tg 1 l)→List.map (dP Lb) (cs++[c])=cs++[c]:=fun c hc=>by
   obtain⟨tg,l,rfl⟩:=hc
   rw[List.map_append,h3.mapN (fun c l hc _=>JG hc Lb)];rfl
  have hk3:=hk1 (.sl (mX (sv (v.getD i [])) (n1+1) 9) 1 (sv (v.getD i []))) ⟨_,_,rfl⟩
  have hold:Et ⟨iP [],cpX n bx z t l sat v Lb i cs,n1,gm e h⟩ Lb i=some cs:=by
   by_cases hi0:i=0
   ·have:cs=[]:=List.eq_nil_of_length_eq_zero (by omega)
    simp [Et,hi0,this]
   ·unfold Et
    rw[if_neg hi0]
    show (cpX n bx z t l sat v Lb i cs Lb).bind _=_
    rw[hL (by omega)]
    exact (if_pos (show i≤cs.length by omega)).trans (congrArg some (List.take_of_length_le (show cs.length≤i by omega)))
  have hold2:(if i=0 then some [] else (cpX n bx z t l sat v Lb i cs Lb).bind fun x=>if i≤x.snd.length then some (List.take i x.snd) else none)=some cs:=hold
  (repeat' (first|(simp (disch:=first|exact dqz|fail) only[pgz,simprocAttr,iT,pgE,pgj,dB,hvl,hX0,hX1,hc0,hg,hk2,hF,O8,Yd,hp1,hnL,Nat.mul_one,hnL2,hnL3,hold2,hk3])|(refine tE ?_ ?_<;>intro hc)|refine xK ?_|fail))
  have htk:v.take (i+1)=v.take i++[v.getD i []]:=by
   rw[List.take_add_one,List.getD_eq_getElem?_getD,List.getElem?_eq_getElem hi];rfl
  refine lY (Lb,cs++[.sl (mX (sv (v.getD i [])) (n1+1) 9) 1 (sv (v.getD i []))],n1+3,i+1) ⟨h1,by show Lb<n1+3;omega, ?_,hi⟩ (by show v.length-(i+1)<v.length-i;omega) (kP (EnvIs.w ?_) (fun c x' hx => ?_) (by show _≤n1+3;omega))
  ·show Lvs n (n1+3) _ (v.take (i+1))
   rw[htk]
   refine h3.push ?_ (by omega) (fun id hid => ?_)
   ·cases v.getD i [] with
    | nil=>exact .inr (.inl ⟨rfl,rfl⟩)
    | cons x xs=>exact .inr (.inr ⟨n1+1,rfl⟩)
   ·cases hvi:v.getD i [] with
    | nil=>rw[hvi] at hid;simp [V.ids,mX,sv] at hid
    | cons x xs =>
     rw[hvi] at hid
     have:id=n1+1:=by simpa [V.ids,mX,sv] using hid
     omega
  ·((try simp only[bu,jm,cO,cu,pgo,simprocAttr,and_true,true_and,rM,zL,XW,hkn,hkn1]);try (repeat' (first|exact trivial|rfl|apply aI)))
  ·have hx':cpX n bx z t l sat v Lb (i+1) (cs++[.sl (mX (sv (v.getD i [])) (n1+1) 9) 1 (sv (v.getD i []))]) c=some x':=hx
   have fin:∀x,(upd (mapB (dP Lb) (upd (cpX n bx z t l sat v Lb i cs) (n1+1+1) (some (98,[V.sl (mX (sv (v.getD i [])) (n1+1) 9) 1 (sv (v.getD i []))])))) Lb (some (98,cs++[V.sl (mX (sv (v.getD i [])) (n1+1) 9) 1 (sv (v.getD i []))]))) c=some x→x=x'→∃x:TypeId × List V,_=some x∧x.1=x'.1∧uT x.2 x'.2:=fun x h e=>⟨x,h,by rw[e],by rw[e];exact fZ _⟩
   by_cases hcL:c=Lb
   ·subst hcL
    refine fin _ (if_pos rfl) ?_
    simp only[cpX,upd,cpB,if_neg (show ¬c=n+1 by omega),if_neg (show ¬c=n by omega),if_neg (show ¬i+1=0 by omega),if_true,Option.some.injEq] at hx'
    exact hx'
   ·have hcn:c≠n1+1+1:=by
     intro hc
     subst hc
     simp only[cpX,upd,cpB,if_neg (show ¬n1+1+1=n+1 by omega),if_neg (show ¬n1+1+1=n by omega),if_neg hcL,if_neg (show ¬n1+1+1<n by omega)] at hx'
     cases hx'
    have hsame:cpX n bx z t l sat v Lb (i+1) (cs++[.sl (mX (sv (v.getD i [])) (n1+1) 9) 1 (sv (v.getD i []))]) c=cpX n bx z t l sat v Lb i cs c:=by
     simp only[cpX,upd,cpB,if_neg hcL]
    rw[hsame] at hx'
    refine fin x' ?_ rfl
    simp only[upd,if_neg hcL]
    have hcx:=hx'
    refine (kQ (fun x hx2 => ?_)).trans (by simp only[upd,if_neg hcn];exact hx')
    simp only[upd,if_neg hcn] at hx2
    simp only[cpX,upd,cpB,if_neg hcL] at hx2
    split at hx2
    ·simp only[Option.some.injEq] at hx2;subst hx2;rfl
    ·split at hx2
     ·simp only[Option.some.injEq] at hx2;subst hx2;rfl
     ·split at hx2
      ·conv=>rhs;rw[←List.map_id x.2]
       exact List.map_congr_left fun w hw=>BZ (hB c x hx2 w hw) (by omega)
      ·cases hx2
 ·have hc0:((i:Int)<(v.length:Int))=False:=eq_false (by omega)
  have hn1:(n+1=n)=False:=eq_false (by omega)
  have hiv:i=v.length:=by omega
  subst hiv
  (repeat' (first|(simp (disch:=first|exact dqz|fail) only[pgz,simprocAttr,iT,pgE,pgj,dB,hvl,hX0,hX1,hc0,hn1,gQ,jA])|(refine tE ?_ ?_<;>intro hc)|refine xK ?_|fail))
  refine F7 ⟨Lb,cs,n1,by omega,by omega,by simpa using h3,rfl,_,rfl,fun c => ?_⟩ ⟨by simp (disch:=first|assumption|omega) only[pgr,pgo,tyf,simprocAttr],jk _ _,jl _ _,rfl,Nat.le_refl _⟩
  by_cases hcL:c=Lb
  ·subst hcL;left
   simp only[ady,upd,cpX,if_neg (show ¬c=n+1 by omega),if_neg (show ¬c=n by omega)]
  ·by_cases hcn:c<n
   ·left;simp only[ady,upd,cpX,if_neg (show ¬c=n+1 by omega),if_neg (show ¬c=n by omega)]
   ·right;simp only[cpB,if_neg hcL,if_neg hcn]
theorem Yz(n:Nat)(bx:Bxx)(z t l:Int)(sat:Bool)(v:List (List (List Nat)))(hv:v.length≤1000)(hl:∀i,(v.getD i []).length≤1000)
  (e h:Nat→V) (he:FrE n e) (hh:FrE n h) (hB:FrB n bx):GoodE Tryz.prog 88 [.agg [vi z,vi t,vi l,fzl v,.c (.bool sat)]] ⟨e,bx,n,h⟩
   (fun s' r=>∃Lb cs n',n≤Lb∧Lb<n'∧Lvs n n' cs v∧r = .agg [vi z,vi t,vi l,.bs Lb tLs 0 1 v.length,.c (.bool sat)]∧s'=⟨e,cpB n bx Lb v.length cs,n',h⟩):=by
 refine (Tm n bx z t l sat v hv hl e h he hh hB).post ?_
 rintro s' r ⟨Lb,cs,n',h1,h2,h3,rfl,bx',rfl,h4⟩ C L a w u S hr
 exact⟨L,⟨e,cpB n bx Lb v.length cs,n',h⟩,_,⟨Lb,cs,n',h1,h2,h3,rfl,rfl⟩,(Yy (fun c=>h4 c)) C L a w S,hr⟩
end
end Go.Proofs.YtiohdbjggmmjcaaGreat
end
namespace Go.Proofs.YtiohdbjggmmjcaaGreat
open Go Go.Pg
def hlf(n:Int)(i:Nat):Int:=n.fdiv (2^min i IntKind.i64.bits)
theorem O6(n:Int)(i:Nat)(hi:i≤64):hlf n i=n / 2^i:=by
 unfold hlf
 rw[Int.fdiv_eq_ediv_of_nonneg _ (Int.le_of_lt (Int.pow_pos (by omega)))]
 have:min i IntKind.i64.bits=i:=by show min i 64=i;omega
 rw[this]
theorem alE(n:Int)(i:Nat)(hi:i<64):(hlf n i).fdiv (2^min 1 IntKind.i64.bits)=hlf n (i+1):=by
 rw[O6 n i (by omega),O6 n (i+1) (by omega),Int.fdiv_eq_ediv_of_nonneg _ (Int.le_of_lt (Int.pow_pos (by omega)))]
 have:min 1 IntKind.i64.bits=1:=rfl
 rw[this,Int.pow_one,Int.ediv_ediv_of_nonneg (Int.le_of_lt (Int.pow_pos (by omega))),←Int.pow_succ]
theorem alF(n:Int):hlf n 0=n:=by rw[O6 n 0 (by omega)];simp
theorem ajP(n:Int)(h0:0≤n)(h1:n<4611686018427387904)(i:Nat)(hi:i≤64):0≤hlf n i∧hlf n i<4611686018427387904:=by
 rw[O6 n i hi]
 exact⟨Int.ediv_nonneg h0 (Int.le_of_lt (Int.pow_pos (by omega))),Int.lt_of_le_of_lt (Int.ediv_le_self _ h0) h1⟩
theorem akO(n:Int)(h0:0≤n)(h1:n<4611686018427387904):hlf n 62=0:=by
 rw[O6 n 62 (by omega)]
 exact Int.ediv_eq_zero_of_lt h0 (by rw[show (2:Int)^62=4611686018427387904 from rfl];exact h1)
theorem aln(n:Int)(i:Nat)(hi:i≤63)(h:hlf n i=0)(h0:0≤n):∀j,i≤j→j≤63→gY n i=gY n j:=by
 intro j hij
 induction j with
 | zero=>intro _;rw[show i=0 by omega]
 | succ j ih =>
  intro hj
  rcases Nat.lt_or_ge i (j+1) with h1|h1
  ·rw[ih (by omega) (by omega)]
   refine MR n j ?_
   have hz:hlf n j=0:=by
    rw[O6 n i (by omega)] at h
    rw[O6 n j (by omega)]
    have hlt:n<2^i:=by
     have:=Int.lt_ediv_add_one_mul_self n (show (0:Int)<2^i from Int.pow_pos (by omega))
     rw[h] at this;simpa using this
    refine Int.ediv_eq_zero_of_lt h0 (Int.lt_of_lt_of_le hlt ?_)
    exact_mod_cast Nat.pow_le_pow_right (by omega) (by omega:i≤j)
   show (bits .and .i64 (hlf n j) 1 == 1)=false
   rw[hz,agm];rfl
  ·rw[show i=j+1 by omega]
theorem akk(n:Int)(hn:0≤n)(hb:n<4611686018427387904):Gxx 89 [vi n] (fzi (gY n 63)):=by
 refine Good.fzr (r := .sl (.own 0 3) 1 (iv (gY n 63))) ?_ rfl (.inl (.inl rfl))
 refine gI oW Tryz.func89 Tryz.results89 ?_
 refine wS trivial trivial ?_
 refine df (fun i:Nat=>mkA [(0,vi (hlf n i)),(3,.sl (.own 0 3) 1 (iv (gY n i))),(4,vi i)] [] 1 (fun _ => .top)) (fun i=>i≤62) (fun i=>62-i) 0 [] [] ?_ (Nat.zero_le _) ?_
 ·rw[alF]
  exact kE
  all_goals first|exact gG rfl|skip
 ·intro i hi
  replace hi:i≤62:=hi
  have hl:=wz n i
  have hil:=aZ (gY n i)
  have hs:=alE n i (by omega)
  have hr:=ajP n hn hb i (by omega)
  have hr2:=ajP n hn hb (i+1) (by omega)
  by_cases h0:hlf n i=0
  ·have hz:=aln n i (by omega) h0 hn 63 (by omega) (by omega)
   rw[h0]
   refine wS trivial trivial ?_
   rw[hz]
   exact rE [0]
  ·have h62:i≠62:=fun e=>h0 (by rw[e];exact akO n hn hb)
   cases hp:Jc n i
   ·have hf:=MR n i hp
    have hp':(bits .and .i64 (hlf n i) 1 == 1)=false:=hp
    refine wS (aI @hp' @hs) trivial ?_
    (refine bL (i+1) [0] [] (by show i+1≤62;omega) ?_;refine kL ?_)
    all_goals exact bP rfl (by rw[hf])
   ·have hf:=Xl n i hp
    have hp':(bits .and .i64 (hlf n i) 1 == 1)=true:=hp
    refine wS (aI @hp' (aI @hs (aI @Fp @hf))) trivial ?_
    exact bE (i+1) [0] [] (by show i+1≤62;omega)
theorem acv:∀d:Nat,d<256→bits .and .u8 ((d:Nat):Int) 1=bits .and .i64 ((d:Nat):Int) 1:=by decide +kernel
theorem afe(c:Nat)(hc:c<256)(k:Nat):bits .and .u8 (((c:Nat):Int).fdiv (2^min k IntKind.u8.bits)) 1=bits .and .i64 (((c:Nat):Int).fdiv (2^min k IntKind.i64.bits)) 1:=by
 have e:∀m,((c:Nat):Int).fdiv (2^m)=((c / 2^m:Nat):Int):=fun m=>by
  rw[Int.fdiv_eq_ediv_of_nonneg _ (Int.le_of_lt (Int.pow_pos (by omega)))]
  norm_cast
 have hk:c / 2^min k IntKind.u8.bits=c / 2^min k IntKind.i64.bits:=by
  by_cases h:k≤8
  ·have h1:min k IntKind.u8.bits=k:=by show min k 8=k;omega
   have h2:min k IntKind.i64.bits=k:=by show min k 64=k;omega
   rw[h1,h2]
  ·have h1:min k IntKind.u8.bits=8:=by show min k 8=8;omega
   rw[h1,Nat.div_eq_of_lt (show c<2^8 from hc)]
   have:8≤min k IntKind.i64.bits:=by show 8≤min k 64;omega
   rw[Nat.div_eq_of_lt (show c<2^min k IntKind.i64.bits from Nat.lt_of_lt_of_le (show c<2^8 from hc) (Nat.pow_le_pow_right (by omega) this))]
 rw[e,e,hk]
 have hlt:c / 2^min k IntKind.i64.bits<256:=Nat.lt_of_le_of_lt (Nat.div_le_self _ _) hc
 exact acv _ hlt
theorem agL(co:List Nat)(hco:oct co)(i:Int)(hi:i≤9223372036854775807):Gxx 147 [fzb co,vi i] (vi (wC co i)):=by
 unfold wC
 have hbl:=rJ co
 refine gI oW Tryz.func147 Tryz.results147 ?_
 by_cases c1:i<0
 ·rw[if_pos (.inl c1)]
  exact wR trivial trivial ay
 ·have e1:i.tdiv 8=i / 8:=Int.tdiv_eq_ediv_of_nonneg (by omega)
  have e2:i.tmod 8=i%8:=Int.tmod_eq_emod_of_nonneg (by omega)
  rw[e1,e2]
  by_cases c2:i / 8≥co.length
  ·rw[if_pos (.inr c2)]
   exact wR (aI @e1 @rJ) trivial ay
  ·rw[if_neg (by omega)]
   have hg:=Wl co (i / 8).toNat (by omega)
   have hc:=zM hco (i / 8).toNat
   have hb8:=afe _ hc (7-i%8).toNat
   rw[←hb8]
   (repeat' (first|(simp (disch:=first|exact dqz|fail) only[pgz,simprocAttr,Tryz.f147,e1,e2,rJ,hg])|((with_reducible first|apply aj|apply ai|apply ak)<;>intro hc<;>(try simp only[hc])<;>(try simp only[pgd] at hc))|(with_reducible refine cK ?_)))
   (refine rT [] ?_;first|rfl|simp only[pgo,simprocAttr]|skip)
   rw[hb8]
   have h01:=zZ co i
   unfold wC at h01
   rw[e1,e2,if_neg (by omega)] at h01
   rcases h01 with h|h<;>rw[h]<;>rfl
theorem YB(P:Program)[Tb P](st:St)(de:Option Nat)(ty:TypeId)(K:St→Prop)(x:Operand):fM P st ⟨de,.move x,ty, "",#[],none⟩ K=aA P st ⟨de,.move x,ty, "",#[],none⟩ (fun _=>K):=rfl
theorem NJ(P:Program)[Tb P](st:St)(de:Option Nat)(ty:TypeId)(K:St→Prop)(x:Operand):fM P st ⟨de,.assign x,ty, "",#[],none⟩ K=aA P st ⟨de,.assign x,ty, "",#[],none⟩ (fun _=>K):=rfl
theorem YC(P:Program)[Tb P](st:St)(de:Option Nat)(ty:TypeId)(K:St→Prop)(c a b:Operand):fM P st ⟨de,.pick c a b,ty, "",#[],none⟩ K=aA P st ⟨de,.pick c a b,ty, "",#[],none⟩ (fun _=>K):=rfl
theorem Tn(P:Program)[Tb P](st:St)(de:Option Nat)(ty:TypeId)(K:St→Prop)(e:TypeId):fM P st ⟨de,.alloc e,ty, "",#[],none⟩ K=aA P st ⟨de,.alloc e,ty, "",#[],none⟩ (fun _=>K):=rfl
theorem acw(P:Program)[Tb P](st:St)(de:Option Nat)(ty:TypeId)(K:St→Prop)(e:TypeId)(v:Operand):fM P st ⟨de,.box e v,ty, "",#[],none⟩ K=aA P st ⟨de,.box e v,ty, "",#[],none⟩ (fun _=>K):=rfl
theorem Tq(P:Program)[Tb P](st:St)(de:Option Nat)(ty:TypeId)(K:St→Prop)(t:TypeId)(p:Array (Nat × Operand)):fM P st ⟨de,.build t p,ty, "",#[],none⟩ K=aA P st ⟨de,.build t p,ty, "",#[],none⟩ (fun _=>K):=rfl
theorem CB(P:Program)[Tb P](st:St)(de:Option Nat)(ty:TypeId)(K:St→Prop)(t:TypeId)(l:Nat)(p:Array (Nat × Operand)):fM P st ⟨de,.buildSlice t l p,ty, "",#[],none⟩ K=aA P st ⟨de,.buildSlice t l p,ty, "",#[],none⟩ (fun _=>K):=rfl
theorem YD(P:Program)[Tb P](st:St)(de:Option Nat)(ty:TypeId)(K:St→Prop)(t:TypeId)(a:Operand):fM P st ⟨de,.load t a,ty, "",#[],none⟩ K=aA P st ⟨de,.load t a,ty, "",#[],none⟩ (fun _=>K):=rfl
theorem Tt(P:Program)[Tb P](st:St)(de:Option Nat)(ty:TypeId)(K:St→Prop)(t:TypeId)(a v:Operand):fM P st ⟨de,.store t a v,ty, "",#[],none⟩ K=aA P st ⟨de,.store t a v,ty, "",#[],none⟩ (fun _=>K):=rfl
theorem Tu(P:Program)[Tb P](st:St)(de:Option Nat)(ty:TypeId)(K:St→Prop)(g:Nat):fM P st ⟨de,.ready g,ty, "",#[],none⟩ K=aA P st ⟨de,.ready g,ty, "",#[],none⟩ (fun _=>K):=rfl
theorem Tv(P:Program)[Tb P](st:St)(de:Option Nat)(ty:TypeId)(K:St→Prop)(g:Nat):fM P st ⟨de,.waits g,ty, "",#[],none⟩ K=aA P st ⟨de,.waits g,ty, "",#[],none⟩ (fun _=>K):=rfl
theorem Gg(P:Program)[Tb P](st:St)(de:Option Nat)(ty:TypeId)(K:St→Prop)(x:Operand):fM P st ⟨de,.nilCheck x,ty, "",#[],none⟩ K=aA P st ⟨de,.nilCheck x,ty, "",#[],none⟩ (fun _=>K):=rfl
theorem Tz(P:Program)[Tb P](st:St)(de:Option Nat)(ty:TypeId)(K:St→Prop)(op:BinOp)(xt:TypeId)(x y:Operand)(yt:TypeId):fM P st ⟨de,.binOp op xt x y yt,ty, "",#[],none⟩ K=aA P st ⟨de,.binOp op xt x y yt,ty, "",#[],none⟩ (fun _=>K):=rfl
theorem YE(P:Program)[Tb P](st:St)(de:Option Nat)(ty:TypeId)(K:St→Prop)(op:UnOp)(xt:TypeId)(x:Operand):fM P st ⟨de,.unOp op xt x,ty, "",#[],none⟩ K=aA P st ⟨de,.unOp op xt x,ty, "",#[],none⟩ (fun _=>K):=rfl
theorem JI(P:Program)[Tb P](st:St)(de:Option Nat)(ty:TypeId)(K:St→Prop)(s d:TypeId)(x:Operand):fM P st ⟨de,.convert s d x,ty, "",#[],none⟩ K=aA P st ⟨de,.convert s d x,ty, "",#[],none⟩ (fun _=>K):=rfl
theorem Gh(P:Program)[Tb P](st:St)(de:Option Nat)(ty:TypeId)(K:St→Prop)(f:Fn)(a b:Array Operand):fM P st ⟨de,.makeFunc f a b,ty, "",#[],none⟩ K=aA P st ⟨de,.makeFunc f a b,ty, "",#[],none⟩ (fun _=>K):=rfl
theorem JJ(P:Program)[Tb P](st:St)(de:Option Nat)(ty:TypeId)(K:St→Prop)(t:TypeId)(r:Option Operand):fM P st ⟨de,.makeMap t r,ty, "",#[],none⟩ K=aA P st ⟨de,.makeMap t r,ty, "",#[],none⟩ (fun _=>K):=rfl
theorem Dx(P:Program)[Tb P](st:St)(de:Option Nat)(ty:TypeId)(K:St→Prop)(t:TypeId)(l c:Operand):fM P st ⟨de,.makeSlice t l c,ty, "",#[],none⟩ K=aA P st ⟨de,.makeSlice t l c,ty, "",#[],none⟩ (fun _=>K):=rfl
theorem TA(P:Program)[Tb P](st:St)(de:Option Nat)(ty:TypeId)(K:St→Prop)(xt:TypeId)(x:Operand)(a b c:Option Operand):fM P st ⟨de,.slice xt x a b c,ty, "",#[],none⟩ K=aA P st ⟨de,.slice xt x a b c,ty, "",#[],none⟩ (fun _=>K):=rfl
theorem Dy(P:Program)[Tb P](st:St)(de:Option Nat)(ty:TypeId)(K:St→Prop)(xt:TypeId)(x:Operand)(f:Nat):fM P st ⟨de,.fieldAddr xt x f,ty, "",#[],none⟩ K=aA P st ⟨de,.fieldAddr xt x f,ty, "",#[],none⟩ (fun _=>K):=rfl
theorem TB(P:Program)[Tb P](st:St)(de:Option Nat)(ty:TypeId)(K:St→Prop)(xt:TypeId)(x:Operand)(f:Nat):fM P st ⟨de,.field xt x f,ty, "",#[],none⟩ K=aA P st ⟨de,.field xt x f,ty, "",#[],none⟩ (fun _=>K):=rfl
theorem Dz(P:Program)[Tb P](st:St)(de:Option Nat)(ty:TypeId)(K:St→Prop)(xt:TypeId)(x i:Operand):fM P st ⟨de,.indexAddr xt x i,ty, "",#[],none⟩ K=aA P st ⟨de,.indexAddr xt x i,ty, "",#[],none⟩ (fun _=>K):=rfl
theorem TC(P:Program)[Tb P](st:St)(de:Option Nat)(ty:TypeId)(K:St→Prop)(xt:TypeId)(x i:Operand):fM P st ⟨de,.index xt x i,ty, "",#[],none⟩ K=aA P st ⟨de,.index xt x i,ty, "",#[],none⟩ (fun _=>K):=rfl
theorem NK(P:Program)[Tb P](st:St)(de:Option Nat)(ty:TypeId)(K:St→Prop)(xt:TypeId)(x i:Operand)(o:Bool):fM P st ⟨de,.lookup xt x i o,ty, "",#[],none⟩ K=aA P st ⟨de,.lookup xt x i o,ty, "",#[],none⟩ (fun _=>K):=rfl
theorem DC(P:Program)[Tb P](st:St)(de:Option Nat)(ty:TypeId)(K:St→Prop)(xt:TypeId)(m k v:Operand):fM P st ⟨de,.mapUpdate xt m k v,ty, "",#[],none⟩ K=aA P st ⟨de,.mapUpdate xt m k v,ty, "",#[],none⟩ (fun _=>K):=rfl
theorem JK(P:Program)[Tb P](st:St)(de:Option Nat)(ty:TypeId)(K:St→Prop)(t:Operand)(i:Nat):fM P st ⟨de,.extract t i,ty, "",#[],none⟩ K=aA P st ⟨de,.extract t i,ty, "",#[],none⟩ (fun _=>K):=rfl
theorem aff(P:Program)[Tb P](st:St)(de:Option Nat)(ty:TypeId)(K:St→Prop)(b:Builtin)(a:Array Operand)(t:Array TypeId):fM P st ⟨de,.call { callee := .builtin b,args:=a,argTypes:=t },ty, "",#[],none⟩ K=aA P st ⟨de,.call { callee := .builtin b,args:=a,argTypes:=t },ty, "",#[],none⟩ (fun _=>K):=rfl
def iC:=aI @YB (aI @NJ (aI @YC (aI @Tn (aI @acw (aI @Tq (aI @CB (aI @YD (aI @Tt (aI @Tu (aI @Tv (aI @Gg (aI @Tz (aI @YE (aI @JI (aI @Gh (aI @JJ (aI @Dx (aI @TA (aI @Dy (aI @TB (aI @Dz (aI @TC (aI @NK (aI @DC (aI @JK @aff)))))))))))))))))))))))))
end Go.Proofs.YtiohdbjggmmjcaaGreat
