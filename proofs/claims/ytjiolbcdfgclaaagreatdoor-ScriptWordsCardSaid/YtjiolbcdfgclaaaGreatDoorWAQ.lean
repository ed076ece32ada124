/-
  Texts of this claim, merged; own names are short.
-/
import Derived.Test.YtjiolbcdfgclaaaGreatDoorWAP
import Derived.Test.YtjiolbcdfgclaaaGreatDoorWAJ
import Derived.Test.YtjiolbcdfgclaaaGreatDoorWAN
import Derived.Test.YtjiolbcdfgclaaaGreatDoorWAO
import Derived.Test.YtjiolbcdfgclaaaGreatDoorWAK
import Derived.Test.YtjiolbcdfgclaaaGreatDoorWAL
set_option linter.unusedVariables false
set_option linter.unusedSimpArgs false
set_option linter.unusedSectionVars false
set_option linter.defProp false
set_option maxRecDepth 100000
set_option maxHeartbeats 8000000
namespace Go.Proofs.YtjiolbcdfgclaaaGreatDoor
open Go Go.Pg
def lU(v:List (List (List Nat)))(n:Nat):List (List (List Nat)):=v++List.replicate (n-v.length) []
theorem Gt(v:List (List (List Nat)))(n:Nat):(lU v n).length=max v.length n:=by simp [lU];omega
theorem xm(v:List (List (List Nat)))(n:Nat)(h:n≤v.length):lU v n=v:=by
 have:n-v.length=0:=by omega
 simp [lU,this]
theorem Pv(v:List (List (List Nat)))(n:Nat)(h:v.length≤n):lU v n++[[]]=lU v (n+1):=by
 unfold lU
 rw[show n+1-v.length=(n-v.length)+1 by omega,List.replicate_succ',List.append_assoc]
theorem Gu(v:List (List (List Nat)))(n i:Nat):(lU v n).getD i []=v.getD i []:=by
 unfold lU
 rcases Nat.lt_or_ge i v.length with h|h
 ·simp [List.getD,List.getElem?_append,h]
 ·rw[List.getD,List.getD,List.getElem?_append_right h,List.getElem?_eq_none (l:=v) h]
  rcases Nat.lt_or_ge (i-v.length) (n-v.length) with h2|h2
  ·simp [List.getElem?_replicate,h2]
  ·simp [List.getElem?_replicate,Nat.not_lt.2 h2]
def EW(k:List Nat)(v:List (List (List Nat)))(p:Nat):List (List (List Nat)):=(lU v (p+1)).set p (v.getD p []++[k])
def qL(k:List Nat)(ps:List Int)(v:List (List (List Nat))):Nat→List (List (List Nat))
 | 0=>v
 | i+1=>EW k (qL k ps v i) (ps.getD i 0).toNat
theorem Lu(l:List (List (List Nat)))(p:Nat)(x:List (List Nat))(i n:Nat)(h:∀i,(l.getD i []).length≤n)(hx:x.length≤n):((l.set p x).getD i []).length≤n:=by
 rw[List.getD]
 rcases Nat.lt_or_ge p l.length with hp|hp
 ·by_cases he:p=i
  ·subst he;rw[List.getElem?_set_self hp];exact hx
  ·rw[List.getElem?_set_ne he];exact h i
 ·rw[List.set_eq_of_length_le hp];exact h i
theorem LC(k:List Nat)(ps:List Int)(v:List (List (List Nat)))(hps:∀i,(ps.getD i 0).toNat≤62)(M:Nat)(hM:∀i,(v.getD i []).length≤M)(hv:v.length≤63)(i:Nat):(qL k ps v i).length≤63∧∀j,((qL k ps v i).getD j []).length≤M+i:=by
 induction i with
 | zero=>exact⟨hv,hM⟩
 | succ i ih =>
  obtain⟨h1,h2⟩:=ih
  refine⟨?_,fun j => ?_⟩
  ·show (EW k (qL k ps v i) (ps.getD i 0).toNat).length≤63
   have:=hps i
   unfold EW
   rw[List.length_set,Gt]
   omega
  ·show ((EW k (qL k ps v i) (ps.getD i 0).toNat).getD j []).length≤M+(i+1)
   unfold EW
   refine Lu _ _ _ _ _ (fun j => ?_) ?_
   ·rw[Gu];have:=h2 j;omega
   ·rw[List.length_append];have:=h2 (ps.getD i 0).toNat;simp only[List.length_cons,List.length_nil];omega
theorem LD(n:Int)(m i:Nat)(hm:0<m):0≤(kZ n m).getD i 0∧(kZ n m).getD i 0≤m-1:=by
 rcases Nat.lt_or_ge i (kZ n m).length with h|h
 ·have hmem:(kZ n m).getD i 0∈kZ n m:=by rw[List.getD_eq_getElem?_getD,List.getElem?_eq_getElem h];exact List.getElem_mem h
  unfold kZ at hmem
  obtain⟨j,hj,he⟩:=List.mem_map.1 hmem
  have:=List.mem_range.1 (List.mem_filter.1 hj).1
  unfold kZ
  rw[←he];omega
 ·rw[List.getD,List.getElem?_eq_none h];simp;omega
theorem IG{x:Rk}(h:vRk x=0):((2≤x.z∧x.z≤32)∧x.z%2=0)∧(0≤x.t∧x.t≤1099511627776)∧(0≤x.l∧x.l≤1099511627776)∧x.v.length≤41∧∀i,(x.v.getD i []).length≤31:=by
 unfold vRk at h
 split at h
 ·cases h
 ·rename_i h1
  have h1:=Classical.byContradiction h1
  split at h
  ·cases h
  ·rename_i h2
   split at h
   ·rename_i h3;exact absurd h h3
   ·rename_i h3
    have h3:=Classical.byContradiction h3
    refine⟨h1.1,h1.2.1,h1.2.2,by omega,fun i => ?_⟩
    rcases Nat.lt_or_ge i x.v.length with hi|hi
    ·have h4:=D8 _ _ _ h3 i (Nat.zero_le _) (by omega)
     unfold uY at h4
     split at h4
     ·cases h4
     ·omega
    ·rw[List.getD,List.getElem?_eq_none hi];simp
def Af(x:Rk)(k:List Nat)(w:Int):List (List (List Nat)):=qL k (kZ w 63) x.v (kZ w 63).length
def EX(x:Rk)(k:List Nat)(w:Int)(co:List Nat)(at':Int):Stl:=tJ (Af x k w) x.z x.l co at' 100
def rU(x:Rk)(k:List Nat)(w:Int)(co:List Nat)(at':Int):Rk × Int × Int :=
 if vRk x≠0 then (Rk.o,0,vRk x) else if eF k w≠0 then (Rk.o,0,eF k w) else if ¬(0≤at'∧at'≤1073741824) then (Rk.o,0,5)
 else if (fK x.t w).2=true then (⟨x.z,x.t,x.l,x.v,true⟩,at',0)
 else (⟨x.z,(fK x.t w).1,(EX x k w co at').2.2.1,qf (EX x k w co at').2.2.2.2.length (EX x k w co at').2.2.2.2,x.b⟩,(EX x k w co at').2.2.2.1,0)
theorem Px:wkV (.agg [vi 0,vi 0,vi 0,nls,vb false]) (.agg (rkF Rk.o)) := .inr ⟨_,_,rfl,rfl,⟨.inl rfl,.inl rfl,.inl rfl,oq _ _,.inl rfl,trivial⟩⟩
theorem Eb(x:Rk)(k:List Nat)(w:Int)(co:List Nat)(at':Int)(ho:oct k)(hco:oct co)(hv:∀l∈x.v,octL l)(hn:x.v.length≤1000000)(hn2:∀l∈x.v,l.length≤1000000) :
  Gxx 177 [.agg (rkF x),.agg [vs k,vi w],fzb co,vi at'] (.tup [.agg (rkF (rU x k w co at').1),vi (rU x k w co at').2.1,vi (rU x k w co at').2.2]):=by
 have h1:=nG x hv hn hn2
 have h2:=bZ k w
 have h3:=Lp at'
 unfold rU
 by_cases c1:vRk x=0
 ·rw[if_neg (by omega)]
  rw[c1] at h1
  by_cases c2:eF k w=0
  ·rw[if_neg (by omega)]
   rw[c2] at h2
   by_cases c3:0≤at'∧at'≤1073741824
   ·rw[if_neg (fun h=>h c3)]
    rw[decide_eq_true c3] at h3
    obtain⟨i1,i2,i3,i4,i5⟩:=IG c1
    obtain⟨j1,j2⟩:=rJ c2
    have k1:=tH x.t w (by unfold W64;omega) (by unfold W64;omega)
    by_cases c4:(fK x.t w).2=true
    ·rw[if_pos c4]
     generalize fK x.t w=a at *
     obtain⟨a1,a2⟩:=a
     simp only at c4 k1
     subst c4
     obtain⟨z,t,lo,v,b⟩:=x
     simp only at *
     refine gI oW Tryz.func177 Tryz.results177 ?_
     exact wR trivial (aI h1 (aI h2 (aI h3 k1))) ah
    ·rw[if_neg c4]
     have k2:=Vh w (by omega)
     have hps:=fun i=>LD w 63 i (by decide)
     have hpl:=KO w 63
     have hin:=fun i=>LC k (kZ w 63) x.v (fun i=>by have:=hps i;omega) 31 i5 (by omega) i
     have hst:=Vy (Af x k w) x.z x.l co at' 100 (by omega) hco (fun i=>by have:=(hin (kZ w 63).length).2 i;unfold Af;omega) (by omega) (by have:=(hin (kZ w 63).length).1;unfold Af;omega) (by unfold W64;omega) c3
     have hR:tJ (Af x k w) x.z x.l co at' 100=EX x k w co at':=rfl
     rw[hR] at hst
     generalize EX x k w co at'=R at *
     generalize qf R.2.2.2.2.length R.2.2.2.2=T at *
     unfold Af at hst
     have hp0:qL k (kZ w 63) x.v 0=x.v:=rfl
     have hpn:∀i,qL k (kZ w 63) x.v (i+1)=EW k (qL k (kZ w 63) x.v i) ((kZ w 63).getD i 0).toNat:=fun _=>rfl
     generalize hps2:kZ w 63=ps at *
     generalize fK x.t w=a at *
     obtain⟨a1,a2⟩:=a
     simp only at c4 k1
     have c4:a2=false:=by simpa using c4
     subst c4
     obtain⟨z,t,lo,v,b⟩:=x
     simp only at *
     have hvl:=mr v
     have hil:=bP ps
     refine dE (JJ (fun d=>bif d == 85 then true else false) [] mix) Tryz.func177 rfl Tryz.results177 rfl (by kernel_rfl) (Nat.le_of_ble_eq_true (by kernel_rfl)) ?_
     refine wS (aI @pgF @mr) (aI h1 (aI h2 (aI h3 (aI k1 k2)))) ?_
     refine aK (fun i:Nat=>mkA [(2,fzb co),(3,vi at'),(4,.ref 0 0),(5,.ref 1 0),(8,.ref 2 0),(13,vi a1),(15,.sl (.own 0 23) 1 (lv (qL k ps v i))),(16,fzi ps),(17,vi i)] [(0,(91,rkF ⟨z,t,lo,v,b⟩)),(1,(64,[vs k,vi w])),(2,(91,[vi 0,vi 0,vi 0,nls,vb false]))] 3 (fun _ => .top)) (fun i=>i≤ps.length) (fun i=>ps.length-i) 0 [3] [0,1,2] ?_ (Nat.zero_le _) ?_
     ·exact kE
     ·intro i hi
      replace hi:i≤ps.length:=hi
      have hcl:=(hin i).1
      have hlc:=mr (qL k ps v i)
      rcases Nat.lt_or_ge i ps.length with hlt|hge
      ·have hg:=mg ps i hlt
       have hpi:=hps i
       have hnx:=hpn i
       generalize hcur:qL k ps v i=cur at *
       generalize hpp:ps.getD i 0=p' at *
       obtain⟨p,rfl⟩:∃p:Nat,p'=p:=⟨p'.toNat,by omega⟩
       rw[Int.toNat_natCast] at hnx
       refine wS (aI @pgF (aI @hil @hg)) trivial ?_
       refine aK (fun m:Nat=>mkA [(2,fzb co),(3,vi at'),(4,.ref 0 0),(5,.ref 1 0),(8,.ref 2 0),(13,vi a1),(15,.sl (.own 0 23) 1 (lv (lU cur m))),(16,fzi ps),(17,vi i)] [(0,(91,rkF ⟨z,t,lo,v,b⟩)),(1,(64,[vs k,vi w])),(2,(91,[vi 0,vi 0,vi 0,nls,vb false]))] 3 (fun _ => .top)) (fun m=>cur.length≤m∧(m=cur.length∨m≤p+1)) (fun m=>p+1-m) cur.length [0] [0,1,2] ?_ ⟨Nat.le_refl _,.inl rfl⟩ ?_
       ·refine kL ?_
        all_goals exact aW rfl (by rw[xm _ _ (Nat.le_refl _)])
       ·rintro m ⟨hm1,hm2⟩
        have hgl:=Gt cur m
        rw[Nat.max_eq_right hm1] at hgl
        have hlg:=mr (lU cur m)
        have hgn:=Pv cur m hm1
        have hls:=yz (lU cur m) []
        rw[hgn] at hls
        rcases Nat.lt_or_ge p m with hpm|hpm
        ·have hmm:lU cur m=lU cur (p+1):=by
          rcases hm2 with rfl|h
          ·rw[xm _ _ (Nat.le_refl _),xm _ _ hpm]
          ·have:m=p+1:=by omega
           rw[this]
         have hgp:=uK (lU cur m) p (by omega)
         rw[Gu] at hgp
         have hput:EW k cur p=(lU cur m).set p (cur.getD p []++[k]):=by unfold EW;rw[hmm]
         rw[hput] at hnx
         have hset:=aiS (lU cur m) p (cur.getD p []++[k])
         rw[←hnx] at hset
         have hll:=(hin i).2 p
         rw[hcur] at hll
         generalize lU cur m=G at *
         generalize cur.getD p []=lev at *
         have hsl:=au lev
         have hsn:=svS lev k
         refine wS (aI @pgF (aI @pgv (aI @pY (aI @aF (aI @false_or (aI @Bool.false_eq_true (aI @Option.bind_none.{0,0} (aI @hil (aI @hg (aI @hlg (aI @hgl (aI @hgp (aI @hsl (aI @hsn @hset)))))))))))))) trivial ?_
         (refine bL (i+1) [0] [0,1,2] hlt ?_;refine kL ?_)
         all_goals exact aW rfl hset
        ·refine wS (aI @pgF (aI @pgv (aI @hil (aI @hg (aI @hlg @hgl))))) trivial ?_
         (refine bL (m+1) [0] [0,1,2] ⟨by omega,.inr (by omega)⟩ ?_;refine kL ?_)
         all_goals exact Y4 rfl (by rw[←hls];exact Js (.inr (.inl ⟨rfl,rfl,1,rfl⟩)) _)
      ·have:i=ps.length:=by omega
       subst this
       (repeat' first|refine wP (aI @pgF (aI @pgv (aI @hil @id_eq.{1}))) trivial ?_|refine cG [0] hst ?_|refine tS ?_ ?_<;>intro hc|fail)
       exact rE []
   ·rw[if_pos c3]
    rw[decide_eq_false c3] at h3
    refine Good.fzt (vs:=[.agg [vi 0,vi 0,vi 0,nls,vb false],vi 0,vi 5]) ?_ rfl ⟨Px,aA _,aA _,trivial⟩
    refine gI oW Tryz.func177 Tryz.results177 ?_
    exact wR trivial (aI h1 (aI h2 h3)) ah
  ·rw[if_pos (by omega)]
   refine Good.fzt (vs:=[.agg [vi 0,vi 0,vi 0,nls,vb false],vi 0,vi (eF k w)]) ?_ rfl ⟨Px,aA _,aA _,trivial⟩
   refine gI oW Tryz.func177 Tryz.results177 ?_
   exact wR trivial (aI h1 h2) ah
 ·rw[if_pos (by omega)]
  refine Good.fzt (vs:=[.agg [vi 0,vi 0,vi 0,nls,vb false],vi 0,vi (vRk x)]) ?_ rfl ⟨Px,aA _,aA _,trivial⟩
  refine gI oW Tryz.func177 Tryz.results177 ?_
  exact wR trivial h1 ah
def hdW(l:List (List Nat)):List Nat:=l.headD []
theorem vZ{l:List (List Nat)}(h:∀x∈l,oct x):oct (hdW l):=by
 cases l with
 | nil=>exact dV
 | cons w l=>exact h w (by simp)
theorem Ec(e:Nat→V)(bx:Nat→Option (TypeId × List V))(n:Nat)(h:Nat→V)(b:Nat)(l:List (List Nat))(bad:Bool)(hb:bx b=some (108,rdC l bad))(hl:l.length≤1000000) :
  Gxz 93 [.ref b 0] ⟨e,bx,n,h⟩ ⟨e,upd bx b (some (108,rdC l.tail (bad||l.isEmpty))),n,h⟩ (vs (hdW l)):=by
 cases l with
 | nil =>
  have:=afn e bx n h b bad hb
  simpa [hdW] using this
 | cons w l =>
  have:=vY e bx n h b w l bad hb (by simp at hl;omega)
  simpa [hdW] using this
def iE(l:List (List Nat)):Bool:=l.isEmpty || !decide ((aZ (hdW l)).2=0)
def qW(l:List (List Nat)):Bool:=l.isEmpty || !decide ((pk (hdW l)).2=0)
theorem anR{a:Bool}{l:List (List Nat)}(h:(a||l.isEmpty)=true):(a||iE l)=true:=by cases a<;>simp_all [iE]
theorem anS{a:Bool}{l:List (List Nat)}(h:(a||l.isEmpty)=false):(a||iE l) = !decide ((aZ (hdW l)).2=0):=by cases a<;>simp_all [iE]
theorem anT{a:Bool}{l:List (List Nat)}(h:(a||l.isEmpty)=true):(a||qW l)=true:=by cases a<;>simp_all [qW]
theorem anU{a:Bool}{l:List (List Nat)}(h:(a||l.isEmpty)=false):(a||qW l) = !decide ((pk (hdW l)).2=0):=by cases a<;>simp_all [qW]
theorem RS(n:Nat):((n:Int) != 0) = !decide (n=0):=by
 cases n<;>simp
 all_goals omega
theorem Ed(e:Nat→V)(bx:Nat→Option (TypeId × List V))(n:Nat)(h:Nat→V)(b:Nat)(l:List (List Nat))(bad:Bool)(hb:bx b=some (108,rdC l bad))(hl:l.length≤1000000)(ho:oct (hdW l))(hw:(hdW l).length≤1000000) :
  Gxz 98 [.ref b 0] ⟨e,bx,n,h⟩ ⟨e,upd bx b (some (108,rdC l.tail (bad||iE l))),n,h⟩ (vi (aZ (hdW l)).1):=by
 have hn:=aaf (hdW l) ho (by omega)
 unfold Ry at hn
 refine gZ oW Tryz.func98 Tryz.results98 ?_
 (repeat' first|refine wP (aI @iQ (aI @dm (aI @bI @hb))) hn ?_|refine cZ (Ec _ _ _ _ b l bad hb hl) ?_|refine tS ?_ ?_<;>intro hc|fail)
 all_goals (refine lh (aG _ _ _) ?_;rw[dJ,dK,jG];first|rw[anR hc]|rw[anS hc,RS])
theorem aa5(e:Nat→V)(bx:Nat→Option (TypeId × List V))(n:Nat)(h:Nat→V)(b:Nat)(l:List (List Nat))(bad:Bool)(hb:bx b=some (108,rdC l bad))(hl:l.length≤1000000)(ho:oct (hdW l))(hw:(hdW l).length≤1000000) :
  Gxz 97 [.ref b 0] ⟨e,bx,n,h⟩ ⟨e,upd bx b (some (108,rdC l.tail (bad||qW l))),n,h⟩ (vs (pk (hdW l)).1):=by
 have hn:=ajg (hdW l) ho (by omega)
 unfold pkV at hn
 refine gZ oW Tryz.func97 Tryz.results97 ?_
 (repeat' first|refine wP (aI @iQ (aI @dm (aI @bI @hb))) hn ?_|refine cZ (Ec _ _ _ _ b l bad hb hl) ?_|refine tS ?_ ?_<;>intro hc|fail)
 all_goals (refine lh (aG _ _ _) ?_;rw[dJ,dK,jG];first|rw[anT hc]|rw[anU hc,RS])
theorem afx(e:Nat→V)(bx:Nat→Option (TypeId × List V))(n:Nat)(h:Nat→V)(b:Nat)(u:Nat)(hu:u<18446744073709551616)(l:List (List Nat))(bad:Bool)(hb:bx b=some (108,rdC (jy u::l) bad))(hl:l.length≤100000) :
  Gxz 143 [.ref b 0] ⟨e,bx,n,h⟩ ⟨e,upd bx b (some (108,rdC l bad)),n,h⟩ (vu u):=by
 have hif:=aau
 cases bad
 ·refine gZ oW Tryz.func143 Tryz.results143 ?_
  (repeat' first|refine wP (aI @iQ (aI @dm (aI @bI (aI @hb @DY)))) (aI (A8 u hu) (tu u hu)) ?_|refine cZ (vY _ _ _ _ b (jy u) l false hb (by omega)) ?_|refine tS ?_ ?_<;>intro hc|fail)
  all_goals (refine lh (aG _ _ _) ?_;rw[dJ,dK,jG])
 ·refine gZ oW Tryz.func143 Tryz.results143 ?_
  (repeat' first|refine wP (aI @iQ (aI @dm (aI @bI (aI @hb @DY)))) (aI (A8 u hu) (tu u hu)) ?_|refine cZ (vY _ _ _ _ b (jy u) l true hb (by omega)) ?_|refine tS ?_ ?_<;>intro hc|fail)
  all_goals (refine lh (aG _ _ _) ?_;rw[dJ,dK,jG])
theorem LG{n:Nat}{e h:Nat→V}(he:FrE n e)(hh:FrE n h):FrE n (Bg e h):=by
 intro t
 unfold Bg
 split
 ·exact he _
 ·exact hh _
theorem aa6(n:Nat)(l:List (List Nat))(bad:Bool):∀v∈rdC l bad,Fr n v:=by
 intro v hv
 simp only[List.mem_cons,List.not_mem_nil,or_false] at hv
 rcases hv with rfl|rfl<;>rfl
def byV(w:List Nat):List Nat:=if w=[45] then [] else if okB w (w.length / 2)=true then prs w (w.length / 2) else []
def oH(w:List Nat):Bool:=if w=[45] then false else if okB w (w.length / 2)=true then decide (w=[])||decide (w.length%2≠0) else true
def byA(n:Nat)(l:List Nat):Nat→V
 | 0=>nls
 | j+1 => .sl (.own (n+1) 5) 1 (bv (prs l (j+1)))
def byR(n:Nat)(w:List Nat):V:=if byV w=[] then nls else .sl (.own (n+1) 5) 1 (bv (byV w))
theorem aa7(n b:Nat)(l:List (List Nat))(bad:Bool)(hbn:b<n)(hl:l.length≤1000000)(ho:oct (hdW l))(hw:(hdW l).length≤1000000)(e:Nat→V)(bx:Nat→Option (TypeId × List V))(h:Nat→V)(hE:FrE n e)(hB:FrB n bx)(hH:FrE n h)(hb:bx b=some (108,rdC l bad)) :
  Gxz 96 [.ref b 0] ⟨e,bx,n,h⟩ ⟨e,upd bx b (some (108,rdC l.tail (bad||l.isEmpty||oH (hdW l)))),n+1000002,h⟩ (byR n (hdW l)):=by
 have hwd:=fun e h=>Ec e bx n h b l bad hb hl
 have hP:=QZ (id:=n+1) (LG hE hH) (by omega)
 have hBx:=fun d=>Q3 (id:=n+1) (hB.upd b (108,rdC l.tail d) (aa6 n _ _)) (by omega)
 generalize hd:(bad||l.isEmpty)=d
 simp only[hd] at hwd
 generalize hdW l=w at *
 have key:∃n',Gxz 96 [.ref b 0] ⟨e,bx,n,h⟩ ⟨e,upd bx b (some (108,rdC l.tail (d||oH w))),n',h⟩ (byR n w)∧n'≤n+1000002:=by
  by_cases h45:w=[45]
  ·subst h45
   refine⟨n, ?_,by omega⟩
   have e1:oH [45]=false:=rfl
   have e2:byR n [45]=nls:=rfl
   rw[e1,e2,Bool.or_false]
   refine gZ oW Tryz.func96 Tryz.results96 ?_
   (repeat' first|refine wP (aI @iQ (aI @dm (aI @bI (aI @k45 @DY)))) trivial ?_|refine cZ (hwd _ _) ?_|refine tS ?_ ?_<;>intro hc|fail)
   all_goals (refine lh (aG _ _ _) ?_;rw[dJ,dK])
  ·have hn45:=aaw ho (jI [45] rfl) h45
   refine⟨n+2*(w.length / 2), ?_,by omega⟩
   refine gZ oW Tryz.func96 Tryz.results96 ?_
   (repeat' first|refine wP (aI @iQ (aI @dm (aI @bI (aI @k45 @hn45)))) trivial ?_|refine cZ (hwd _ _) ?_|refine tS ?_ ?_<;>intro hc|fail)
   refine OM (fun j:Nat=>[(0,.ref b 0),(3,vs w),(4,byA n w j),(5,vi (2*(j:Int)))]) (fun _=>upd bx b (some (108,rdC l.tail d))) (fun j=>n+2*j) (fun j=>j≤w.length / 2∧okB w j=true) (fun j=>w.length / 2-j) 0 ?_ (fun _ => .inl rfl) (Nat.le_refl _) ⟨Nat.zero_le _,rfl⟩ ?_
   ·((try simp only[kF,lQ,lD,mf,pgo,simprocAttr,and_true,true_and]);try (repeat' (first|exact trivial|rfl|apply aI)))
   ·rintro j ⟨hj,hok⟩
    have en1:(2*(j:Int)).toNat=2*j:=by omega
    have en2:(2*(j:Int)+1).toNat=2*j+1:=by omega
    rcases Nat.lt_or_ge j (w.length / 2) with hlt|hge
    ·have q1:=DJ yC (w.getD (2*j) 0) rG (gW ho _)
     have q2:=DJ yC (w.getD (2*j+1) 0) rG (gW ho _)
     rw[KX _ (gW ho _)] at q1 q2
     have hr1:=E8 (w.getD (2*j) 0)
     have hr2:=E8 (w.getD (2*j+1) 0)
     have hv:0≤nib (w.getD (2*j) 0)→0≤nib (w.getD (2*j+1) 0)→16*nib (w.getD (2*j) 0)+nib (w.getD (2*j+1) 0)=((prB w j:Nat):Int):=by
      intro h1 h2
      unfold prB
      omega
     have hpl:=yG w j
     cases hp:okP w j
     ·have hno:=Rq hlt hp
      have hbb:oH w=true:=by unfold oH;rw[if_neg h45,hno];rfl
      have hbr:byR n w=nls:=by unfold byR byV;rw[if_neg h45,hno];rfl
      rw[hbb,hbr,Bool.or_true]
      unfold okP at hp
      have hp':nib (w.getD (2*j) 0)<0∨nib (w.getD (2*j+1) 0)<0:=by
       rw[←Bool.not_eq_true,Bool.and_eq_true,decide_eq_true_eq,decide_eq_true_eq] at hp
       omega
      rcases hp' with hp'|hp'
      ·(repeat' first|refine wP (aI @DK (aI @en1 (aI @en2 (aI @dm @Hy)))) (aI q1 q2) ?_|refine tS ?_ ?_<;>intro hc|fail)
       all_goals exact uO (aG _ _ _) (dJ _ _) (dK _ _) (jG _ _ _ _) (by omega)
      ·(repeat' first|refine wP (aI @DK (aI @en1 (aI @en2 (aI @dm @Hy)))) (aI q1 q2) ?_|refine tS ?_ ?_<;>intro hc|fail)
       all_goals exact uO (aG _ _ _) (dJ _ _) (dK _ _) (jG _ _ _ _) (by omega)
     ·have hp0:=hp
      unfold okP at hp
      rw[Bool.and_eq_true,decide_eq_true_eq,decide_eq_true_eq] at hp
      have hv:=hv hp.1 hp.2
      have hnx:=DL w j
      rcases Nat.eq_zero_or_pos j with h0|h0
      ·have eA:byA n w j=nls:=by rw[h0];rfl
       have eN:byA n w (j+1) = .sl (.own (n+2*j+1) 5) 1 [V.c (.int .u8 ((prB w j:Nat):Int))]:=by rw[h0];rfl
       rw[eA]
       refine wS (aI @DK (aI @en1 (aI @en2 (aI @hv (aI @hP @hBx))))) (aI q1 q2) ?_
       refine Dz (j+1) ⟨hlt,by rw[yE,hok,hp0];rfl⟩ (by omega) ?_ (fun _ => .inl rfl) (by first|omega|(split<;>omega))
       ((try simp only[kF,lQ,lD,mf,pgo,simprocAttr,and_true,true_and,eN]);try (repeat' (first|exact trivial|rfl|apply aI)))
      ·have eA:byA n w j = .sl (.own (n+1) 5) 1 (bv (prs w j)):=by cases j with|zero=>omega|succ j=>rfl
       have eN:byA n w (j+1) = .sl (.own (n+1) 5) 1 (bv (prs w j)++[V.c (.int .u8 ((prB w j:Nat):Int))]):=by show V.sl _ _ _=_;rw[hnx,←dP];rfl
       rw[eA]
       refine wS (aI @DK (aI @en1 (aI @en2 (aI @hv (aI @hP @hBx))))) (aI q1 q2) ?_
       refine Dz (j+1) ⟨hlt,by rw[yE,hok,hp0];rfl⟩ (by omega) ?_ (fun _ => .inl rfl) (by first|omega|(split<;>omega))
       ((try simp only[kF,lQ,lD,mf,pgo,simprocAttr,and_true,true_and,eN]);try (repeat' (first|exact trivial|rfl|apply aI)))
    ·have hjn:j=w.length / 2:=by omega
     have hbb:oH w=(decide (w=[])||decide (w.length%2≠0)):=by unfold oH;rw[if_neg h45,←hjn,hok,if_pos rfl]
     have hbr:byR n w=byA n w j:=by
      unfold byR byV
      rw[if_neg h45,←hjn,hok,if_pos rfl]
      cases j with
      | zero=>rfl
      | succ j=>rw[if_neg (by intro h;have:=yG w (j+1);rw[h] at this;simp at this)];rfl
     have e5:(w.length:Int).tmod 2=((w.length%2:Nat):Int):=rfl
     have hsn:decide (sB w=sB [])=decide (w=[]):=aaC w ho
     rw[hbb,hbr]
     cases d
     ·by_cases hw0:w=[]
      ·rw[decide_eq_true hw0] at hsn ⊢
       (repeat' first|refine wP (aI @ai (aI @e5 (aI @hsn @dm))) trivial ?_|refine tS ?_ ?_<;>intro hc|fail)
       all_goals exact uO (aG _ _ _) (dJ _ _) (dK _ _) (jG _ _ _ _) (by omega)
      ·rw[decide_eq_false hw0] at hsn ⊢
       by_cases hodd:w.length%2=0
       ·rw[decide_eq_false (by omega:¬w.length%2≠0)]
        (repeat' first|refine wP (aI @ai (aI @e5 (aI @hsn (aI @hodd @dm)))) trivial ?_|refine tS ?_ ?_<;>intro hc|fail)
        all_goals exact uO (aG _ _ _) (dJ _ _) (dK _ _) (jG _ _ _ _) (by omega)
       ·rw[decide_eq_true (by omega:w.length%2≠0)]
        have ho1:w.length%2=1:=by omega
        (repeat' first|refine wP (aI @ai (aI @e5 (aI @hsn (aI @ho1 @dm)))) trivial ?_|refine tS ?_ ?_<;>intro hc|fail)
        all_goals exact uO (aG _ _ _) (dJ _ _) (dK _ _) (jG _ _ _ _) (by omega)
     ·(repeat' first|refine wP (aI @ai (aI @e5 (aI @hsn @dm))) trivial ?_|refine tS ?_ ?_<;>intro hc|fail)
      all_goals exact uO (aG _ _ _) (dJ _ _) (dK _ _) (jG _ _ _ _) (by omega)
 obtain⟨n',k1,k2⟩:=key
 exact k1.le k2 (fun _ => .inl rfl)
theorem RU(e:Nat→V)(bx:Nat→Option (TypeId × List V))(n:Nat)(h:Nat→V)(b:Nat)(l:List (List Nat))(bad:Bool)(hb:bx b=some (108,rdC l bad))(hbn:b<n)(hl:l.length≤1000000)(ho:oct (hdW l))(hw:(hdW l).length≤1000000) :
  Gxz 96 [.ref b 0] ⟨e,bx,n,h⟩ ⟨e,upd bx b (some (108,rdC l.tail (bad||l.isEmpty||oH (hdW l)))),n+1000002,h⟩ (byR n (hdW l)) :=
 GoodZ.fresh (x0:=(108,rdC l bad)) (X:=(108,rdC l.tail (bad||l.isEmpty||oH (hdW l)))) (aa6 n _ _) (fun e bx h hE hB hH hb=>aa7 n b l bad hbn hl ho hw e bx h hE hB hH hb) e bx h hb
def its(acc:List (List Nat × Int))(l:List (List Nat))(bad:Bool):List (List Nat × Int) × List (List Nat) × Bool :=
 match bad,l with
 | true,l=>(acc,l,true)
 | false,[]=>(acc,[],false)
 | false,[k]=>(acc++[((pk k).1,(aZ []).1)],[],true)
 | false,k::w::r=>its (acc++[((pk k).1,(aZ w).1)]) r (qW (k::w::r)||iE (w::r))
termination_by l.length
theorem ahe(acc:List (List Nat × Int))(l:List (List Nat)):its acc l true=(acc,l,true):=by unfold its;rfl
theorem ahf(acc:List (List Nat × Int)):its acc [] false=(acc,[],false):=by unfold its;rfl
theorem ahg(acc:List (List Nat × Int))(k:List Nat)(l:List (List Nat)):its acc (k::l) false=its (acc++[((pk k).1,(aZ (hdW l)).1)]) l.tail (qW (k::l)||iE l):=by
 cases l with
 | nil =>
  have e:(qW [k]||iE [])=true:=by simp [iE]
  rw[e]
  show its acc [k] false=its _ [] true
  rw[ahe]
  unfold its
  rfl
 | cons w r =>
  conv=>lhs;unfold its
  rfl
def itA(id:Nat)(acc:List (List Nat × Int)):V:=if acc=[] then nls else .sl (.own id 64) 2 (itv acc)
abbrev opI(nm:List Nat)(it co:V):List V:=[vi 6,vs nm,vs [],nls,vi 0,vi 0,vi 0,vu 0,it,co,vi 0,vi 0,vi 0,vi 0,vi 0,vi 0,vi 0,vs [],vi 0,vi 0,vi 0,nls]
def EY(m:Nat)(f:Nat→Option (TypeId × List V)):Nat→Option (TypeId × List V):=fun c=>if m<c then none else f c
theorem qM(m:Nat)(f:Nat→Option (TypeId × List V))(c:Nat):EY m f c=if m<c then none else f c:=rfl
def opB(bx:Nat→Option (TypeId × List V))(n b:Nat)(nm:List Nat)(it co:V)(l:List (List Nat))(bad:Bool):Nat→Option (TypeId × List V) :=
 EY (n+1+1) (upd (upd (upd bx n (some (32,op0 0))) (n+1+1) (some (32,opI nm it co))) b (some (108,rdC l bad)))
theorem aa8(n:Nat)(w:List Nat):(byR n w).cs=some [byR n w]:=by unfold byR;split<;>rfl
theorem wu(n:Nat)(w:List Nat):(byR n w).one=true:=by unfold byR;split<;>rfl
theorem afy(n:Nat)(w:List Nat)(id:Nat)(h:¬n+1=id):(byR n w).any (Tag.is id) (fun _=>false) false=false:=by
 unfold byR
 split
 ·rfl
 ·simp [V.any,Tag.is,h]
theorem BV(id:Nat)(acc:List (List Nat × Int)):(itA id acc).one=true:=by unfold itA;split<;>rfl
theorem afz(id:Nat):itA id []=nls:=rfl
theorem RV(id:Nat)(acc:List (List Nat × Int))(h:acc≠[]):itA id acc = .sl (.own id 64) 2 (itv acc):=if_neg h
theorem LH(l:List (List Nat × Int))(k:List Nat)(n:Int):itv l++[V.agg [vs k,vi n]]=itv (l++[(k,n)]):=by simp [itv]
theorem aa9(n b:Nat)(l:List (List Nat))(hbn:b<n)(hl:l.length≤100000)(ho:∀x∈l,oct x)(hw:∀x∈l,x.length≤1000000)(e:Nat→V)(bx:Nat→Option (TypeId × List V))(h:Nat→V)(hE:FrE n e)(hB:FrB n bx)(hH:FrE n h)(hb:bx b=some (108,rdC ([105,110,115,101,114,116]::l) false)) :
  Gxz 54 [.ref b 0] ⟨e,bx,n,h⟩ ⟨e,upd bx b (some (108,rdC (its [] l.tail.tail (l.isEmpty||l.tail.isEmpty||oH (hdW l.tail))).2.1 (its [] l.tail.tail (l.isEmpty||l.tail.isEmpty||oH (hdW l.tail))).2.2)),n+10000000,h⟩
   (.agg (opI (hdW l) (itA (n+1000007) (its [] l.tail.tail (l.isEmpty||l.tail.isEmpty||oH (hdW l.tail))).1) (byR (n+3) (hdW l.tail)))):=by
 have hne:∀j,j<6→1≤j→aH.getD j []≠[105,110,115,101,114,116]:=by decide
 have d1:¬n=b:=by omega
 have d2:¬b=n:=by omega
 have d3:¬n=n+1+1:=by omega
 have d4:¬n+1+1=n:=by omega
 have d5:¬n+1+1=b:=by omega
 have d6:¬b=n+1+1:=by omega
 have d7:¬n+2=n:=by omega
 have d8:¬n=n+2:=by omega
 have d9:¬n+2=b:=by omega
 have d0:¬b=n+2:=by omega
 have c1:¬n+1+1<b:=by omega
 have c2:¬n+1+1<n:=by omega
 have c3:¬n+1+1<n+1+1:=by omega
 have hoh:∀l':List (List Nat),(∀x∈l',oct x)→oct (hdW l'):=fun l' h'=>vZ h'
 have hwt:∀l':List (List Nat),(∀x∈l',x.length≤1000000)→(hdW l').length≤1000000:=fun l' h'=>by
  cases l' with
  | nil=>simp [hdW]
  | cons x r=>have:=h' x (by simp);simp only[hdW,List.headD_cons];omega
 have hot:=hoh l.tail (fun x hx=>ho x (List.mem_of_mem_tail hx))
 have hwt1:=hwt l.tail (fun x hx=>hw x (List.mem_of_mem_tail hx))
 generalize hF:its [] l.tail.tail (l.isEmpty||l.tail.isEmpty||oH (hdW l.tail))=F
 have key:∃bx' n',Gxz 54 [.ref b 0] ⟨e,bx,n,h⟩ ⟨e,bx',n',h⟩ (.agg (opI (hdW l) (itA (n+1000007) F.1) (byR (n+3) (hdW l.tail))))∧n'≤n+10000000∧∀c,upd bx b (some (108,rdC F.2.1 F.2.2)) c=bx' c∨upd bx b (some (108,rdC F.2.1 F.2.2)) c=none∨(n≤c∧upd bx b (some (108,rdC F.2.1 F.2.2)) c=bx c):=by
  refine⟨upd (opB bx n b (hdW l) (itA (n+1000007) F.1) (byR (n+3) (hdW l.tail)) F.2.1 F.2.2) n (some (32,opI (hdW l) (itA (n+1000007) F.1) (byR (n+3) (hdW l.tail)))),n+10000000, ?_,Nat.le_refl _, ?_⟩
  ·refine gZ oW Tryz.func54 Tryz.results54 ?_
   (repeat' first|refine wP (aI @iQ (aI @dm (aI @bI (aI @hb (aI @ai (aI @d1 (aI @d2 (aI @d3 (aI @d4 (aI @d5 (aI @d6 (aI @jG (aI @aa8 @wu))))))))))))) aN ?_|refine cZ (yR _ _ _ _ b [105,110,115,101,114,116] l _ aH 6 (by simp only[upd];rw[if_neg (by omega)];exact hb) (by omega) (jI _ rfl) Pq (by decide) (by decide) rfl hne) ?_|refine cZ (Ec _ _ _ _ b l false (by simp only[upd];(repeat' (first|rw[if_neg (by omega)]|rw[if_pos rfl]|rw[if_pos trivial]))) (by omega)) ?_|refine cZ (RU _ _ _ _ b l.tail _ (by simp only[upd];(repeat' (first|rw[if_neg (by omega)]|rw[if_pos rfl]|rw[if_pos trivial]))) (by omega) (by simp only[List.length_tail];omega) hot hwt1) ?_|refine tS ?_ ?_<;>intro hc|fail)
   refine OM (fun _:List (List Nat × Int) × List (List Nat) × Bool=>[(0,.ref b 0),(2,.ref n 0),(3,.ref (n+1+1) 0)]) (fun x=>opB bx n b (hdW l) (itA (n+1000007) x.1) (byR (n+3) (hdW l.tail)) x.2.1 x.2.2) (fun x=>n+1000005+3*x.1.length) (fun x=>its x.1 x.2.1 x.2.2=F∧x.1.length+x.2.1.length≤100000∧(∀y∈x.2.1,oct y∧y.length≤1000000)) (fun x=>x.2.1.length) ([],l.tail.tail,l.isEmpty||l.tail.isEmpty||oH (hdW l.tail)) ?_ ?_ ?_ ?_ ?_
   ·((try simp only[kF,lQ,lD,mf,pgo,simprocAttr,and_true,true_and]);try (repeat' (first|exact trivial|rfl|apply aI)))
   ·intro c
    simp only[opB,EY,upd,afz]
    (repeat' split)<;>first|exact .inr rfl|exact .inl rfl|(exfalso;omega)
   ·show n+1+1+1+1000002≤_
    simp only[List.length_nil];omega
   ·refine⟨hF,by simp only[List.length_nil,List.length_tail];omega,fun y hy => ?_⟩
    have h1:=List.mem_of_mem_tail (List.mem_of_mem_tail hy)
    exact⟨ho y h1,hw y h1⟩
   ·rintro⟨acc,l',bad⟩ ⟨hi1,hi2,hi3⟩
    simp only at hi1 hi2 hi3
    have hfin:∀(hx:its acc l' bad=(acc,l',bad)),F=(acc,l',bad):=fun hx=>by rw[←hi1,hx]
    cases bad with
    | true =>
     have hF':=hfin (ahe acc l')
     subst hF'
     have hx:=au l'
     (repeat' (first|(simp (disch:=first|exact dqz|fail) only[pgz,simprocAttr,opB,qM,c1,c2,c3,hx,dm,bI,d1,d2,d3,d4,d5,d6,BV,wu])|((with_reducible first|apply di|apply bK|apply dw)<;>intro hc<;>(try simp only[hc])<;>(try simp only[pgd] at hc))|(with_reducible refine cK ?_)))
     all_goals (refine uO (by first|exact aG _ _ _|exact jq _ _ _ _|(simp (disch:=first|assumption|omega|(simp only[Fits,maxLen,pgq] at *;omega)) only[pgr,pgo,tyf,simprocAttr,d1,d2,d3,d4,d5,d6,c1,c2,c3,opB,qM];done)|(simp (disch:=first|assumption|omega|(simp only[Fits,maxLen,pgq] at *;omega)) only[pgr,pgo,tyf,simprocAttr,d1,d2,d3,d4,d5,d6,c1,c2,c3,opB,qM];rfl)) (dJ _ _) (dK _ _) (by first|rfl|skip) (by first|omega|skip))
    | false =>
     cases l' with
     | nil =>
      have hF':=hfin (ahf acc)
      subst hF'
      have hx:=au []
      (repeat' (first|(simp (disch:=first|exact dqz|fail) only[pgz,simprocAttr,opB,qM,c1,c2,c3,hx,dm,bI,d1,d2,d3,d4,d5,d6,BV,wu])|((with_reducible first|apply di|apply bK|apply dw)<;>intro hc<;>(try simp only[hc])<;>(try simp only[pgd] at hc))|(with_reducible refine cK ?_)))
      all_goals (refine uO (by first|exact aG _ _ _|exact jq _ _ _ _|(simp (disch:=first|assumption|omega|(simp only[Fits,maxLen,pgq] at *;omega)) only[pgr,pgo,tyf,simprocAttr,d1,d2,d3,d4,d5,d6,c1,c2,c3,opB,qM];done)|(simp (disch:=first|assumption|omega|(simp only[Fits,maxLen,pgq] at *;omega)) only[pgr,pgo,tyf,simprocAttr,d1,d2,d3,d4,d5,d6,c1,c2,c3,opB,qM];rfl)) (dJ _ _) (dK _ _) (by first|rfl|skip) (by first|omega|skip))
     | cons k r =>
      have hx:=au (k::r)
      have hk:=hi3 k (by simp)
      have hrl:acc.length+r.length+1≤100000:=by simpa [Nat.add_assoc] using hi2
      have hr:oct (hdW r)∧(hdW r).length≤1000000:=by
       cases r with
       | nil=>exact⟨dV,by simp [hdW]⟩
       | cons w r=>have:=hi3 w (by simp);exact⟨this.1,by simp only[hdW,List.headD_cons];omega⟩
      have hlen:((k::r).length:Int)=(r.length:Int)+1:=by simp
      rw[ahg] at hi1
      have hnxt:its (acc++[((pk k).1,(aZ (hdW r)).1)]) r.tail (qW (k::r)||iE r)=F∧(acc++[((pk k).1,(aZ (hdW r)).1)]).length+r.tail.length≤100000∧∀y∈r.tail,oct y∧y.length≤1000000:=by
       refine⟨hi1,by simp only[List.length_append,List.length_cons,List.length_nil,List.length_tail];omega,fun y hy=>hi3 y (by simp [List.mem_of_mem_tail hy])⟩
      have m1:¬n+1000005+3*acc.length=b:=by omega
      have m2:¬b=n+1000005+3*acc.length:=by omega
      have m3:¬n+1000005+3*acc.length=n:=by omega
      have m4:¬n=n+1000005+3*acc.length:=by omega
      have m5:¬n+1000005+3*acc.length=n+1+1:=by omega
      have m6:¬n+1+1=n+1000005+3*acc.length:=by omega
      have hP:=QZ (id:=n+1000007) (LG hE hH) (by omega)
      have hk1:hdW (k::r)=k:=rfl
      have hbc:∀c,(bx c).map (fun y=>(y.1,y.2.map (aJ (n+1000007))))=bx c:=fun c=>congrFun (Q3 (id:=n+1000007) hB (by omega)) c
      have hit:=aB acc
      by_cases hac:acc=[]
      ·have eA:itA (n+1000007) acc=nls:=by rw[hac];rfl
       (repeat' (first|(simp (disch:=first|exact dqz|fail) only[pgz,simprocAttr,opB,qM,c1,c2,c3,hx,hlen,eA,hk1,BV,wu,bI,List.tail_cons,Bool.false_or,d1,d2,d3,d4,d5,d6,m1,m2,m3,m4,m5,m6,jG])|((with_reducible show gU _ _ _ _ _ _);first|refine nT _ (aa5 _ _ _ _ b (k::r) false (by simp only[opB,EY,upd];(repeat' (first|rw[if_neg (by omega)]|rw[if_pos rfl]|rw[if_pos trivial]))) (by simp only[List.length_cons];omega) hk.1 (by rw[hk1];omega)) rfl ?_|refine nT _ (Ed _ _ _ _ b r _ (by simp only[opB,EY,upd];(repeat' (first|rw[if_neg (by omega)]|rw[if_pos rfl]|rw[if_pos trivial]))) (by omega) hr.1 hr.2) rfl ?_)|((with_reducible first|apply di|apply bK|apply dw)<;>intro hc<;>(try simp only[hc])<;>(try simp only[pgd] at hc))|(with_reducible refine cK ?_)))
       refine Dz (acc++[((pk k).1,(aZ (hdW r)).1)],r.tail,qW (k::r)||iE r) hnxt (by simp only[List.length_cons,List.length_tail];omega) ?_ ?_ (by simp only[List.length_append,List.length_cons,List.length_nil];first|omega|(split<;>omega))
       ·((try simp only[kF,lQ,lD,mf,pgo,simprocAttr,and_true,true_and]);try (repeat' (first|exact trivial|rfl|apply aI)))
       ·intro c
        subst hac
        simp only[opB,EY,upd]
        (repeat' split)<;>first|exact .inr rfl|exact .inl rfl|(exfalso;omega)
      ·have eA:=RV (n+1000007) acc hac
       have hby:=afy (n+3) (hdW l.tail) (n+1000007) (by omega)
       (repeat' (first|(simp (disch:=first|exact dqz|fail) only[pgz,simprocAttr,hby,opB,qM,c1,c2,c3,hx,hlen,eA,hk1,BV,wu,bI,hP,List.tail_cons,Bool.false_or,d1,d2,d3,d4,d5,d6,m1,m2,m3,m4,m5,m6,jG,LH])|((with_reducible show gU _ _ _ _ _ _);first|refine nT _ (aa5 _ _ _ _ b (k::r) false (by simp only[opB,EY,upd];(repeat' (first|rw[if_neg (by omega)]|rw[if_pos rfl]|rw[if_pos trivial]))) (by simp only[List.length_cons];omega) hk.1 (by rw[hk1];omega)) rfl ?_|refine nT _ (Ed _ _ _ _ b r _ (by simp only[opB,EY,upd];(repeat' (first|rw[if_neg (by omega)]|rw[if_pos rfl]|rw[if_pos trivial]))) (by omega) hr.1 hr.2) rfl ?_)|((with_reducible first|apply di|apply bK|apply dw)<;>intro hc<;>(try simp only[hc])<;>(try simp only[pgd] at hc))|(with_reducible refine cK ?_)))
       refine Dz (acc++[((pk k).1,(aZ (hdW r)).1)],r.tail,qW (k::r)||iE r) hnxt (by simp only[List.length_cons,List.length_tail];omega) ?_ ?_ (by simp only[List.length_append,List.length_cons,List.length_nil];first|omega|(split<;>omega))
       ·((try simp only[kF,lQ,lD,mf,pgo,simprocAttr,and_true,true_and]);try (repeat' (first|exact trivial|rfl|apply aI)))
       ·intro c
        have eN:itA (n+1000007) (acc++[((pk k).1,(aZ (hdW r)).1)]) = .sl (.own (n+1000007) 64) 2 (itv (acc++[((pk k).1,(aZ (hdW r)).1)])):=RV _ _ (by simp)
        simp only[opB,EY,upd,QN,eN]
        (repeat' split)<;>first|exact .inr rfl|exact .inl rfl|(exfalso;omega)|exact .inl (hbc c).symm|skip
  ·intro c
   simp only[opB,EY,upd]
   (repeat' split)<;>first|exact .inl rfl|exact .inr (.inl rfl)|exact .inr (.inr ⟨by omega,rfl⟩)|(exfalso;omega)
 obtain⟨bx',n',h1,h2,h3⟩:=key
 exact h1.le h2 h3
theorem RX(e:Nat→V)(bx:Nat→Option (TypeId × List V))(n:Nat)(h:Nat→V)(b:Nat)(l:List (List Nat))(hb:bx b=some (108,rdC ([105,110,115,101,114,116]::l) false))(hbn:b<n)(hl:l.length≤100000)(ho:∀x∈l,oct x)(hw:∀x∈l,x.length≤1000000) :
  Gxz 54 [.ref b 0] ⟨e,bx,n,h⟩ ⟨e,upd bx b (some (108,rdC (its [] l.tail.tail (l.isEmpty||l.tail.isEmpty||oH (hdW l.tail))).2.1 (its [] l.tail.tail (l.isEmpty||l.tail.isEmpty||oH (hdW l.tail))).2.2)),n+10000000,h⟩
   (.agg (opI (hdW l) (itA (n+1000007) (its [] l.tail.tail (l.isEmpty||l.tail.isEmpty||oH (hdW l.tail))).1) (byR (n+3) (hdW l.tail)))) :=
 GoodZ.fresh (x0:=(108,rdC ([105,110,115,101,114,116]::l) false)) (X:=(108,rdC (its [] l.tail.tail (l.isEmpty||l.tail.isEmpty||oH (hdW l.tail))).2.1 (its [] l.tail.tail (l.isEmpty||l.tail.isEmpty||oH (hdW l.tail))).2.2)) (aa6 n _ _) (fun e bx h hE hB hH hb=>aa9 n b l hbn hl ho hw e bx h hE hB hH hb) e bx h hb
theorem ajE:∀x∈kN,oct x:=by
 intro x hx
 have:∀x∈kN,(x.all fun b=>decide (b<256))=true:=by decide
 intro b hb
 simpa using List.all_eq_true.1 (this x hx) b hb
def Prt(l:List Nat)(i:Nat)(ps:List (List Nat))(f:Nat):Prop:=f≤i∧i≤l.length∧spl 32 l=ps++spl 32 (l.drop f)∧(∀x∈(l.drop f).take (i-f),x≠32)
theorem acg{l:List Nat}{i:Nat}{ps:List (List Nat)}{f:Nat}(h:Prt l i ps f)(hi:i<l.length)(hc:l.getD i 0≠32):Prt l (i+1) ps f:=by
 obtain⟨h1,h2,h3,h4⟩:=h
 refine⟨by omega,hi,h3, ?_⟩
 have e:(l.drop f).take (i+1-f)=(l.drop f).take (i-f)++[l.getD i 0]:=by
  rw[show i+1-f=(i-f)+1 by omega,List.take_succ_eq_append_getElem (by rw[List.length_drop];omega)]
  simp [List.getD,hi,show f+(i-f)=i by omega]
 intro x hx
 rw[e] at hx
 rcases List.mem_append.1 hx with hx|hx
 ·exact h4 x hx
 ·simp only[List.mem_singleton] at hx;rw[hx];exact hc
theorem afB{l:List Nat}{i:Nat}{ps:List (List Nat)}{f:Nat}(h:Prt l i ps f)(hi:i<l.length)(hc:l.getD i 0=32):Prt l (i+1) (ps++[(l.take i).drop f]) (i+1):=by
 obtain⟨h1,h2,h3,h4⟩:=h
 refine⟨Nat.le_refl _,hi, ?_,by simp⟩
 have e:l.drop f=(l.drop f).take (i-f)++32::l.drop (i+1):=by
  have e1:l.drop i=l.getD i 0::l.drop (i+1):=by
   rw[List.drop_eq_getElem_cons hi];simp [List.getD,hi]
  rw[hc] at e1
  rw[←e1]
  have:=(List.take_append_drop (i-f) (l.drop f)).symm
  rw[List.drop_drop,show f+(i-f)=i by omega] at this
  exact this
 have e2:(l.take i).drop f=(l.drop f).take (i-f):=by rw[List.drop_take]
 rw[h3,e,OV 32 _ _ h4,e2]
 simp
theorem af4{l:List Nat}{ps:List (List Nat)}{f:Nat}(h:Prt l l.length ps f):spl 32 l=ps++[(l.take l.length).drop f]:=by
 obtain⟨h1,h2,h3,h4⟩:=h
 rw[List.take_of_length_le (by rw[List.length_drop];omega)] at h4
 rw[h3,yh 32 _ h4,List.take_length]
theorem agp{l:List Nat}{i:Nat}{ps:List (List Nat)}{f:Nat}(h:Prt l i ps f):ps.length≤l.length:=by
 obtain⟨h1,h2,h3,h4⟩:=h
 have:=Ih 32 l
 obtain⟨y,t,e⟩:=uG 32 (l.drop f)
 rw[h3,e] at this
 simp at this
 omega
def aqW(l:List Nat)(i:Nat)(ps:List (List Nat))(f:Nat):Prop:=Prt l i ps f∨(i=l.length+1∧ps=spl 32 l)
theorem aky(l:List Nat)(ho:oct l)(hl:l.length≤1000000):Gxx 16 [vs l] (.sl (.own 0 9) 1 (sv (spl 32 l))):=by
 refine gI oW Tryz.func16 Tryz.results16 ?_
 refine wS trivial trivial ?_
 refine aK (fun x:Nat × List (List Nat) × Nat=>mkA [(0,vs l),(3,.sl (.own 0 9) 1 (sv x.2.1)),(4,vi (x.2.2:Nat)),(5,vi (x.1:Nat))] [] 1 (fun _ => .top)) (fun x=>aqW l x.1 x.2.1 x.2.2) (fun x=>l.length+1-x.1) (0,[],0) [] [] ?_ (.inl ⟨Nat.le_refl _,Nat.zero_le _,rfl,by simp⟩) ?_
 ·exact kE
  all_goals exact gK rfl
 ·rintro⟨i,ps,f⟩ hp
  rcases hp with hp|⟨h1,h2⟩
  ·replace hp:Prt l i ps f:=hp
   have hpl:=agp hp
   have hp':=hp
   obtain⟨hp1,hp2,_,_⟩:=hp'
   rcases Nat.lt_or_ge i l.length with hlt|hge
   ·have hcb:=gW ho i
    by_cases h32:l.getD i 0=32
    ·refine wS @BQ trivial ?_
     refine bC (i+1,ps++[(l.take i).drop f],i+1) [0] [] ?_ ?_ ?_
     ·exact .inl (afB hp hlt h32)
     ·show l.length+1-(i+1)<l.length+1-i
      omega
     ·exact kE
    ·refine wS @BQ trivial ?_
     refine bC (i+1,ps,f) [0] [] ?_ ?_ ?_
     ·exact .inl (acg hp hlt h32)
     ·show l.length+1-(i+1)<l.length+1-i
      omega
     ·exact kE
   ·have hil:i=l.length:=by omega
    subst hil
    refine wS @BQ trivial ?_
    refine bC (l.length+1,ps++[(l.take l.length).drop f],l.length+1) [0] [] ?_ ?_ ?_
    ·exact .inr ⟨rfl,(af4 hp).symm⟩
    ·show l.length+1-(l.length+1)<l.length+1-l.length
     omega
    ·exact kE
  ·simp only at h1 h2
   subst h1
   refine wS @au trivial ?_
   rw[h2]
   exact rE [0]
theorem sh5(n:Int):Int.fdiv n (2^min 5 IntKind.i64.bits)=n.fdiv 32:=rfl
theorem sh7(n:Int):Int.fdiv n (2^min 7 IntKind.i64.bits)=n.fdiv 128:=rfl
theorem RY(a:ByteArray):decide (a=a)=true:=decide_eq_true rfl
theorem ahh(a:Int):(a == a)=true:=by simp
theorem ahi(a:Int):(a != a)=false:=by simp
theorem afD(o:O)(hn:o.names.length≤1000000)(hi:o.items.length≤1000000):Gxx 17 [.agg (opF o),.agg (opF o)] (vb true):=by
 have hsl:=au o.names
 have hil:=aB o.items
 refine gI oW Tryz.func17 Tryz.results17 ?_
 (repeat' (first|(simp (disch:=first|exact dqz|fail) only[pgz,simprocAttr,Tryz.f17,RY,ahh,ahi,rH,au,aB,Bool.not_true,Bool.and_true,Bool.true_and,List.append_eq,List.cons_append,List.nil_append])|((with_reducible first|apply di|apply bK|apply dw)<;>intro hc<;>(try simp only[hc])<;>(try simp only[pgd] at hc))|(with_reducible refine cK ?_)))
 refine aK (fun i:Nat=>mkA [(2,.ref 0 0),(3,.ref 1 0),(5,vi i)] [(0,(32,opF o)),(1,(32,opF o))] 2 (fun _ => .top)) (fun i=>i≤o.names.length) (fun i=>o.names.length-i) 0 [] [0,1] ?_ (Nat.zero_le _) ?_
 ·exact kE
 ·intro i hi
  replace hi:i≤o.names.length:=hi
  rcases Nat.lt_or_ge i o.names.length with hlt|hge
  ·have hg:=iK o.names i hlt
   refine wS (aI @hg (aI @RY @Bool.not_true)) trivial ?_
   exact bE (i+1) [] [0,1] hlt
  ·refine wS @RY trivial ?_
   refine aK (fun i:Nat=>mkA [(2,.ref 0 0),(3,.ref 1 0),(6,vi i)] [(0,(32,opF o)),(1,(32,opF o))] 2 (fun _ => .top)) (fun i=>i≤o.items.length) (fun i=>o.items.length-i) 0 [] [0,1] ?_ (Nat.zero_le _) ?_
   ·exact kE
   ·intro j hj
    replace hj:j≤o.items.length:=hj
    rcases Nat.lt_or_ge j o.items.length with hlt|hge
    ·have hg:=sS o.items j hlt
     refine wS (aI @hg (aI @RY (aI @ahh (aI @ahi (aI @Bool.not_true (aI @Bool.and_true @Bool.true_and)))))) trivial ?_
     exact bE (j+1) [] [0,1] hlt
    ·exact wR trivial trivial ah
def vk:List (List Nat):=[[97],[98],[99],[100],[101],[102],[97,97],[98,32,99],[37,54,49],[65,58,49],[0],[122,47,255]]
def u8i(n:Int):Nat:=(n%256).toNat
theorem afE(n:Int):IntKind.u8.wrap n=((u8i n:Nat):Int):=by rw[IntKind.wrap_u8];unfold u8i;omega
def wC(n:Int):List Nat:=if n.fdiv 256%16=15 then [u8i n,u8i (n.fdiv 2),u8i (n.fdiv 8)] else vk.getD ((n%256).toNat%12) []
theorem II(n:Int):oct (wC n)∧(wC n).length≤12:=by
 unfold wC
 split
 ·refine⟨?_,by simp⟩
  intro b hb
  simp at hb
  rcases hb with rfl|rfl|rfl<;>(unfold u8i;omega)
 ·generalize hk:(n%256).toNat%12=k
  have hlt:k<12:=by omega
  have:∀k,k<12→((vk.getD k []).all fun b=>decide (b<256))=true∧(vk.getD k []).length≤12:=by decide
  exact⟨jI _ (this k hlt).1,(this k hlt).2⟩
theorem sh8(n:Int):Int.fdiv n (2^min 8 IntKind.i64.bits)=n.fdiv 256:=rfl
theorem sh1(n:Int):Int.fdiv n (2^min 1 IntKind.i64.bits)=n.fdiv 2:=rfl
theorem sh3(n:Int):Int.fdiv n (2^min 3 IntKind.i64.bits)=n.fdiv 8:=rfl
theorem bs3(a b c:Nat):[V.c (.int .u8 (a:Int)),V.c (.int .u8 (b:Int)),V.c (.int .u8 (c:Int))]=bv [a,b,c]:=rfl
theorem anW(e:Nat→V)(b:Nat→Option (TypeId × List V))(n:Nat)(h:Nat→V):bV Tryz.prog ⟨e,b,n,h⟩ 23 12 [(0,.c (.string ⟨#[97]⟩)),(1,.c (.string ⟨#[98]⟩)),(2,.c (.string ⟨#[99]⟩)),(3,.c (.string ⟨#[100]⟩)),(4,.c (.string ⟨#[101]⟩)),(5,.c (.string ⟨#[102]⟩)),(6,.c (.string ⟨#[97,97]⟩)),(7,.c (.string ⟨#[98,32,99]⟩)),(8,.c (.string ⟨#[37,54,49]⟩)),(9,.c (.string ⟨#[65,58,49]⟩)),(10,.c (.string ⟨#[0]⟩)),(11,.c (.string ⟨#[122,47,255]⟩))]=some (.sl (.own n 9) 1 (sv vk),⟨e,b,n+1,h⟩):=by
 rw[eG,qQ,Option.bind_some,x8,Option.bind_some,xZ,Option.bind_some]
 rfl
theorem anX(e:Nat→V)(bx:Nat→Option (TypeId × List V))(n:Nat)(h:Nat→V)(a b c:Nat):bV Tryz.prog ⟨e,bx,n,h⟩ 28 3 [(0,.c (.int .u8 (a:Int))),(1,.c (.int .u8 (b:Int))),(2,.c (.int .u8 (c:Int)))]=some (.sl (.own n 5) 1 (bv [a,b,c]),⟨e,bx,n+1,h⟩):=by
 rw[eG,OA,Option.bind_some,ag5,Option.bind_some,ag4,Option.bind_some]
 rfl
theorem k12:vk.length=12:=rfl
theorem anY(n:Int):Int.tmod (n%256) 12=(((n%256).toNat%12:Nat):Int):=by
 rw[Int.tmod_eq_emod_of_nonneg (by omega)]
 omega
theorem anZ(k:Nat)(h:k<12):(sv vk)[k]?=some (.c (.string (sB (vk.getD k [])))):=iK vk k h
theorem m12(n:Nat):n%12<12:=Nat.mod_lt _ (by omega)
theorem afF(l:List Nat):V.idsL (bv l)=[]:=by
 induction l with
 | nil=>rfl
 | cons a l ih=>simpa [bv,V.idsL,V.ids] using ih
theorem abb(n:Int):Gxx 25 [vi n] (vs (wC n)):=by
 refine gI oW Tryz.func25 Tryz.results25 ?_
 unfold wC
 have hm:=m12 (n%256).toNat
 have hk:=k12
 (repeat' first|refine wP' (aI @afF (aI @anX (aI @anW (aI @k12 (aI @anY (aI @anZ (aI @sh8 (aI @sh1 (aI @sh3 (aI @anN (aI @ajn (aI @afE (aI @bs3 (aI @rH @Int.cast_ofNat_Int)))))))))))))) trivial ?_|refine tS ?_ ?_<;>intro hc|fail)
 all_goals (refine rT [] ?_;first|rfl|simp only[pgo,simprocAttr]|skip)
 all_goals simp [*]
theorem an0(n:Int):bits .and .i64 n 3=n%4:=jH n 2 (by decide)
theorem afG(n:Int):bits .and .i64 n 65535=n%65536:=jH n 16 (by decide)
def vw(n:Int):List Nat:=[u8i n,u8i (n.fdiv 8),u8i (n.fdiv 32),u8i (n.fdiv 128)]
def df(n:Int):List Nat:=(vw n).take ((n%4).toNat+1)
theorem Gv(n:Int):oct (df n)∧(df n).length≤4∧df n≠[]:=by
 refine⟨J7 ?_ _, ?_, ?_⟩
 ·intro b hb
  simp [vw] at hb
  rcases hb with rfl|rfl|rfl|rfl<;>(unfold u8i;omega)
 ·simp only[df,vw,List.length_take,List.length_cons,List.length_nil];omega
 ·intro h
  have:=congrArg List.length h
  simp only[df,vw,List.length_take,List.length_cons,List.length_nil] at this
  omega
theorem an1(e:Nat→V)(bx:Nat→Option (TypeId × List V))(n:Nat)(h:Nat→V)(a b c d:Nat):bV Tryz.prog ⟨e,bx,n,h⟩ 28 4 [(0,.c (.int .u8 (a:Int))),(1,.c (.int .u8 (b:Int))),(2,.c (.int .u8 (c:Int))),(3,.c (.int .u8 (d:Int)))]=some (.sl (.own n 5) 1 (bv [a,b,c,d]),⟨e,bx,n+1,h⟩):=by
 rw[eG,OA,Option.bind_some,ag5,Option.bind_some,ag4,Option.bind_some]
 rfl
theorem iZ(n:Int):Gxx 26 [vi n] (fzb (df n)):=by
 have hl:(bv (vw n)).length=4:=rfl
 have hcut:slV Tryz.prog 28 (.sl .fz 1 (bv (vw n))) none (some (.c (.int .i64 (n%4+1))))=some (fzb (df n)):=by
  rw[Dk]
  simp only[bdV,Option.bind_some,OA,ak9]
  rw[if_pos ⟨trivial,by omega,by omega,by rw[hl];omega⟩]
  have e:(n%4+1).toNat=(n%4).toNat+1:=by omega
  simp only[e,Int.toNat_natCast,List.drop_zero,QO]
  rfl
 have hown:∀(s:St) id,nO Tryz.prog s 28 id 1 (bv (vw n)) none (some (.c (.int .i64 (n%4+1))))=some (fzb (df n),s.mapV (frz id)):=fun s id=>by unfold nO;rw[hcut];rfl
 have hb4:([u8i n,u8i (n.fdiv 8),u8i (n.fdiv 32),u8i (n.fdiv 128)]:List Nat)=vw n:=rfl
 refine gI oW Tryz.func26 Tryz.results26 ?_
 (repeat' (first|(simp (disch:=first|exact dqz|fail) only[aiI,simprocAttr,Tryz.f26,an1,hb4,sh3,sh5,sh7,an0,afE,hown,isC,Option.all_some,Option.all_none,Bool.and_true,Bool.true_and])|((with_reducible first|apply di|apply bK|apply dw)<;>intro hc<;>(try simp only[hc])<;>(try simp only[pgd] at hc))|(with_reducible refine cK ?_)))
 (refine rT [] ?_;first|rfl|simp only[pgo,simprocAttr]|skip)
theorem afH{k:List Nat}(hk:fH k=true):(fk k).2=0∧(fk k=(k,0)∧kJ k=true∨fk k=(37::jh k,0)):=by
 unfold fk
 rw[hk,if_neg (by simp)]
 cases hp:kJ k
 ·exact⟨by simp,.inr (by simp)⟩
 ·exact⟨by simp,.inl ⟨by simp,rfl⟩⟩
def beF:Nat→Nat→List Nat
 | 0,_=>[]
 | f+1,n=>if n=0 then [] else beF f (n / 256)++[n%256]
def beB(n:Nat):List Nat:=beF 8 n
theorem IJ(f n:Nat):(beF f n).length≤f:=by
 induction f generalizing n with
 | zero=>exact Nat.le_refl _
 | succ f ih =>
  unfold beF
  split
  ·exact Nat.zero_le _
  ·rw[List.length_append]
   have:=ih (n / 256)
   simp only[List.length_cons,List.length_nil]
   omega
theorem afI(f n:Nat):oct (beF f n):=by
 induction f generalizing n with
 | zero=>exact dV
 | succ f ih =>
  unfold beF
  split
  ·exact dV
  ·exact bM (ih _) (nK (Nat.mod_lt _ (by omega)))
theorem alT(f:Nat):beF f 0=[]:=by cases f<;>rfl
theorem alU(f n:Nat)(h:0<n):beF (f+1) n=beF f (n / 256)++[n%256]:=if_neg (by omega)
def aO(n:Nat):List Nat:=if n<248 then [n] else (247+(beB n).length)::beB n
theorem aS(n:Nat):(aO n).length≤9:=by
 unfold aO
 have:=IJ 8 n
 split<;>simp only[List.length_cons,List.length_nil,beB]<;>omega
theorem bH(n:Nat):oct (aO n):=by
 unfold aO
 have:=IJ 8 n
 split
 ·exact nK (by omega)
 ·exact pM (by unfold beB;omega) (afI _ _)
def kP(x:Int):List Nat:=(List.range 8).map fun j=>u8i (x.fdiv (2^(8*(7-j))))
theorem lV(x:Int):(kP x).length=8:=rfl
theorem abf(n:Int):u8i n<256:=by unfold u8i;omega
theorem Ag(x:Int):oct (kP x):=by
 intro b hb
 obtain⟨j,_,rfl⟩:=List.mem_map.1 hb
 exact abf _
def ku(s:List Nat):List Nat:=aO s.length++s
theorem nH(s:List Nat):(ku s).length≤9+s.length:=by
 have:=aS s.length
 unfold ku;rw[List.length_append];omega
theorem Ah{s:List Nat}(h:oct s):oct (ku s):=bM (bH _) h
def ckS:List Nat→Nat × Nat→Nat × Nat
 | [],p=>p
 | b::l,p=>ckS l ((p.1+b)%65521,(p.2+(p.1+b)%65521)%65521)
def ckN(l:List Nat):Nat:=(ckS l (1,0)).2*65536+(ckS l (1,0)).1
theorem afJ(l:List Nat)(p:Nat × Nat)(h:p.1<65521∧p.2<65521):(ckS l p).1<65521∧(ckS l p).2<65521:=by
 induction l generalizing p with
 | nil=>exact h
 | cons b l ih=>exact ih _ ⟨Nat.mod_lt _ (by omega),Nat.mod_lt _ (by omega)⟩
theorem abg(l:List Nat):ckN l<4294967296:=by
 have:=afJ l (1,0) ⟨by decide,by decide⟩
 unfold ckN;omega
def ckB(l:List Nat):List Nat:=[ckN l / 16777216,ckN l / 65536%256,ckN l / 256%256,ckN l%256]
theorem afK(l:List Nat):oct (ckB l):=by
 have:=abg l
 intro b hb
 simp only[ckB,List.mem_cons,List.not_mem_nil,or_false] at hb
 rcases hb with rfl|rfl|rfl|rfl<;>omega
def oI(tag:Nat)(body:List Nat):List Nat:=tag::aO body.length++body
def zh(tag:Nat)(body:List Nat):List Nat:=oI tag body++ckB (oI tag body)
theorem LJ(tag:Nat)(body:List Nat):(zh tag body).length≤body.length+14:=by
 have:=aS body.length
 unfold zh oI ckB
 simp only[List.length_append,List.length_cons,List.length_nil];omega
theorem LK{tag:Nat}{body:List Nat}(ht:tag<256)(h:oct body):oct (zh tag body):=bM (bM (pM ht (bH _)) h) (afK _)
theorem bvS(l:List Nat)(n:Nat):bv l++[V.c (.int .u8 (n:Int))]=bv (l++[n]):=by simp [bv]
theorem bvC(n:Nat)(l:List Nat):V.c (.int .u8 (n:Int))::bv l=bv (n::l):=rfl
theorem alV(n:Nat):Int.fdiv (n:Int) (2^min 8 IntKind.i64.bits)=((n / 256:Nat):Int):=by
 show Int.fdiv (n:Int) ((256:Nat):Int)=_
 rw[Int.fdiv_eq_ediv_of_nonneg _ (Int.natCast_nonneg _),Int.natCast_ediv]
abbrev ob(id:Nat)(l:List Nat):V := .sl (.own id 5) 1 (bv l)
theorem Ee(n:Nat)(hn:n<9223372036854775808):Gxx 121 [vi n] (ob 0 (aO n)):=by
 unfold aO
 by_cases h:n<248
 ·rw[if_pos h]
  have e1:IntKind.u8.wrap (n:Int)=((n:Nat):Int):=by rw[IntKind.wrap_u8];omega
  refine gI oW Tryz.func121 Tryz.results121 ?_
  exact wR @e1 trivial (ids [0])
 ·rw[if_neg h]
  have hb:beF 8 n=beB n:=rfl
  have hbl:=IJ 8 n
  rw[hb] at hbl
  generalize beB n=B at *
  refine gI oW Tryz.func121 Tryz.results121 ?_
  refine wS trivial trivial ?_
  refine aK (fun x:Nat × Nat × List Nat=>mkA [(0,vi (x.2.1:Nat)),(3,ob 0 x.2.2)] [] 1 (fun _ => .top)) (fun x=>x.2.1<256^x.1∧x.1≤8∧beF x.1 x.2.1++x.2.2=B∧x.2.1≤n) (fun x=>x.2.1) (8,n,[]) [] [] ?_ ⟨by simp only;omega,Nat.le_refl _,by simp only;rw[List.append_nil];exact hb,Nat.le_refl _⟩ ?_
  ·exact kE
   all_goals first|exact gK rfl|skip
  ·rintro⟨f,m,acc⟩ ⟨h1,h2,h3,h4⟩
   simp only at h1 h2 h3 h4
   have hml:m<18446744073709551616:=Nat.lt_of_lt_of_le h1 (Nat.pow_le_pow_right (by decide) h2)
   have hal:acc.length≤8:=by rw[←h3,List.length_append] at hbl;omega
   have hbv:=ax acc
   rcases Nat.eq_zero_or_pos m with rfl|hpos
   ·rw[alT,List.nil_append] at h3
    subst h3
    have e1:IntKind.u8.wrap (247+(acc.length:Int))=((247+acc.length:Nat):Int):=by rw[IntKind.wrap_u8];omega
    exact wR (aI @hbv @e1) trivial (ids [1])
   ·cases f with
    | zero=>simp at h1;omega
    | succ f =>
    rw[alU f m hpos,List.append_assoc] at h3
    have e1:IntKind.u8.wrap (m:Int)=((m%256:Nat):Int):=by rw[IntKind.wrap_u8];omega
    have e2:=alV m
    refine wS (aI @hbv (aI @e1 @e2)) trivial ?_
    refine bC (f,m / 256,m%256::acc) [1] [] ⟨?_,by omega,h3,by simp only;omega⟩ (by show m / 256<m;omega) ?_
    ·show m / 256<256^f
     rw[Nat.pow_succ] at h1
     exact Nat.div_lt_of_lt_mul (by omega)
    ·exact kE
theorem kW(n:Int)(hn:0≤n∧n<9223372036854775808):Gxx 121 [vi n] (ob 0 (aO n.toNat)):=by
 have:=Ee n.toNat (by omega)
 rwa [Int.toNat_of_nonneg hn.1] at this
theorem iW(n:Int)(hn:0≤n∧n<9223372036854775808):Gxx 121 [vi n] (fzb (aO n.toNat)):=(kW n hn).fzr rfl (aA _)
theorem Si(x:Int)(hx:0≤x∧x<18446744073709551616):Gxx 141 [vu x] (ob 0 (kP x)):=by
 refine gI oW Tryz.func141 Tryz.results141 ?_
 refine wS trivial trivial ?_
 refine aK (fun j:Nat=>mkA [(0,vu x),(3,ob 0 ((kP x).take j)),(4,vi (7-(j:Int)))] [] 1 (fun _ => .top)) (fun j=>j≤8) (fun j=>8-j) 0 [] [] ?_ (Nat.zero_le _) ?_
 ·exact kE
  all_goals first|exact gK rfl|skip
 ·intro j hj
  replace hj:j≤8:=hj
  have hbl:=ax ((kP x).take j)
  rw[List.length_take,lV,Nat.min_eq_left hj] at hbl
  rcases Nat.lt_or_ge j 8 with hlt|hge
  ·have e0:(8*(7-(j:Int))).toNat=8*(7-j):=by omega
   have em:min (8*(7-j)) IntKind.u64.bits=8*(7-j):=Nat.min_eq_left (show 8*(7-j)≤64 by omega)
   have e1:IntKind.u8.wrap (x.fdiv (2^min (8*(7-j)) IntKind.u64.bits))=((u8i (x.fdiv (2^(8*(7-j)))):Nat):Int):=by rw[em,afE]
   have hnx:bv ((kP x).take j)++[V.c (.int .u8 ((u8i (x.fdiv (2^(8*(7-j)))):Nat):Int))]=bv ((kP x).take (j+1)):=by
    rw[bvS,List.take_succ_eq_append_getElem (by rw[lV];exact hlt)]
    simp [kP]
   refine wS (aI @hbl (aI @e0 (aI @e1 @hnx))) trivial ?_
   exact bE (j+1) [0] [] hlt
  ·have:j=8:=by omega
   subst this
   rw[List.take_of_length_le (by rw[lV];exact Nat.le_refl _)]
   exact wR @hbl trivial (ids [0])
theorem Vz{s:List Nat}(ho:oct s):l7 (sB s)=bv s:=Gg ho
theorem afL(s:List Nat)(ho:oct s)(hl:s.length≤1000000):Gxx 164 [vs s] (ob 0 (ku s)):=by
 have h1:=Ee s.length (by omega)
 have hul:=aS s.length
 have hbl:=ax (aO s.length)
 have hsl:=ax s
 have ha:=dP (aO s.length) s
 have hby:=Vz ho
 unfold ku
 generalize aO s.length=u at *
 refine gI oW Tryz.func164 Tryz.results164 ?_
 exact wR (aI @hbl (aI @hsl (aI @hby @ha))) h1 (ids [0])
theorem abh(l:List Nat)(i:Nat)(h:i<l.length):l.drop i=l.getD i 0::l.drop (i+1):=by rw[List.drop_eq_getElem_cons h];simp [List.getD,h]
theorem ahj(a b:Nat):Int.tmod ((a:Int)+(b:Int)) 65521=(((a+b)%65521:Nat):Int):=rfl
theorem LM(l:List Nat)(ho:oct l)(hl:l.length≤10000000):Gxx 165 [fzb l] (.c (.int .u32 (ckN l:Nat))):=by
 have hbl:=ax l
 unfold ckN
 generalize hP:ckS l (1,0)=P
 refine gI oW Tryz.func165 Tryz.results165 ?_
 refine wS trivial trivial ?_
 refine aK (fun x:Nat × Nat × Nat=>mkA [(0,fzb l),(3,.c (.int .u32 (x.2.1:Nat))),(4,.c (.int .u32 (x.2.2:Nat))),(5,vi (x.1:Nat))] [] 0 (fun _ => .top)) (fun x=>x.1≤l.length∧x.2.1<65521∧x.2.2<65521∧ckS (l.drop x.1) (x.2.1,x.2.2)=P) (fun x=>l.length-x.1) (0,1,0) [] [] ?_ ⟨Nat.zero_le _,by decide,by decide,hP⟩ ?_
 ·exact kE
 ·rintro⟨i,u,v⟩ ⟨h1,h2,h3,h4⟩
  simp only at h1 h2 h3 h4
  rcases Nat.lt_or_ge i l.length with hlt|hge
  ·have hg:=HY l i hlt
   have hc:=gW ho i
   rw[abh l i hlt] at h4
   generalize l.getD i 0=c at *
   have e1:=ahj u c
   have e2:=ahj v ((u+c)%65521)
   have r1:(u+c)%65521<65521:=Nat.mod_lt _ (by omega)
   refine wS (aI @hbl (aI @hg (aI @e1 @e2))) trivial ?_
   refine bC (i+1,(u+c)%65521,(v+(u+c)%65521)%65521) [] [] ⟨hlt,Nat.mod_lt _ (by omega),Nat.mod_lt _ (by omega),h4⟩ (by show l.length-(i+1)<l.length-i;omega) ?_
   exact kE
  ·have:i=l.length:=by omega
   subst this
   rw[List.drop_length] at h4
   have h5:(u,v)=P:=h4
   subst h5
   exact wR @hbl trivial ah
theorem an2(n:Nat)(h:n<4294967296):IntKind.u8.wrap ((n:Int).fdiv (2^min 24 IntKind.u32.bits))=((n / 16777216:Nat):Int):=by
 have e:(n:Int).fdiv (2^min 24 IntKind.u32.bits)=((n / 16777216:Nat):Int):=by
  show Int.fdiv (n:Int) ((16777216:Nat):Int)=_
  rw[Int.fdiv_eq_ediv_of_nonneg _ (Int.natCast_nonneg _),Int.natCast_ediv]
 rw[e,IntKind.wrap_u8];omega
theorem an3(n:Nat):IntKind.u8.wrap ((n:Int).fdiv (2^min 16 IntKind.u32.bits))=((n / 65536%256:Nat):Int):=by
 have e:(n:Int).fdiv (2^min 16 IntKind.u32.bits)=((n / 65536:Nat):Int):=by
  show Int.fdiv (n:Int) ((65536:Nat):Int)=_
  rw[Int.fdiv_eq_ediv_of_nonneg _ (Int.natCast_nonneg _),Int.natCast_ediv]
 rw[e,IntKind.wrap_u8];omega
theorem ck8(n:Nat):IntKind.u8.wrap ((n:Int).fdiv (2^min 8 IntKind.u32.bits))=((n / 256%256:Nat):Int):=by
 have e:(n:Int).fdiv (2^min 8 IntKind.u32.bits)=((n / 256:Nat):Int):=by
  show Int.fdiv (n:Int) ((256:Nat):Int)=_
  rw[Int.fdiv_eq_ediv_of_nonneg _ (Int.natCast_nonneg _),Int.natCast_ediv]
 rw[e,IntKind.wrap_u8];omega
theorem ck0(n:Nat):IntKind.u8.wrap (n:Int)=((n%256:Nat):Int):=by rw[IntKind.wrap_u8];omega
theorem bv4(a b c d:Nat):[V.c (.int .u8 (a:Int)),V.c (.int .u8 (b:Int)),V.c (.int .u8 (c:Int)),V.c (.int .u8 (d:Int))]=bv [a,b,c,d]:=rfl
theorem qg(tag:Nat)(body:List Nat)(ht:tag<256)(ho:oct body)(hl:body.length≤1048576):Gxx 120 [.c (.int .u8 (tag:Nat)),fzb body] (.tup [fzb (zh tag body),vi 0]):=by
 have h1:=Ee body.length (by omega)
 have hul:=aS body.length
 have hbl:=ax (aO body.length)
 have hbb:=ax body
 have ho2:oct (oI tag body):=bM (pM ht (bH _)) ho
 have hfl:(oI tag body).length=1+(aO body.length).length+body.length:=by unfold oI;simp only[List.length_append,List.length_cons];omega
 have h2:=LM (oI tag body) ho2 (by omega)
 have hck:=abg (oI tag body)
 have e24:=an2 _ hck
 have e16:=an3 (ckN (oI tag body))
 have e8:=ck8 (ckN (oI tag body))
 have e0:=ck0 (ckN (oI tag body))
 have hF:V.c (.int .u8 (tag:Int))::(bv (aO body.length)++bv body)=bv (oI tag body):=by unfold oI;rw[List.cons_append,←bvC,←dP]
 have hE:zh tag body=oI tag body++[ckN (oI tag body) / 16777216,ckN (oI tag body) / 65536%256,ckN (oI tag body) / 256%256,ckN (oI tag body)%256]:=rfl
 rw[hE]
 refine Good.fzt (vs:=[ob 0 (oI tag body++[ckN (oI tag body) / 16777216,ckN (oI tag body) / 65536%256,ckN (oI tag body) / 256%256,ckN (oI tag body)%256]),vi 0]) ?_ rfl ⟨aA _,aA _,trivial⟩
 have hfbl:=ax (oI tag body)
 generalize oI tag body=F at *
 generalize ckN F=c at *
 refine gI oW Tryz.func120 Tryz.results120 ?_
 (repeat' first|refine wP (aI @hbl (aI @hbb (aI @hfbl (aI @hF (aI @e24 (aI @e16 (aI @e8 (aI @e0 (aI @List.cons_append.{0} @List.nil_append.{0}))))))))) (aI h1 h2) ?_|refine tS ?_ ?_<;>intro hc|fail)
 all_goals (refine rT [0] ?_;first|rfl|simp only[pgo,simprocAttr]|skip)
 all_goals (rw[bv4,dP];rfl)
def mP(b:Bool):List Nat:=if b=true then [1] else [0]
theorem rV(b:Bool):oct (mP b):=by cases b<;>exact nK (by decide)
theorem jU(b:Bool):(mP b).length=1:=by cases b<;>rfl
theorem afM(b:Bool):Gxx 163 [vb b] (ob 0 (mP b)):=by
 cases b
 ·refine gI oW Tryz.func163 Tryz.results163 ?_
  exact wR trivial trivial (ids [0])
 ·refine gI oW Tryz.func163 Tryz.results163 ?_
  exact wR trivial trivial (ids [0])
theorem vz(b:Bool):Gxx 163 [vb b] (fzb (mP b)):=(afM b).fzr rfl (aA _)
theorem LP(x:Int)(hx:0≤x∧x<18446744073709551616):Gxx 141 [vu x] (fzb (kP x)):=(Si x hx).fzr rfl (aA _)
theorem Ef(s:List Nat)(ho:oct s)(hl:s.length≤1000000):Gxx 164 [vs s] (fzb (ku s)):=(afL s ho hl).fzr rfl (aA _)
end Go.Proofs.YtjiolbcdfgclaaaGreatDoor
