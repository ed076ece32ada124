/-
  Merged texts.
-/
import Derived.Test.YtiohdbjggmmjcaaGreatWAY
import Derived.Test.YtiohdbjggmmjcaaGreatWBK
import Derived.Test.YtiohdbjggmmjcaaGreatWBL
set_option linter.unusedVariables false
set_option linter.unusedSimpArgs false
set_option linter.unusedSectionVars false
set_option linter.defProp false
set_option maxRecDepth 100000
set_option maxHeartbeats 8000000
namespace Go.Proofs.YtiohdbjggmmjcaaGreat
open Go Go.Pg
theorem aiu(e:Nat→V)(bx:Bxx)(n:Nat)(h:Nat→V)(id:Nat):Weak ⟨e,bx,n,h⟩ ⟨dX (aJ id) e,mapB (aJ id) bx,n,dX (aJ id) h⟩:=fun C L a w S=>by
 have K:Trans (Tag.is id) (fun _=>false) _root_.id _root_.id L L w w:=⟨rfl,fun g h=>⟨h,.of rfl⟩,fun j e _ g h=>⟨⟨rfl,h⟩,rfl⟩,fun _ _ _ h=>⟨h,.of rfl⟩⟩
 exact⟨L,S.mapV (fun v u h=>jR K h) (fun b g h=>⟨h,rfl⟩) S.wf (Kp.refl _ _ _)⟩
theorem Zi(id:Nat)(v:V):aJ id (aJ id v)=aJ id v:=by
 unfold aJ
 by_cases h:v.has id=true
 ·simp only[h,if_true];split<;>rfl
 ·simp only[h,if_false]
  simp [h]
theorem aiv(id:Nat)(e:Nat→V):dX (aJ id) (dX (aJ id) e)=dX (aJ id) e:=funext fun t=>Zi id (e t)
theorem aiw(id:Nat)(b:Bxx):mapB (aJ id) (mapB (aJ id) b)=mapB (aJ id) b:=by
 funext j
 simp only[iG]
 cases b j with
 | none=>rfl
 | some x =>
  show some (x.1,(x.2.map (aJ id)).map (aJ id))=some (x.1,x.2.map (aJ id))
  rw[List.map_map]
  congr 2
  exact List.map_congr_left fun v _=>Zi id v
theorem aiZ(x:En)(a:List En):slV Tryz.prog 32 (.sl .fz 3 (ev (x::a))) (some (.c (.int .i64 1))) none=some (fzv a):=by
 rw[EU]
 simp only[bdV,Option.bind_some,aiX,aiY]
 have hel:(ev (x::a)).length=a.length+1:=by rw[aG];rfl
 rw[if_pos ⟨trivial,by omega,by omega,by omega⟩]
 have e1:((ev (x::a)).take ((ev (x::a)).length:Int).toNat).drop (1:Int).toNat=ev a:=by
  rw[Int.toNat_natCast,List.take_length];rfl
 rw[e1]
theorem Zj{F bx:Bxx}{n:Nat}{X:TypeId × List V}(h3:F 3=some X)(ho:∀c,c≠3→F c=mapB (aJ n) bx c)(hX:X.2.map (aJ n)=X.2)(c:Nat)(x':TypeId × List V)(hx:upd (mapB (aJ n) bx) 3 (some X) c=some x') :
  ∃x,mapB (aJ n) F c=some x∧x.1=x'.1∧uT x.2 x'.2:=by
 by_cases h:c=3
 ·subst h
  rw[lF] at hx
  cases hx
  refine⟨X, ?_,rfl,fZ _⟩
  rw[iG,h3]
  show some (X.1,X.2.map (aJ n))=_
  rw[hX]
 ·rw[TY _ _ _ _ h] at hx
  refine⟨x', ?_,rfl,fZ _⟩
  rw[iG,ho c h]
  have:=congrFun (aiw n bx) c
  rw[iG] at this
  rw[this,hx]
theorem Zk(a b:List En)(hoa:octE a)(hob:octE b)(hwa:∀z∈a,W64 z.2.1)(hwb:∀z∈b,W64 z.2.1)(hla:a.length≤1000000)(hlb:b.length≤1000000)(e:Nat→V)(bx:Bxx)(n:Nat)(h:Nat→V)(z t lo:Int)(sa:Bool)
  (hb:bx 3=some (36,[vi z,vi t,vi lo,nls,vb sa])):Gxz 124 [.ref 3 0,fzv a,fzv b] ⟨e,bx,n,h⟩ ⟨dX (aJ n) e,upd (mapB (aJ n) bx) 3 (some (36,[vi z,vi t,vi lo,nls,vb (sa||jf (a.length+b.length) a b)])),n+1+a.length+b.length,dX (aJ n) h⟩ (.sl (.own n 119) 3 (ev (jn (a.length+b.length) a b))):=by
 refine gZ (eu [] mix) Tryz.func124 Tryz.results124 ?_
 (repeat' (first|(simp (disch:=first|exact dqz|fail) only[pgz,simprocAttr,pgE,pgj,iC,oq,jK,gU])|(refine tE ?_ ?_<;>intro hc)|refine xK ?_|fail))
 refine sO (ι:=Nat × List En × List En × List En × Bool × Nat) (fun q=>⟨iP [(0,.ref 3 0),(1,fzv q.2.1),(2,fzv q.2.2.1),(7,.sl (.own n 119) 3 (ev q.2.2.2.1))],upd (mapB (aJ n) bx) 3 (some (36,[vi z,vi t,vi lo,nls,vb q.2.2.2.2.1])),n+1+q.2.2.2.2.2,dX (aJ n) (gm e h)⟩)
  (fun q=>(q.2.1.length+q.2.2.1.length≤q.1∧q.1+q.2.2.2.2.2=a.length+b.length)∧q.2.2.2.1++jn q.1 q.2.1 q.2.2.1=jn (a.length+b.length) a b∧(q.2.2.2.2.1||jf q.1 q.2.1 q.2.2.1)=(sa||jf (a.length+b.length) a b)∧(octE q.2.1∧octE q.2.2.1)∧((∀z∈q.2.1,W64 z.2.1)∧∀z∈q.2.2.1,W64 z.2.1)∧q.2.2.2.1.length≤q.2.2.2.2.2) (fun q=>q.1) (a.length+b.length,a,b,[],sa,0) ?_ ⟨⟨Nat.le_refl _,rfl⟩,rfl,rfl,⟨hoa,hob⟩,⟨hwa,hwb⟩,Nat.le_refl _⟩ ?_
 ·refine (aiu _ _ _ _ n).trans (kP ?_ (fun c x' hx => ?_) (Nat.le_succ _))
  ·simp only[mQ,pY,pgo,simprocAttr,and_true]
   exact⟨bJ _,bJ _,bJ _,FZ _ _⟩
  ·simp only at hx
   by_cases h3:c=3
   ·subst h3
    rw[lF] at hx
    cases hx
    exact⟨_,by rw[iG,hb];rfl,rfl,fZ _⟩
   ·rw[TY _ _ _ _ h3] at hx
    exact⟨x',hx,rfl,fZ _⟩
 ·rintro⟨k,a',b',out,fl,c⟩ ⟨⟨i1,i1'⟩,i2,i3,⟨i4,i5⟩,⟨i6,i7⟩,i8⟩
  simp only at i1 i1' i2 i3 i4 i5 i6 i7 i8
  have hoe:=aG out
  have hz0:(ev []).length=0:=rfl
  have hpp:=aiv n (gm e h)
  cases a' with
  | nil =>
   cases b' with
   | nil =>
    rw[aeP,List.append_nil] at i2
    rw[afd,Bool.or_false] at i3
    subst i2
    subst i3
    (repeat' (first|(simp (disch:=first|exact dqz|fail) only[pgz,simprocAttr,pgE,pgj,iC,hz0,hoe,jK,gU])|(refine tE ?_ ?_<;>intro hc)|refine xK ?_|fail))
    exact Xo (aW _ _ _) (by rw[OH,jk]) (by rw[OI,jl]) rfl (by omega)
   | cons y b' =>
    have hel2:(ev (y::b')).length=b'.length+1:=by rw[aG];rfl
    have hg2:(ev (y::b'))[0]?=some (.agg [vs y.1,vi y.2.1,vi y.2.2]):=rfl
    have hr2:=aiZ y b'
    have hsn:=mr out y.1 y.2.1 y.2.2
    have hT1:((b'.length:Int)+1 > 0)=True:=eq_true (by omega)
    have hT2:((b'.length:Int)+1=0)=False:=eq_false (by omega)
    cases k with
    | zero=>simp at i1
    | succ k =>
     (repeat' (first|(simp (disch:=first|exact dqz|fail) only[pgz,simprocAttr,pgE,pgj,iC,hz0,hoe,hel2,hT1,hT2,hg2,hr2,hsn,hpp])|(refine tE ?_ ?_<;>intro hc)|(with_reducible refine bH ?_)|(refine kw _ _ _ _ _ ?_)|(with_reducible refine cK ?_)))
     refine lY (k,[],b',out++[y],fl,c+1) ⟨⟨by simp only[List.length_cons,List.length_nil] at i1 ⊢;omega,by simp only;omega⟩, ?_, ?_,⟨i4,fun z hz=>i5 z (List.mem_cons_of_mem _ hz)⟩,⟨i6,fun z hz=>i7 z (List.mem_cons_of_mem _ hz)⟩,by simp only[List.length_append,List.length_cons,List.length_nil];omega⟩ (by show k<k+1;omega) (kP (EnvIs.w ?_) (Zj (lF _ _ _) (fun c h=>TY _ _ _ _ h) rfl) (by simp only;(first|omega|(split<;>omega))))
     ·simp only
      rw[←i2,aeP,aeP,List.append_assoc];rfl
     ·simp only
      rw[←i3,afd,afd]
     ·exact eE
  | cons x a' =>
   have hel1:(ev (x::a')).length=a'.length+1:=by rw[aG];rfl
   have hg1:(ev (x::a'))[0]?=some (.agg [vs x.1,vi x.2.1,vi x.2.2]):=rfl
   have hr1:=aiZ x a'
   have hsn1:=mr out x.1 x.2.1 x.2.2
   have hT1:((a'.length:Int)+1 > 0)=True:=eq_true (by omega)
   have hT2:((a'.length:Int)+1=0)=False:=eq_false (by omega)
   cases k with
   | zero=>simp at i1
   | succ k =>
   cases b' with
   | nil =>
    (repeat' (first|(simp (disch:=first|exact dqz|fail) only[pgz,simprocAttr,pgE,pgj,iC,hz0,hoe,hel1,hT1,hT2,hg1,hr1,hsn1,hpp])|(refine tE ?_ ?_<;>intro hc)|(with_reducible refine bH ?_)|(refine kw _ _ _ _ _ ?_)|(with_reducible refine cK ?_)))
    refine lY (k,a',[],out++[x],fl,c+1) ⟨⟨by simp only[List.length_cons,List.length_nil] at i1 ⊢;omega,by simp only;omega⟩, ?_, ?_,⟨fun z hz=>i4 z (List.mem_cons_of_mem _ hz),i5⟩,⟨fun z hz=>i6 z (List.mem_cons_of_mem _ hz),i7⟩,by simp only[List.length_append,List.length_cons,List.length_nil];omega⟩ (by show k<k+1;omega) (kP (EnvIs.w ?_) (Zj (lF _ _ _) (fun c h=>TY _ _ _ _ h) rfl) (by simp only;(first|omega|(split<;>omega))))
    ·simp only
     rw[←i2,aie,aie,List.append_assoc];rfl
    ·simp only
     rw[←i3,aif,aif]
    ·exact eE
   | cons y b' =>
    have hel2:(ev (y::b')).length=b'.length+1:=by rw[aG];rfl
    have hg2:(ev (y::b'))[0]?=some (.agg [vs y.1,vi y.2.1,vi y.2.2]):=rfl
    have hr2:=aiZ y b'
    have hsn2:=mr out y.1 y.2.1 y.2.2
    have hT3:((b'.length:Int)+1 > 0)=True:=eq_true (by omega)
    have hT4:((b'.length:Int)+1=0)=False:=eq_false (by omega)
    cases q1:kl x.1 y.1
    ·cases q2:kl y.1 x.1
     ·have ej:jn (k+1) (x::a') (y::b')=(x.1,(aO x.2.1 y.2.1).1,0)::jn k a' b':=by
       show (if kl x.1 y.1=true then _ else if kl y.1 x.1=true then _ else _)=_
       rw[q1,q2];rfl
      have ef:jf (k+1) (x::a') (y::b')=((aO x.2.1 y.2.1).2||jf k a' b'):=by
       show (if kl x.1 y.1=true then _ else if kl y.1 x.1=true then _ else _)=_
       rw[q1,q2];rfl
      have hsn:=mr out x.1 (aO x.2.1 y.2.1).1 0
      obtain⟨B0,hB0⟩:∃fB,fB=upd (mapB (aJ n) bx) 3 (some (36,[vi z,vi t,vi lo,nls,vb fl])):=⟨_,rfl⟩
      obtain⟨B1,hB1⟩:∃fB,fB=upd B0 3 (some (36,[vi z,vi t,vi lo,nls,vb (fl||(aO x.2.1 y.2.1).2)])):=⟨_,rfl⟩
      have b03:B0 3=some (36,[vi z,vi t,vi lo,nls,vb fl]):=by rw[hB0];exact lF _ _ _
      have hz1:=fun (e:Nat→V) (n:Nat) (h:Nat→V)=>qC e B0 n h 3 x.2.1 y.2.1 z t lo nls fl (i6 x (List.mem_cons_self ..)) (i7 y (List.mem_cons_self ..)) b03
      (repeat' (first|(simp (disch:=first|exact dqz|fail) only[pgz,simprocAttr,pgE,pgj,iC,hz0,hoe,hel1,hel2,hT1,hT2,hT3,hT4,hg1,hg2,kH,q1,q2])|(refine tE ?_ ?_<;>intro hc)|refine xK ?_|fail))
      refine kw _ _ _ _ _ ?_
      (repeat' (first|(simp (disch:=first|exact dqz|fail) only[pgz,simprocAttr,pgE,pgj,iC,hz0,hoe,hel1,hel2,hT1,hT2,hT3,hT4,hg1,hg2,kH,q1,q2])|(refine tE ?_ ?_<;>intro hc)|refine xK ?_|fail))
      refine kw _ _ _ _ _ ?_
      (repeat' (first|(simp (disch:=first|exact dqz|fail) only[pgz,simprocAttr,pgE,pgj,iC,hz0,hoe,hel1,hel2,hT1,hT2,hT3,hT4,hg1,hg2,kH,q1,q2])|(refine tE ?_ ?_<;>intro hc)|refine xK ?_|fail))
      obtain⟨BX,hBX⟩:∃fB:(Nat→Bool)→Bxx,fB=fun S=>if S 14=true then B1 else B0:=⟨_,rfl⟩
      obtain⟨NI,hNI⟩:∃fB:(Nat→Bool)→Nat,fB=fun S=>if S 16=true then n+1+c+1 else n+1+c:=⟨_,rfl⟩
      have hBi:∀S i,i≠14→BX S=BX (ins S i):=fun S i q14=>by rw[hBX];simp only[bV (Ne.symm q14)]
      have hNi:∀S i,i≠16→NI S=NI (ins S i):=fun S i q=>by rw[hNI];simp only[bV (Ne.symm q)]
      have hnd:([16,17,18,19,20,21,22,23,24,25,26,27,28,29,30,31,32]:List Nat).Nodup:=by decide
      refine SH mix 17 [(16,.sl (.own n 119) 3 (ev out)),(17,fzv (x::a')),(18,V.el .fz 3 (ev (x::a')) 0 0),(19,V.el .fz 3 (ev (x::a')) 0 0),(20,vs x.1),(21,.ref 3 0),(22,fzv (x::a')),(23,V.el .fz 3 (ev (x::a')) 0 0),(24,V.el .fz 3 (ev (x::a')) 0 1),(25,vi x.2.1),(26,fzv (y::b')),(27,V.el .fz 3 (ev (y::b')) 0 0),(28,V.el .fz 3 (ev (y::b')) 0 1),(29,vi y.2.1),(30,vi (aO x.2.1 y.2.1).1),(31,.agg [vs x.1,vi (aO x.2.1 y.2.1).1,vi 0]),(32,.sl (.own (n+1+c) 119) 3 [.agg [vs x.1,vi (aO x.2.1 y.2.1).1,vi 0]])] BX NI (by rw[hBX];show B0=_;exact hB0) (by rw[hNI];rfl) (by decide) (by decide) (by decide) ?_ ?_
      ·intro S i o ho hi hS he hcl
       rcases (by omega:i=0∨i=1∨i=2∨i=3∨i=4∨i=5∨i=6∨i=7∨i=8∨i=9∨i=10∨i=11∨i=12∨i=13∨i=14∨i=15∨i=16) with rfl|rfl|rfl|rfl|rfl|rfl|rfl|rfl|rfl|rfl|rfl|rfl|rfl|rfl|rfl|rfl|rfl
       all_goals (simp only[List.getElem?_cons_zero,List.getElem?_cons_succ,Option.some.injEq] at ho;subst ho)
       ·simp (disch:=first|exact dqz|fail) only[pgz,simprocAttr,hS,hel1,hel2,hg1,hg2,aC,aQ]
        exact bI 0 (T:=[(16,.sl (.own n 119) 3 (ev out)),(17,fzv (x::a')),(18,V.el .fz 3 (ev (x::a')) 0 0),(19,V.el .fz 3 (ev (x::a')) 0 0),(20,vs x.1),(21,.ref 3 0),(22,fzv (x::a')),(23,V.el .fz 3 (ev (x::a')) 0 0),(24,V.el .fz 3 (ev (x::a')) 0 1),(25,vi x.2.1),(26,fzv (y::b')),(27,V.el .fz 3 (ev (y::b')) 0 0),(28,V.el .fz 3 (ev (y::b')) 0 1),(29,vi y.2.1),(30,vi (aO x.2.1 y.2.1).1),(31,.agg [vs x.1,vi (aO x.2.1 y.2.1).1,vi 0]),(32,.sl (.own (n+1+c) 119) 3 [.agg [vs x.1,vi (aO x.2.1 y.2.1).1,vi 0]])]) rfl hnd (hBi S 0 (by decide)) (hNi S 0 (by decide))
       ·simp (disch:=first|exact dqz|fail) only[pgz,simprocAttr,hS,hel1,hel2,hg1,hg2,aC,aQ]
        exact bI 1 (T:=[(16,.sl (.own n 119) 3 (ev out)),(17,fzv (x::a')),(18,V.el .fz 3 (ev (x::a')) 0 0),(19,V.el .fz 3 (ev (x::a')) 0 0),(20,vs x.1),(21,.ref 3 0),(22,fzv (x::a')),(23,V.el .fz 3 (ev (x::a')) 0 0),(24,V.el .fz 3 (ev (x::a')) 0 1),(25,vi x.2.1),(26,fzv (y::b')),(27,V.el .fz 3 (ev (y::b')) 0 0),(28,V.el .fz 3 (ev (y::b')) 0 1),(29,vi y.2.1),(30,vi (aO x.2.1 y.2.1).1),(31,.agg [vs x.1,vi (aO x.2.1 y.2.1).1,vi 0]),(32,.sl (.own (n+1+c) 119) 3 [.agg [vs x.1,vi (aO x.2.1 y.2.1).1,vi 0]])]) rfl hnd (hBi S 1 (by decide)) (hNi S 1 (by decide))
       ·have s1:=he 1 (by decide)
        simp (disch:=first|exact dqz|fail) only[pgz,simprocAttr,hS,hel1,hel2,hg1,hg2,aC,aQ,s1]
        exact bI 2 (T:=[(16,.sl (.own n 119) 3 (ev out)),(17,fzv (x::a')),(18,V.el .fz 3 (ev (x::a')) 0 0),(19,V.el .fz 3 (ev (x::a')) 0 0),(20,vs x.1),(21,.ref 3 0),(22,fzv (x::a')),(23,V.el .fz 3 (ev (x::a')) 0 0),(24,V.el .fz 3 (ev (x::a')) 0 1),(25,vi x.2.1),(26,fzv (y::b')),(27,V.el .fz 3 (ev (y::b')) 0 0),(28,V.el .fz 3 (ev (y::b')) 0 1),(29,vi y.2.1),(30,vi (aO x.2.1 y.2.1).1),(31,.agg [vs x.1,vi (aO x.2.1 y.2.1).1,vi 0]),(32,.sl (.own (n+1+c) 119) 3 [.agg [vs x.1,vi (aO x.2.1 y.2.1).1,vi 0]])]) rfl hnd (hBi S 2 (by decide)) (hNi S 2 (by decide))
       ·have s2:=he 2 (by decide)
        simp (disch:=first|exact dqz|fail) only[pgz,simprocAttr,hS,hel1,hel2,hg1,hg2,aC,aQ,s2]
        exact bI 3 (T:=[(16,.sl (.own n 119) 3 (ev out)),(17,fzv (x::a')),(18,V.el .fz 3 (ev (x::a')) 0 0),(19,V.el .fz 3 (ev (x::a')) 0 0),(20,vs x.1),(21,.ref 3 0),(22,fzv (x::a')),(23,V.el .fz 3 (ev (x::a')) 0 0),(24,V.el .fz 3 (ev (x::a')) 0 1),(25,vi x.2.1),(26,fzv (y::b')),(27,V.el .fz 3 (ev (y::b')) 0 0),(28,V.el .fz 3 (ev (y::b')) 0 1),(29,vi y.2.1),(30,vi (aO x.2.1 y.2.1).1),(31,.agg [vs x.1,vi (aO x.2.1 y.2.1).1,vi 0]),(32,.sl (.own (n+1+c) 119) 3 [.agg [vs x.1,vi (aO x.2.1 y.2.1).1,vi 0]])]) rfl hnd (hBi S 3 (by decide)) (hNi S 3 (by decide))
       ·have s3:=he 3 (by decide)
        simp (disch:=first|exact dqz|fail) only[pgz,simprocAttr,hS,hel1,hel2,hg1,hg2,aC,aQ,s3]
        exact bI 4 (T:=[(16,.sl (.own n 119) 3 (ev out)),(17,fzv (x::a')),(18,V.el .fz 3 (ev (x::a')) 0 0),(19,V.el .fz 3 (ev (x::a')) 0 0),(20,vs x.1),(21,.ref 3 0),(22,fzv (x::a')),(23,V.el .fz 3 (ev (x::a')) 0 0),(24,V.el .fz 3 (ev (x::a')) 0 1),(25,vi x.2.1),(26,fzv (y::b')),(27,V.el .fz 3 (ev (y::b')) 0 0),(28,V.el .fz 3 (ev (y::b')) 0 1),(29,vi y.2.1),(30,vi (aO x.2.1 y.2.1).1),(31,.agg [vs x.1,vi (aO x.2.1 y.2.1).1,vi 0]),(32,.sl (.own (n+1+c) 119) 3 [.agg [vs x.1,vi (aO x.2.1 y.2.1).1,vi 0]])]) rfl hnd (hBi S 4 (by decide)) (hNi S 4 (by decide))
       ·simp (disch:=first|exact dqz|fail) only[pgz,simprocAttr,hS,hel1,hel2,hg1,hg2,aC,aQ]
        exact bI 5 (T:=[(16,.sl (.own n 119) 3 (ev out)),(17,fzv (x::a')),(18,V.el .fz 3 (ev (x::a')) 0 0),(19,V.el .fz 3 (ev (x::a')) 0 0),(20,vs x.1),(21,.ref 3 0),(22,fzv (x::a')),(23,V.el .fz 3 (ev (x::a')) 0 0),(24,V.el .fz 3 (ev (x::a')) 0 1),(25,vi x.2.1),(26,fzv (y::b')),(27,V.el .fz 3 (ev (y::b')) 0 0),(28,V.el .fz 3 (ev (y::b')) 0 1),(29,vi y.2.1),(30,vi (aO x.2.1 y.2.1).1),(31,.agg [vs x.1,vi (aO x.2.1 y.2.1).1,vi 0]),(32,.sl (.own (n+1+c) 119) 3 [.agg [vs x.1,vi (aO x.2.1 y.2.1).1,vi 0]])]) rfl hnd (hBi S 5 (by decide)) (hNi S 5 (by decide))
       ·simp (disch:=first|exact dqz|fail) only[pgz,simprocAttr,hS,hel1,hel2,hg1,hg2,aC,aQ]
        exact bI 6 (T:=[(16,.sl (.own n 119) 3 (ev out)),(17,fzv (x::a')),(18,V.el .fz 3 (ev (x::a')) 0 0),(19,V.el .fz 3 (ev (x::a')) 0 0),(20,vs x.1),(21,.ref 3 0),(22,fzv (x::a')),(23,V.el .fz 3 (ev (x::a')) 0 0),(24,V.el .fz 3 (ev (x::a')) 0 1),(25,vi x.2.1),(26,fzv (y::b')),(27,V.el .fz 3 (ev (y::b')) 0 0),(28,V.el .fz 3 (ev (y::b')) 0 1),(29,vi y.2.1),(30,vi (aO x.2.1 y.2.1).1),(31,.agg [vs x.1,vi (aO x.2.1 y.2.1).1,vi 0]),(32,.sl (.own (n+1+c) 119) 3 [.agg [vs x.1,vi (aO x.2.1 y.2.1).1,vi 0]])]) rfl hnd (hBi S 6 (by decide)) (hNi S 6 (by decide))
       ·have s6:=he 6 (by decide)
        simp (disch:=first|exact dqz|fail) only[pgz,simprocAttr,hS,hel1,hel2,hg1,hg2,aC,aQ,s6]
        exact bI 7 (T:=[(16,.sl (.own n 119) 3 (ev out)),(17,fzv (x::a')),(18,V.el .fz 3 (ev (x::a')) 0 0),(19,V.el .fz 3 (ev (x::a')) 0 0),(20,vs x.1),(21,.ref 3 0),(22,fzv (x::a')),(23,V.el .fz 3 (ev (x::a')) 0 0),(24,V.el .fz 3 (ev (x::a')) 0 1),(25,vi x.2.1),(26,fzv (y::b')),(27,V.el .fz 3 (ev (y::b')) 0 0),(28,V.el .fz 3 (ev (y::b')) 0 1),(29,vi y.2.1),(30,vi (aO x.2.1 y.2.1).1),(31,.agg [vs x.1,vi (aO x.2.1 y.2.1).1,vi 0]),(32,.sl (.own (n+1+c) 119) 3 [.agg [vs x.1,vi (aO x.2.1 y.2.1).1,vi 0]])]) rfl hnd (hBi S 7 (by decide)) (hNi S 7 (by decide))
       ·have s7:=he 7 (by decide)
        simp (disch:=first|exact dqz|fail) only[pgz,simprocAttr,hS,hel1,hel2,hg1,hg2,aC,aQ,s7]
        exact bI 8 (T:=[(16,.sl (.own n 119) 3 (ev out)),(17,fzv (x::a')),(18,V.el .fz 3 (ev (x::a')) 0 0),(19,V.el .fz 3 (ev (x::a')) 0 0),(20,vs x.1),(21,.ref 3 0),(22,fzv (x::a')),(23,V.el .fz 3 (ev (x::a')) 0 0),(24,V.el .fz 3 (ev (x::a')) 0 1),(25,vi x.2.1),(26,fzv (y::b')),(27,V.el .fz 3 (ev (y::b')) 0 0),(28,V.el .fz 3 (ev (y::b')) 0 1),(29,vi y.2.1),(30,vi (aO x.2.1 y.2.1).1),(31,.agg [vs x.1,vi (aO x.2.1 y.2.1).1,vi 0]),(32,.sl (.own (n+1+c) 119) 3 [.agg [vs x.1,vi (aO x.2.1 y.2.1).1,vi 0]])]) rfl hnd (hBi S 8 (by decide)) (hNi S 8 (by decide))
       ·have s8:=he 8 (by decide)
        simp (disch:=first|exact dqz|fail) only[pgz,simprocAttr,hS,hel1,hel2,hg1,hg2,aC,aQ,s8]
        exact bI 9 (T:=[(16,.sl (.own n 119) 3 (ev out)),(17,fzv (x::a')),(18,V.el .fz 3 (ev (x::a')) 0 0),(19,V.el .fz 3 (ev (x::a')) 0 0),(20,vs x.1),(21,.ref 3 0),(22,fzv (x::a')),(23,V.el .fz 3 (ev (x::a')) 0 0),(24,V.el .fz 3 (ev (x::a')) 0 1),(25,vi x.2.1),(26,fzv (y::b')),(27,V.el .fz 3 (ev (y::b')) 0 0),(28,V.el .fz 3 (ev (y::b')) 0 1),(29,vi y.2.1),(30,vi (aO x.2.1 y.2.1).1),(31,.agg [vs x.1,vi (aO x.2.1 y.2.1).1,vi 0]),(32,.sl (.own (n+1+c) 119) 3 [.agg [vs x.1,vi (aO x.2.1 y.2.1).1,vi 0]])]) rfl hnd (hBi S 9 (by decide)) (hNi S 9 (by decide))
       ·simp (disch:=first|exact dqz|fail) only[pgz,simprocAttr,hS,hel1,hel2,hg1,hg2,aC,aQ]
        exact bI 10 (T:=[(16,.sl (.own n 119) 3 (ev out)),(17,fzv (x::a')),(18,V.el .fz 3 (ev (x::a')) 0 0),(19,V.el .fz 3 (ev (x::a')) 0 0),(20,vs x.1),(21,.ref 3 0),(22,fzv (x::a')),(23,V.el .fz 3 (ev (x::a')) 0 0),(24,V.el .fz 3 (ev (x::a')) 0 1),(25,vi x.2.1),(26,fzv (y::b')),(27,V.el .fz 3 (ev (y::b')) 0 0),(28,V.el .fz 3 (ev (y::b')) 0 1),(29,vi y.2.1),(30,vi (aO x.2.1 y.2.1).1),(31,.agg [vs x.1,vi (aO x.2.1 y.2.1).1,vi 0]),(32,.sl (.own (n+1+c) 119) 3 [.agg [vs x.1,vi (aO x.2.1 y.2.1).1,vi 0]])]) rfl hnd (hBi S 10 (by decide)) (hNi S 10 (by decide))
       ·have s10:=he 10 (by decide)
        simp (disch:=first|exact dqz|fail) only[pgz,simprocAttr,hS,hel1,hel2,hg1,hg2,aC,aQ,s10]
        exact bI 11 (T:=[(16,.sl (.own n 119) 3 (ev out)),(17,fzv (x::a')),(18,V.el .fz 3 (ev (x::a')) 0 0),(19,V.el .fz 3 (ev (x::a')) 0 0),(20,vs x.1),(21,.ref 3 0),(22,fzv (x::a')),(23,V.el .fz 3 (ev (x::a')) 0 0),(24,V.el .fz 3 (ev (x::a')) 0 1),(25,vi x.2.1),(26,fzv (y::b')),(27,V.el .fz 3 (ev (y::b')) 0 0),(28,V.el .fz 3 (ev (y::b')) 0 1),(29,vi y.2.1),(30,vi (aO x.2.1 y.2.1).1),(31,.agg [vs x.1,vi (aO x.2.1 y.2.1).1,vi 0]),(32,.sl (.own (n+1+c) 119) 3 [.agg [vs x.1,vi (aO x.2.1 y.2.1).1,vi 0]])]) rfl hnd (hBi S 11 (by decide)) (hNi S 11 (by decide))
       ·have s11:=he 11 (by decide)
        simp (disch:=first|exact dqz|fail) only[pgz,simprocAttr,hS,hel1,hel2,hg1,hg2,aC,aQ,s11]
        exact bI 12 (T:=[(16,.sl (.own n 119) 3 (ev out)),(17,fzv (x::a')),(18,V.el .fz 3 (ev (x::a')) 0 0),(19,V.el .fz 3 (ev (x::a')) 0 0),(20,vs x.1),(21,.ref 3 0),(22,fzv (x::a')),(23,V.el .fz 3 (ev (x::a')) 0 0),(24,V.el .fz 3 (ev (x::a')) 0 1),(25,vi x.2.1),(26,fzv (y::b')),(27,V.el .fz 3 (ev (y::b')) 0 0),(28,V.el .fz 3 (ev (y::b')) 0 1),(29,vi y.2.1),(30,vi (aO x.2.1 y.2.1).1),(31,.agg [vs x.1,vi (aO x.2.1 y.2.1).1,vi 0]),(32,.sl (.own (n+1+c) 119) 3 [.agg [vs x.1,vi (aO x.2.1 y.2.1).1,vi 0]])]) rfl hnd (hBi S 12 (by decide)) (hNi S 12 (by decide))
       ·have s12:=he 12 (by decide)
        simp (disch:=first|exact dqz|fail) only[pgz,simprocAttr,hS,hel1,hel2,hg1,hg2,aC,aQ,s12]
        exact bI 13 (T:=[(16,.sl (.own n 119) 3 (ev out)),(17,fzv (x::a')),(18,V.el .fz 3 (ev (x::a')) 0 0),(19,V.el .fz 3 (ev (x::a')) 0 0),(20,vs x.1),(21,.ref 3 0),(22,fzv (x::a')),(23,V.el .fz 3 (ev (x::a')) 0 0),(24,V.el .fz 3 (ev (x::a')) 0 1),(25,vi x.2.1),(26,fzv (y::b')),(27,V.el .fz 3 (ev (y::b')) 0 0),(28,V.el .fz 3 (ev (y::b')) 0 1),(29,vi y.2.1),(30,vi (aO x.2.1 y.2.1).1),(31,.agg [vs x.1,vi (aO x.2.1 y.2.1).1,vi 0]),(32,.sl (.own (n+1+c) 119) 3 [.agg [vs x.1,vi (aO x.2.1 y.2.1).1,vi 0]])]) rfl hnd (hBi S 13 (by decide)) (hNi S 13 (by decide))
       ·have s5:=he 5 (by decide)
        have s9:=he 9 (by decide)
        have s13:=he 13 (by decide)
        have e0:BX S=B0:=by rw[hBX];simp only[hS];rfl
        have e1:BX (ins S 14)=B1:=by rw[hBX];simp only[Ad];rfl
        simp (disch:=first|exact dqz|fail) only[pgz,simprocAttr,hS,e0,aC,aQ,s5,s9,s13]
        refine cZ (hz1 _ _ _) ?_ (by simp only[List.map_cons,List.map_nil,pgo,simprocAttr,aC,aQ,s5,s9,s13])
        exact bI 14 (T:=[(16,.sl (.own n 119) 3 (ev out)),(17,fzv (x::a')),(18,V.el .fz 3 (ev (x::a')) 0 0),(19,V.el .fz 3 (ev (x::a')) 0 0),(20,vs x.1),(21,.ref 3 0),(22,fzv (x::a')),(23,V.el .fz 3 (ev (x::a')) 0 0),(24,V.el .fz 3 (ev (x::a')) 0 1),(25,vi x.2.1),(26,fzv (y::b')),(27,V.el .fz 3 (ev (y::b')) 0 0),(28,V.el .fz 3 (ev (y::b')) 0 1),(29,vi y.2.1),(30,vi (aO x.2.1 y.2.1).1),(31,.agg [vs x.1,vi (aO x.2.1 y.2.1).1,vi 0]),(32,.sl (.own (n+1+c) 119) 3 [.agg [vs x.1,vi (aO x.2.1 y.2.1).1,vi 0]])]) rfl hnd (by rw[e1,hB1]) (hNi S 14 (by decide))
       ·have s4:=he 4 (by decide)
        have s14:=he 14 (by decide)
        simp (disch:=first|exact dqz|fail) only[pgz,simprocAttr,hS,hel1,hel2,hg1,hg2,aC,aQ,s4,s14]
        exact bI 15 (T:=[(16,.sl (.own n 119) 3 (ev out)),(17,fzv (x::a')),(18,V.el .fz 3 (ev (x::a')) 0 0),(19,V.el .fz 3 (ev (x::a')) 0 0),(20,vs x.1),(21,.ref 3 0),(22,fzv (x::a')),(23,V.el .fz 3 (ev (x::a')) 0 0),(24,V.el .fz 3 (ev (x::a')) 0 1),(25,vi x.2.1),(26,fzv (y::b')),(27,V.el .fz 3 (ev (y::b')) 0 0),(28,V.el .fz 3 (ev (y::b')) 0 1),(29,vi y.2.1),(30,vi (aO x.2.1 y.2.1).1),(31,.agg [vs x.1,vi (aO x.2.1 y.2.1).1,vi 0]),(32,.sl (.own (n+1+c) 119) 3 [.agg [vs x.1,vi (aO x.2.1 y.2.1).1,vi 0]])]) rfl hnd (hBi S 15 (by decide)) (hNi S 15 (by decide))
       ·have s15:=he 15 (by decide)
        have n0:NI S=n+1+c:=by rw[hNI];simp only[hS];rfl
        have n1:NI (ins S 16)=n+1+c+1:=by rw[hNI];simp only[Ad];rfl
        simp (disch:=first|exact dqz|fail) only[pgz,simprocAttr,hS,n0,aC,aQ,s15]
        exact bI 16 (T:=[(16,.sl (.own n 119) 3 (ev out)),(17,fzv (x::a')),(18,V.el .fz 3 (ev (x::a')) 0 0),(19,V.el .fz 3 (ev (x::a')) 0 0),(20,vs x.1),(21,.ref 3 0),(22,fzv (x::a')),(23,V.el .fz 3 (ev (x::a')) 0 0),(24,V.el .fz 3 (ev (x::a')) 0 1),(25,vi x.2.1),(26,fzv (y::b')),(27,V.el .fz 3 (ev (y::b')) 0 0),(28,V.el .fz 3 (ev (y::b')) 0 1),(29,vi y.2.1),(30,vi (aO x.2.1 y.2.1).1),(31,.agg [vs x.1,vi (aO x.2.1 y.2.1).1,vi 0]),(32,.sl (.own (n+1+c) 119) 3 [.agg [vs x.1,vi (aO x.2.1 y.2.1).1,vi 0]])]) rfl hnd (hBi S 16 (by decide)) (by rw[n1])
      ·intro S hall
       have s0:=hall 0 (by decide) (by decide)
       have s1:=hall 1 (by decide) (by decide)
       have s2:=hall 2 (by decide) (by decide)
       have s3:=hall 3 (by decide) (by decide)
       have s4:=hall 4 (by decide) (by decide)
       have s5:=hall 5 (by decide) (by decide)
       have s6:=hall 6 (by decide) (by decide)
       have s7:=hall 7 (by decide) (by decide)
       have s8:=hall 8 (by decide) (by decide)
       have s9:=hall 9 (by decide) (by decide)
       have s10:=hall 10 (by decide) (by decide)
       have s11:=hall 11 (by decide) (by decide)
       have s12:=hall 12 (by decide) (by decide)
       have s13:=hall 13 (by decide) (by decide)
       have s14:=hall 14 (by decide) (by decide)
       have s15:=hall 15 (by decide) (by decide)
       have s16:=hall 16 (by decide) (by decide)
       have e0:BX S=B1:=by rw[hBX];simp only[s14];rfl
       have n0:NI S=n+1+c+1:=by rw[hNI];simp only[s16];rfl
       simp only[List.drop_succ_cons,List.drop_zero,List.map_cons,List.map_nil]
       rw[e0,n0]
       have b13:B1 3=some (36,[vi z,vi t,vi lo,nls,vb (fl||(aO x.2.1 y.2.1).2)]):=by rw[hB1];exact lF _ _ _
       (repeat' (first|(simp (disch:=first|exact dqz|fail) only[pgz,simprocAttr,s0,s1,s2,s3,s4,s5,s6,s7,s8,s9,s10,s11,s12,s13,s14,s15,s16,aC,aQ,pgE,pgj,iC,hoe,hel1,hel2,hr1,hr2,hsn,hpp,jK,gU])|(refine tE ?_ ?_<;>intro hc)|(with_reducible refine bH ?_)|(refine kw _ _ _ _ _ ?_)|(with_reducible refine cK ?_)))
       refine lY (k,a',b',out++[(x.1,(aO x.2.1 y.2.1).1,0)],fl||(aO x.2.1 y.2.1).2,c+1) ⟨⟨by simp only[List.length_cons,List.length_nil] at i1 ⊢;omega,by simp only;omega⟩, ?_, ?_,⟨fun z hz=>i4 z (List.mem_cons_of_mem _ hz),fun z hz=>i5 z (List.mem_cons_of_mem _ hz)⟩,⟨fun z hz=>i6 z (List.mem_cons_of_mem _ hz),fun z hz=>i7 z (List.mem_cons_of_mem _ hz)⟩,by simp only[List.length_append,List.length_cons,List.length_nil];omega⟩ (by show k<k+1;omega) (kP (EnvIs.w ?_) (Zj (F:=B1) b13 (fun c h=>by rw[hB1,TY _ _ _ _ h,hB0,TY _ _ _ _ h]) rfl) (by simp only;(first|omega|(split<;>omega))))
       ·simp only
        rw[←i2,ej,List.append_assoc];rfl
       ·simp only
        rw[←i3,ef,Bool.or_assoc]
       ·exact eE
     ·have ej:jn (k+1) (x::a') (y::b')=y::jn k (x::a') b':=by
       show (if kl x.1 y.1=true then _ else if kl y.1 x.1=true then _ else _)=_
       rw[q1,q2];rfl
      have ef:jf (k+1) (x::a') (y::b')=jf k (x::a') b':=by
       show (if kl x.1 y.1=true then _ else if kl y.1 x.1=true then _ else _)=_
       rw[q1,q2];rfl
      (repeat' (first|(simp (disch:=first|exact dqz|fail) only[pgz,simprocAttr,pgE,pgj,iC,hz0,hoe,hel1,hel2,hT1,hT2,hT3,hT4,hg1,hg2,hr2,hsn2,hpp,kH,q1,q2])|(refine tE ?_ ?_<;>intro hc)|(with_reducible refine bH ?_)|(refine kw _ _ _ _ _ ?_)|(with_reducible refine cK ?_)))
      refine lY (k,x::a',b',out++[y],fl,c+1) ⟨⟨by simp only[List.length_cons,List.length_nil] at i1 ⊢;omega,by simp only;omega⟩, ?_, ?_,⟨i4,fun z hz=>i5 z (List.mem_cons_of_mem _ hz)⟩,⟨i6,fun z hz=>i7 z (List.mem_cons_of_mem _ hz)⟩,by simp only[List.length_append,List.length_cons,List.length_nil];omega⟩ (by show k<k+1;omega) (kP (EnvIs.w ?_) (Zj (lF _ _ _) (fun c h=>TY _ _ _ _ h) rfl) (by simp only;(first|omega|(split<;>omega))))
      ·simp only
       rw[←i2,ej,List.append_assoc];rfl
      ·simp only
       rw[←i3,ef]
      ·exact eE
    ·have ej:jn (k+1) (x::a') (y::b')=x::jn k a' (y::b'):=by
      show (if kl x.1 y.1=true then _ else if kl y.1 x.1=true then _ else _)=_
      rw[q1];rfl
     have ef:jf (k+1) (x::a') (y::b')=jf k a' (y::b'):=by
      show (if kl x.1 y.1=true then _ else if kl y.1 x.1=true then _ else _)=_
      rw[q1];rfl
     (repeat' (first|(simp (disch:=first|exact dqz|fail) only[pgz,simprocAttr,pgE,pgj,iC,hz0,hoe,hel1,hel2,hT1,hT2,hT3,hT4,hg1,hg2,hr1,hsn1,hpp,kH,q1])|(refine tE ?_ ?_<;>intro hc)|(with_reducible refine bH ?_)|(refine kw _ _ _ _ _ ?_)|(with_reducible refine cK ?_)))
     refine lY (k,a',y::b',out++[x],fl,c+1) ⟨⟨by simp only[List.length_cons,List.length_nil] at i1 ⊢;omega,by simp only;omega⟩, ?_, ?_,⟨fun z hz=>i4 z (List.mem_cons_of_mem _ hz),i5⟩,⟨fun z hz=>i6 z (List.mem_cons_of_mem _ hz),i7⟩,by simp only[List.length_append,List.length_cons,List.length_nil];omega⟩ (by show k<k+1;omega) (kP (EnvIs.w ?_) (Zj (lF _ _ _) (fun c h=>TY _ _ _ _ h) rfl) (by simp only;(first|omega|(split<;>omega))))
     ·simp only
      rw[←i2,ej,List.append_assoc];rfl
     ·simp only
      rw[←i3,ef]
     ·exact eE
end Go.Proofs.YtiohdbjggmmjcaaGreat
