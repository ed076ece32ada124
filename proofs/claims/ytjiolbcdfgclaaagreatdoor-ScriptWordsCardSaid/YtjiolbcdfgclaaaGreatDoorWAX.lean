/-
  Texts of this claim, merged; own names are short.
-/
import Derived.Test.YtjiolbcdfgclaaaGreatDoorWAW
set_option linter.unusedVariables false
set_option linter.unusedSimpArgs false
set_option linter.unusedSectionVars false
set_option linter.defProp false
set_option maxRecDepth 100000
set_option maxHeartbeats 8000000
section
namespace Go.Proofs.YtjiolbcdfgclaaaGreatDoor
open Go Go.Pg
variable {e:Nat→V} {bx:Nat→Option (TypeId × List V)} {n:Nat} {h:Nat→V}
theorem fW(L:List (List Nat))(b k:Nat){w:List Nat}{l:List (List Nat)}{tg:Tag}(hj:wix L w=k)(hb:bx b=some (108,rdC (w::l) false):=by exact hQ)(hl:l.length≤100000:=by exact hT)(ho:oct w:=by assumption)(hLo:∀x∈L,oct x:=by first|exact Pq|exact aj0|exact ajE)(hLl:1≤L.length∧L.length≤1000:=by decide)(hk:1≤k:=by decide) :
  Gxz 92 [.ref b 0,.sl tg 1 (sv L)] ⟨e,bx,n,h⟩ ⟨e,upd bx b (some (108,rdC l false)),n,h⟩ (vi k):=fV L b k (l:=w::l) hj hb (by simp only[List.length_cons];omega) ho hLo hLl hk
theorem fW0(L:List (List Nat))(b:Nat){w:List Nat}{l:List (List Nat)}{tg:Tag}(hj:wix L w=0)(hb:bx b=some (108,rdC (w::l) false):=by exact hQ)(hl:l.length≤100000:=by exact hT)(ho:oct w:=by assumption)(hLo:∀x∈L,oct x:=by first|exact Pq|exact aj0|exact ajE)(hLl:1≤L.length∧L.length≤1000:=by decide) :
  Gxz 92 [.ref b 0,.sl tg 1 (sv L)] ⟨e,bx,n,h⟩ ⟨e,upd bx b (some (108,rdC l true)),n,h⟩ (vi 0):=fV0 L b (l:=w::l) hj hb (by simp only[List.length_cons];omega) ho hLo hLl
theorem apl(b:Nat){w:List Nat}{l:List (List Nat)}(hj:wix aH w=0)(hb:bx b=some (108,rdC (w::l) false):=by exact hQ)(how:oct w:=by assumption)(hbn:b<n:=by omega)(hl:l.length≤100000:=by exact hT)(ho:∀x∈l,oct x:=by first|assumption|exact tlo (by assumption)|exact tlo (tlo (by assumption)))(hw:∀x∈l,x.length≤1000000:=by first|assumption|exact tlo (by assumption)|exact tlo (tlo (by assumption))):Gxz 54 [.ref b 0] ⟨e,bx,n,h⟩ ⟨e,upd bx b (some (108,rdC l true)),n+10000000,h⟩ (.agg (oC (oZ 0))):=by
 exact gG Tryz.func54 Tryz.results54 rfl (by refine wP (fg hb hbn) aN ?_;refine cZ (fW0 aH b hj) ?_;exact zEz (fg hb hbn) trivial)
theorem apm(b:Nat){w:List Nat}{l:List (List Nat)}(hj:wix aH w=1)(hb:bx b=some (108,rdC (w::l) false):=by exact hQ)(how:oct w:=by assumption)(hbn:b<n:=by omega)(hl:l.length≤100000:=by exact hT)(ho:∀x∈l,oct x:=by first|assumption|exact tlo (by assumption)|exact tlo (tlo (by assumption)))(hw:∀x∈l,x.length≤1000000:=by first|assumption|exact tlo (by assumption)|exact tlo (tlo (by assumption))):Gxz 54 [.ref b 0] ⟨e,bx,n,h⟩ ⟨e,upd bx b (some (108,rdC (pR (pK l.tail) l.tail) (pBq (pK l.tail) l.tail l.isEmpty))),n+10000000,h⟩ (.agg (oC { oZ 1 with name:=hdW l,pk:=(pK l.tail:Nat),pz:=pZ (pK l.tail) l.tail,pd:=pD (pK l.tail) l.tail,ps:=pSq sdP (pK l.tail) l.tail })):=by
 exact gG Tryz.func54 Tryz.results54 rfl (by refine wP (fg hb hbn) aN ?_;refine cZ (fW aH b 1 hj) ?_;exact zEz (fg hb hbn) @aqZ)
theorem apo(b:Nat){w:List Nat}{l:List (List Nat)}(hj:wix aH w=2)(hb:bx b=some (108,rdC (w::l) false):=by exact hQ)(how:oct w:=by assumption)(hbn:b<n:=by omega)(hl:l.length≤100000:=by exact hT)(ho:∀x∈l,oct x:=by first|assumption|exact tlo (by assumption)|exact tlo (tlo (by assumption)))(hw:∀x∈l,x.length≤1000000:=by first|assumption|exact tlo (by assumption)|exact tlo (tlo (by assumption))):Gxz 54 [.ref b 0] ⟨e,bx,n,h⟩ ⟨e,upd bx b (some (108,rdC l.tail l.isEmpty)),n+10000000,h⟩ (.agg (oC { oZ 2 with name:=hdW l })):=by
 exact gG Tryz.func54 Tryz.results54 rfl (by refine wP (fg hb hbn) aN ?_;refine cZ (fW aH b 2 hj) ?_;exact zEz (fg hb hbn) trivial)
theorem apq(b:Nat){w:List Nat}{l:List (List Nat)}(hj:wix aH w=3)(hb:bx b=some (108,rdC (w::l) false):=by exact hQ)(how:oct w:=by assumption)(hbn:b<n:=by omega)(hl:l.length≤100000:=by exact hT)(ho:∀x∈l,oct x:=by first|assumption|exact tlo (by assumption)|exact tlo (tlo (by assumption)))(hw:∀x∈l,x.length≤1000000:=by first|assumption|exact tlo (by assumption)|exact tlo (tlo (by assumption))):Gxz 54 [.ref b 0] ⟨e,bx,n,h⟩ ⟨e,upd bx b (some (108,rdC l.tail.tail (l.isEmpty||l.tail.isEmpty))),n+10000000,h⟩ (.agg (oC { oZ 3 with name:=hdW l,other:=hdW l.tail })):=by
 exact gG Tryz.func54 Tryz.results54 rfl (by refine wP (fg hb hbn) aN ?_;refine cZ (fW aH b 3 hj) ?_;exact zEz (fg hb hbn) trivial)
theorem apr(b:Nat){w:List Nat}{l:List (List Nat)}(hj:wix aH w=4)(hb:bx b=some (108,rdC (w::l) false):=by exact hQ)(how:oct w:=by assumption)(hbn:b<n:=by omega)(hl:l.length≤100000:=by exact hT)(ho:∀x∈l,oct x:=by first|assumption|exact tlo (by assumption)|exact tlo (tlo (by assumption)))(hw:∀x∈l,x.length≤1000000:=by first|assumption|exact tlo (by assumption)|exact tlo (tlo (by assumption))):Gxz 54 [.ref b 0] ⟨e,bx,n,h⟩ ⟨e,upd bx b (some (108,rdC l false)),n+10000000,h⟩ (.agg (oC (oZ 4))):=by
 exact gG Tryz.func54 Tryz.results54 rfl (by refine wP (fg hb hbn) aN ?_;refine cZ (fW aH b 4 hj) ?_;exact zEz (fg hb hbn) trivial)
theorem agB(b:Nat){w:List Nat}{l:List (List Nat)}(hj:wix aH w=17)(hb:bx b=some (108,rdC (w::l) false):=by exact hQ)(how:oct w:=by assumption)(hbn:b<n:=by omega)(hl:l.length≤100000:=by exact hT)(ho:∀x∈l,oct x:=by first|assumption|exact tlo (by assumption)|exact tlo (tlo (by assumption)))(hw:∀x∈l,x.length≤1000000:=by first|assumption|exact tlo (by assumption)|exact tlo (tlo (by assumption))):Gxz 54 [.ref b 0] ⟨e,bx,n,h⟩ ⟨e,upd bx b (some (108,rdC l false)),n+10000000,h⟩ (.agg (oC (oZ 17))):=by
 exact gG Tryz.func54 Tryz.results54 rfl (by refine wP (fg hb hbn) aN ?_;refine cZ (fW aH b 17 hj) ?_;exact zEz (fg hb hbn) trivial)
theorem aps(b:Nat){w:List Nat}{l:List (List Nat)}(hj:wix aH w=5)(hb:bx b=some (108,rdC (w::l) false):=by exact hQ)(how:oct w:=by assumption)(hbn:b<n:=by omega)(hl:l.length≤100000:=by exact hT)(ho:∀x∈l,oct x:=by first|assumption|exact tlo (by assumption)|exact tlo (tlo (by assumption)))(hw:∀x∈l,x.length≤1000000:=by first|assumption|exact tlo (by assumption)|exact tlo (tlo (by assumption))):Gxz 54 [.ref b 0] ⟨e,bx,n,h⟩ ⟨e,upd bx b (some (108,rdC (qR (qK l.tail) l.tail) (qB (qK l.tail) l.tail l.isEmpty))),n+10000000,h⟩ (.agg (oC { oZ 5 with name:=hdW l,qk:=(qK l.tail:Nat),qkey:=Ql (qK l.tail) l.tail,qc:=qC (qK l.tail) l.tail,qn:=qN (qK l.tail) l.tail,qd:=qD (qK l.tail) l.tail })):=by
 exact gG Tryz.func54 Tryz.results54 rfl (by refine wP (fg hb hbn) aN ?_;refine cZ (fW aH b 5 hj) ?_;exact zEz (fg hb hbn) @aqy)
theorem apt(b:Nat){w:List Nat}{l:List (List Nat)}(hj:wix aH w=7)(hb:bx b=some (108,rdC (w::l) false):=by exact hQ)(how:oct w:=by assumption)(hbn:b<n:=by omega)(hl:l.length≤100000:=by exact hT)(ho:∀x∈l,oct x:=by first|assumption|exact tlo (by assumption)|exact tlo (tlo (by assumption)))(hw:∀x∈l,x.length≤1000000:=by first|assumption|exact tlo (by assumption)|exact tlo (tlo (by assumption))):Gxz 54 [.ref b 0] ⟨e,bx,n,h⟩ ⟨e,upd bx b (some (108,rdC l.tail.tail.tail ((l.isEmpty||l.tail.isEmpty)||l.tail.tail.isEmpty||oH (hdW l.tail.tail)))),n+10000000,h⟩ (.agg (opC { oZ 7 with name:=hdW l,other:=hdW l.tail } nls nls (byR (n+3) (hdW l.tail.tail)) nls)):=by
 exact gG Tryz.func54 Tryz.results54 rfl (by refine wP (fg hb hbn) aN ?_;refine cZ (fW aH b 7 hj) ?_;exact zEz (fg hb hbn) trivial)
theorem apu(b:Nat){w:List Nat}{l:List (List Nat)}(hj:wix aH w=8)(hb:bx b=some (108,rdC (w::l) false):=by exact hQ)(how:oct w:=by assumption)(hbn:b<n:=by omega)(hl:l.length≤100000:=by exact hT)(ho:∀x∈l,oct x:=by first|assumption|exact tlo (by assumption)|exact tlo (tlo (by assumption)))(hw:∀x∈l,x.length≤1000000:=by first|assumption|exact tlo (by assumption)|exact tlo (tlo (by assumption))):Gxz 54 [.ref b 0] ⟨e,bx,n,h⟩ ⟨e,upd bx b (some (108,rdC l.tail.tail.tail.tail.tail ((((l.isEmpty||l.tail.isEmpty)||l.tail.tail.isEmpty||oH (hdW l.tail.tail))||iE l.tail.tail.tail)||iE l.tail.tail.tail.tail))),n+10000000,h⟩ (.agg (opC { oZ 8 with name:=hdW l,other:=hdW l.tail,exp:=(aZ (hdW l.tail.tail.tail)).1,src:=(aZ (hdW l.tail.tail.tail.tail)).1 } nls nls (byR (n+3) (hdW l.tail.tail)) nls)):=by
 exact gG Tryz.func54 Tryz.results54 rfl (by refine wP (fg hb hbn) aN ?_;refine cZ (fW aH b 8 hj) ?_;exact zEz (fg hb hbn) trivial)
theorem apv(b:Nat){w:List Nat}{l:List (List Nat)}(hj:wix aH w=9)(hb:bx b=some (108,rdC (w::l) false):=by exact hQ)(how:oct w:=by assumption)(hbn:b<n:=by omega)(hl:l.length≤100000:=by exact hT)(ho:∀x∈l,oct x:=by first|assumption|exact tlo (by assumption)|exact tlo (tlo (by assumption)))(hw:∀x∈l,x.length≤1000000:=by first|assumption|exact tlo (by assumption)|exact tlo (tlo (by assumption))):Gxz 54 [.ref b 0] ⟨e,bx,n,h⟩ ⟨e,upd bx b (some (108,[nls,vb false])),n+10000000,h⟩ (.agg (opC (oZ 9) (.sl (.own (n+3) 9) 1 (sv l)) nls nls nls)):=by
 have q1:=au l
 exact gG Tryz.func54 Tryz.results54 rfl (by refine wP (fg hb hbn) aN ?_;refine cZ (fW aH b 9 hj) ?_;exact zEz (fg hb hbn) trivial)
theorem agC(b:Nat){w:List Nat}{l:List (List Nat)}(hj:wix aH w=11)(hb:bx b=some (108,rdC (w::l) false):=by exact hQ)(how:oct w:=by assumption)(hbn:b<n:=by omega)(hl:l.length≤100000:=by exact hT)(ho:∀x∈l,oct x:=by first|assumption|exact tlo (by assumption)|exact tlo (tlo (by assumption)))(hw:∀x∈l,x.length≤1000000:=by first|assumption|exact tlo (by assumption)|exact tlo (tlo (by assumption))):Gxz 54 [.ref b 0] ⟨e,bx,n,h⟩ ⟨e,upd bx b (some (108,rdC l.tail (iE l))),n+10000000,h⟩ (.agg (oC { oZ 11 with hnd:=(aZ (hdW l)).1 })):=by
 exact gG Tryz.func54 Tryz.results54 rfl (by refine wP (fg hb hbn) aN ?_;refine cZ (fW aH b 11 hj) ?_;exact zEz (fg hb hbn) @agx)
theorem agD(b:Nat){w:List Nat}{l:List (List Nat)}(hj:wix aH w=12)(hb:bx b=some (108,rdC (w::l) false):=by exact hQ)(how:oct w:=by assumption)(hbn:b<n:=by omega)(hl:l.length≤100000:=by exact hT)(ho:∀x∈l,oct x:=by first|assumption|exact tlo (by assumption)|exact tlo (tlo (by assumption)))(hw:∀x∈l,x.length≤1000000:=by first|assumption|exact tlo (by assumption)|exact tlo (tlo (by assumption))):Gxz 54 [.ref b 0] ⟨e,bx,n,h⟩ ⟨e,upd bx b (some (108,rdC l.tail.tail (iE l||iE l.tail))),n+10000000,h⟩ (.agg (oC { oZ 12 with hnd:=(aZ (hdW l)).1,idx:=(aZ (hdW l.tail)).1 })):=by
 exact gG Tryz.func54 Tryz.results54 rfl (by refine wP (fg hb hbn) aN ?_;refine cZ (fW aH b 12 hj) ?_;exact zEz (fg hb hbn) @agy)
theorem agE(b:Nat){w:List Nat}{l:List (List Nat)}(hj:wix aH w=15)(hb:bx b=some (108,rdC (w::l) false):=by exact hQ)(how:oct w:=by assumption)(hbn:b<n:=by omega)(hl:l.length≤100000:=by exact hT)(ho:∀x∈l,oct x:=by first|assumption|exact tlo (by assumption)|exact tlo (tlo (by assumption)))(hw:∀x∈l,x.length≤1000000:=by first|assumption|exact tlo (by assumption)|exact tlo (tlo (by assumption))):Gxz 54 [.ref b 0] ⟨e,bx,n,h⟩ ⟨e,upd bx b (some (108,rdC l.tail.tail (iE l||iE l.tail))),n+10000000,h⟩ (.agg (oC { oZ 15 with hnd:=(aZ (hdW l)).1,idx:=(aZ (hdW l.tail)).1 })):=by
 exact gG Tryz.func54 Tryz.results54 rfl (by refine wP (fg hb hbn) aN ?_;refine cZ (fW aH b 15 hj) ?_;exact zEz (fg hb hbn) @agz)
theorem agF(b:Nat){w:List Nat}{l:List (List Nat)}(hj:wix aH w=10)(hb:bx b=some (108,rdC (w::l) false):=by exact hQ)(how:oct w:=by assumption)(hbn:b<n:=by omega)(hl:l.length≤100000:=by exact hT)(ho:∀x∈l,oct x:=by first|assumption|exact tlo (by assumption)|exact tlo (tlo (by assumption)))(hw:∀x∈l,x.length≤1000000:=by first|assumption|exact tlo (by assumption)|exact tlo (tlo (by assumption))):Gxz 54 [.ref b 0] ⟨e,bx,n,h⟩ ⟨e,upd bx b (some (108,rdC (qR (qK l.tail.tail) l.tail.tail) (qB (qK l.tail.tail) l.tail.tail (iE l||iE l.tail)))),n+10000000,h⟩ (.agg (oC { oZ 10 with hnd:=(aZ (hdW l)).1,idx:=(aZ (hdW l.tail)).1,qk:=(qK l.tail.tail:Nat),qkey:=Ql (qK l.tail.tail) l.tail.tail,qc:=qC (qK l.tail.tail) l.tail.tail,qn:=qN (qK l.tail.tail) l.tail.tail,qd:=qD (qK l.tail.tail) l.tail.tail })):=by
 exact gG Tryz.func54 Tryz.results54 rfl (by refine wP (fg hb hbn) aN ?_;refine cZ (fW aH b 10 hj) ?_;exact zEz (fg hb hbn) @agA)
theorem agG(b:Nat){w:List Nat}{l:List (List Nat)}(hj:wix aH w=13)(hb:bx b=some (108,rdC (w::l) false):=by exact hQ)(how:oct w:=by assumption)(hbn:b<n:=by omega)(hl:l.length≤100000:=by exact hT)(ho:∀x∈l,oct x:=by first|assumption|exact tlo (by assumption)|exact tlo (tlo (by assumption)))(hw:∀x∈l,x.length≤1000000:=by first|assumption|exact tlo (by assumption)|exact tlo (tlo (by assumption))):Gxz 54 [.ref b 0] ⟨e,bx,n,h⟩ ⟨e,upd bx b (some (108,rdC l.tail.tail (iE l||iE l.tail))),n+10000000,h⟩ (.agg (oC { oZ 13 with cur:=(aZ (hdW l)).1,cnt:=(aZ (hdW l.tail)).1 })):=by
 exact gG Tryz.func54 Tryz.results54 rfl (by refine wP (fg hb hbn) aN ?_;refine cZ (fW aH b 13 hj) ?_;exact zEz (fg hb hbn) trivial)
theorem agH(b:Nat){w:List Nat}{l:List (List Nat)}(hj:wix aH w=14)(hb:bx b=some (108,rdC (w::l) false):=by exact hQ)(how:oct w:=by assumption)(hbn:b<n:=by omega)(hl:l.length≤100000:=by exact hT)(ho:∀x∈l,oct x:=by first|assumption|exact tlo (by assumption)|exact tlo (tlo (by assumption)))(hw:∀x∈l,x.length≤1000000:=by first|assumption|exact tlo (by assumption)|exact tlo (tlo (by assumption))):Gxz 54 [.ref b 0] ⟨e,bx,n,h⟩ ⟨e,upd bx b (some (108,rdC l.tail (iE l))),n+10000000,h⟩ (.agg (oC { oZ 14 with cur:=(aZ (hdW l)).1 })):=by
 exact gG Tryz.func54 Tryz.results54 rfl (by refine wP (fg hb hbn) aN ?_;refine cZ (fW aH b 14 hj) ?_;exact zEz (fg hb hbn) trivial)
theorem agI(b:Nat){w:List Nat}{l:List (List Nat)}(hj:wix aH w=16)(hb:bx b=some (108,rdC (w::l) false):=by exact hQ)(how:oct w:=by assumption)(hbn:b<n:=by omega)(hl:l.length≤100000:=by exact hT)(ho:∀x∈l,oct x:=by first|assumption|exact tlo (by assumption)|exact tlo (tlo (by assumption)))(hw:∀x∈l,x.length≤1000000:=by first|assumption|exact tlo (by assumption)|exact tlo (tlo (by assumption))):Gxz 54 [.ref b 0] ⟨e,bx,n,h⟩ ⟨e,upd bx b (some (108,rdC l.tail.tail (l.isEmpty||l.tail.isEmpty||oH (hdW l.tail)))),n+10000000,h⟩ (.agg (opC { oZ 16 with name:=hdW l } nls nls nls (byR (n+3) (hdW l.tail)))):=by
 exact gG Tryz.func54 Tryz.results54 rfl (by refine wP (fg hb hbn) aN ?_;refine cZ (fW aH b 16 hj) ?_;exact zEz (fg hb hbn) trivial)
end Go.Proofs.YtjiolbcdfgclaaaGreatDoor
end
section
namespace Go.Proofs.YtjiolbcdfgclaaaGreatDoor
open Go Go.Pg
variable {e:Nat→V} {bx:Nat→Option (TypeId × List V)} {n:Nat} {h:Nat→V}
theorem PW(b:Nat){l:List (List Nat)}{bad:Bool}(hb:bx b=some (112,rdC l bad):=by exact hQ)(hl:l.length≤1000000:=by exact hT) :
  Gxz 100 [.ref b 0] ⟨e,bx,n,h⟩ ⟨e,upd bx b (some (112,rdC l.tail (bad||l.isEmpty))),n,h⟩ (vs (hdW l)):=by
 cases l with
 | nil =>
  have hx:(sv []).length=0:=au _
  rw[show (bad||List.isEmpty ([]:List (List Nat)))=true by simp]
  refine gZ oW Tryz.func100 Tryz.results100 ?_
  (repeat' first|refine wP (aI @iQ (aI @dm (aI @bI (aI @hb (aI @hx @ai))))) trivial ?_|refine tS ?_ ?_<;>intro hc|fail)
  refine lh (aG _ _ _) ?_
  rw[dJ,dK];try rfl
 | cons w l =>
  have hl':l.length≤1000000:=by simp only[List.length_cons] at hl;omega
  have hx:(sv (w::l)).length=l.length+1:=au _
  have hg:(sv (w::l))[0]?=some (vs w):=rfl
  rw[show (bad||List.isEmpty (w::l))=bad by simp]
  refine gZ oW Tryz.func100 Tryz.results100 ?_
  (repeat' first|refine wP (aI @iQ (aI @dm (aI @bI (aI @hb (aI @hx (aI @hg @ajq)))))) trivial ?_|refine tS ?_ ?_<;>intro hc|fail)
  refine lh (aG _ _ _) ?_
  rw[dJ,dK];try rfl
theorem VR(b:Nat){l:List (List Nat)}{bad:Bool}(hb:bx b=some (112,rdC l bad):=by exact hQ)(hl:l.length≤1000000:=by exact hT)(ho:oct (hdW l):=by exact hO)(hw:(hdW l).length≤1000000:=by exact hL) :
  Gxz 103 [.ref b 0] ⟨e,bx,n,h⟩ ⟨e,upd bx b (some (112,rdC l.tail (bad||iE l))),n,h⟩ (vi (aZ (hdW l)).1):=by
 have hn:=Qp (hdW l) ho (by omega)
 unfold Ry at hn
 refine gZ oW Tryz.func103 Tryz.results103 ?_
 (repeat' first|refine wP (aI @iQ (aI @dm (aI @bI @hb))) trivial ?_|refine cU hn ?_|refine cZ (PW b hb hl) ?_|refine tS ?_ ?_<;>intro hc|fail)
 all_goals (refine lh (aG _ _ _) ?_;rw[dJ,dK,jG];first|rw[anR hc]|rw[anS hc,RS])
theorem aka(b:Nat){l:List (List Nat)}{bad:Bool}(hb:bx b=some (112,rdC l bad):=by exact hQ)(hl:l.length≤1000000:=by exact hT)(ho:oct (hdW l):=by exact hO)(hw:(hdW l).length≤1000000:=by exact hL) :
  Gxz 105 [.ref b 0] ⟨e,bx,n,h⟩ ⟨e,upd bx b (some (112,rdC l.tail (bad||qW l))),n,h⟩ (vs (pk (hdW l)).1):=by
 have hn:=aku (hdW l) ho (by omega)
 unfold pkV at hn
 refine gZ oW Tryz.func105 Tryz.results105 ?_
 (repeat' first|refine wP (aI @iQ (aI @dm (aI @bI @hb))) trivial ?_|refine cU hn ?_|refine cZ (PW b hb hl) ?_|refine tS ?_ ?_<;>intro hc|fail)
 all_goals (refine lh (aG _ _ _) ?_;rw[dJ,dK,jG];first|rw[anT hc]|rw[anU hc,RS])
def byX(w:List Nat):V:=if w=[45] then nls else fzb (byV w)
theorem acp(w:List Nat):(byX w).cs=some [byX w]:=by unfold byX;split<;>rfl
theorem GG(w:List Nat):(byX w).one=true:=by unfold byX;split<;>rfl
theorem P7(w:List Nat):oct (byV w):=by
 unfold byV
 split
 ·exact dV
 ·split
  ·exact afd _ _
  ·exact dV
theorem Wv(b:Nat){l:List (List Nat)}{bad:Bool}(hb:bx b=some (112,rdC l bad):=by exact hQ)(hl:l.length≤1000000:=by exact hT)(ho:oct (hdW l):=by exact hO)(hw:(hdW l).length≤1000000:=by exact hL) :
  Gxz 104 [.ref b 0] ⟨e,bx,n,h⟩ ⟨e,upd bx b (some (112,rdC l.tail (bad||l.isEmpty||oH (hdW l)))),n,h⟩ (byX (hdW l)):=by
 have h3:=fun e h=>PW (e:=e) (n:=n) (h:=h) b hb hl
 have hu:=We (hdW l) ho (by omega)
 generalize (bad||l.isEmpty)=d at *
 generalize hdW l=w at *
 by_cases h45:w=[45]
 ·subst h45
  have e1:oH [45]=false:=rfl
  have e2:byX [45]=nls:=rfl
  rw[e1,e2,Bool.or_false]
  refine gZ oW Tryz.func104 Tryz.results104 ?_
  (repeat' first|refine wP (aI @iQ (aI @dm (aI @bI (aI @hb (aI @k45 @DY))))) trivial ?_|refine cZ (h3 _ _) ?_|refine tS ?_ ?_<;>intro hc|fail)
  refine lh (aG _ _ _) ?_
  rw[dJ,dK];try rfl
 ·have hn45:=aaw ho (jI [45] rfl) h45
  have hbo:=P7 w
  have hby:=Gg hbo
  have e2:byX w=fzb (byV w):=if_neg h45
  have hsn:decide (sB (byV w)=sB [])=decide (byV w=[]):=aaC _ hbo
  have key:abe w = .tup [vs (byV w),vb (okB w (w.length / 2)&&decide (w.length%2=0))]∧oH w=(!(okB w (w.length / 2)&&decide (w.length%2=0))||decide (byV w=[])):=by
   unfold abe byV oH
   rw[if_neg h45,if_neg h45]
   cases hk:okB w (w.length / 2)
   ·exact⟨rfl,rfl⟩
   ·rw[if_pos rfl,if_pos rfl,if_pos rfl]
    refine⟨rfl, ?_⟩
    by_cases hodd:w.length%2=0
    ·rw[decide_eq_true hodd,decide_eq_false (by omega:¬w.length%2≠0)]
     have hp:=yG w (w.length / 2)
     by_cases hw0:w=[]
     ·subst hw0;rfl
     ·rw[decide_eq_false hw0,decide_eq_false (show ¬prs w (w.length / 2)=[] from fun h0=>by
       rw[h0] at hp
       simp only[List.length_nil] at hp
       exact hw0 (List.eq_nil_of_length_eq_zero (by omega)))]
      rfl
    ·rw[decide_eq_false hodd,decide_eq_true (show w.length%2≠0 from hodd)]
     simp
  rw[key.1] at hu
  rw[key.2,e2]
  generalize (okB w (w.length / 2)&&decide (w.length%2=0))=g at *
  generalize byV w=v at *
  cases d<;>cases g
  ·refine gZ oW Tryz.func104 Tryz.results104 ?_
   (repeat' first|refine wP (aI @iQ (aI @dm (aI @bI (aI @hb (aI @k45 (aI @hn45 (aI @ai (aI @hsn (aI @aav @hby))))))))) trivial ?_|refine cU hu ?_|refine cZ (h3 _ _) ?_|refine tS ?_ ?_<;>intro hc|fail)
   all_goals (refine lh (aG _ _ _) ?_;rw[dJ,dK,jG];try rfl)
  ·refine gZ oW Tryz.func104 Tryz.results104 ?_
   (repeat' first|refine wP (aI @iQ (aI @dm (aI @bI (aI @hb (aI @k45 (aI @hn45 (aI @ai (aI @hsn (aI @aav @hby))))))))) trivial ?_|refine cU hu ?_|refine cZ (h3 _ _) ?_|refine tS ?_ ?_<;>intro hc|fail)
   all_goals (refine lh (aG _ _ _) ?_;rw[dJ,dK,jG];try rfl)
  ·refine gZ oW Tryz.func104 Tryz.results104 ?_
   (repeat' first|refine wP (aI @iQ (aI @dm (aI @bI (aI @hb (aI @k45 (aI @hn45 (aI @ai (aI @hsn (aI @aav @hby))))))))) trivial ?_|refine cU hu ?_|refine cZ (h3 _ _) ?_|refine tS ?_ ?_<;>intro hc|fail)
   all_goals (refine lh (aG _ _ _) ?_;rw[dJ,dK,jG];try rfl)
  ·refine gZ oW Tryz.func104 Tryz.results104 ?_
   (repeat' first|refine wP (aI @iQ (aI @dm (aI @bI (aI @hb (aI @k45 (aI @hn45 (aI @ai (aI @hsn (aI @aav @hby))))))))) trivial ?_|refine cU hu ?_|refine cZ (h3 _ _) ?_|refine tS ?_ ?_<;>intro hc|fail)
   all_goals (refine lh (aG _ _ _) ?_;rw[dJ,dK,jG];try rfl)
theorem k48:(⟨#[48]⟩:ByteArray)=sB [48]:=rfl
theorem agY{w:List Nat}(ho:oct w)(k:Nat):oct (List.replicate k 48++w):=by
 intro c hc
 rcases List.mem_append.1 hc with h1|h1
 ·have:=(List.mem_replicate.1 h1).2;omega
 ·exact ho c h1
theorem apw(b:Nat){l:List (List Nat)}{bad:Bool}(hb:bx b=some (112,rdC l bad):=by exact hQ)(hl:l.length≤100000:=by exact hT)(ho:oct (hdW l):=by exact hO)(hw:(hdW l).length≤1000000:=by exact hL) :
  Gxz 147 [.ref b 0] ⟨e,bx,n,h⟩ ⟨e,upd bx b (some (112,rdC l.tail (bad||PZ l))),n,h⟩ (vu ((sdX (hdW l):Nat):Int)):=by
 have h3:=fun e h=>PW (e:=e) (n:=n) (h:=h) b hb (by omega)
 have e1:(bad||PZ l)=((bad||l.isEmpty)||sbX (hdW l)):=by unfold PZ;rw[Bool.or_assoc,amm _ ho]
 rw[e1]
 clear e1
 have hsl:=acl ho
 generalize (bad||l.isEmpty)=d at *
 generalize hdW l=w at *
 by_cases h16:16<w.length
 ·have e2:sdX w=0:=if_pos h16
  have e3:sbX w=true:=if_pos h16
  rw[e2,e3,Bool.or_true]
  refine gZ oW Tryz.func147 Tryz.results147 ?_
  (repeat' first|refine wP (aI @iQ (aI @dm (aI @bI (aI @hb @bD)))) trivial ?_|refine cZ (h3 _ _) ?_|refine tS ?_ ?_<;>intro hc|fail)
  all_goals (refine lh (aG _ _ _) ?_;rw[dJ,dK,jG];try rfl)
 ·have hu:=We (pad w) (agY ho _) (by unfold pad;simp only[List.length_append,List.length_replicate];omega)
  have hpl:(pad w).length=16:=by unfold pad;simp only[List.length_append,List.length_replicate];omega
  have hs:=afT (sdX w) hsl
  have hxo:=KT (sdX w)
  have hq:decide (sB (jy (sdX w))=sB w)=decide (jy (sdX w)=w):=sJ hxo ho
  unfold abe at hu
  rw[hpl] at hu
  have e2:sdX w=if okB (pad w) 8=true then dcA (prs (pad w) 8) 8 else 0:=if_neg h16
  have e3:sbX w=(!okB (pad w) 8 || !decide (jy (sdX w)=w)):=if_neg h16
  rw[e3]
  refine gZ oW Tryz.func147 Tryz.results147 ?_
  (repeat' first|refine wP (aI @iQ (aI @dm (aI @bI (aI @hb @bD)))) trivial ?_|refine cZ (h3 _ _) ?_|refine tS ?_ ?_<;>intro hc|fail)
  refine OM (fun k:Nat=>[(0,.ref b 0),(3,vs w),(4,vs (List.replicate k 48++w))]) (fun _=>upd bx b (some (112,rdC l.tail d))) (fun _=>n) (fun k=>k≤16-w.length) (fun k=>16-w.length-k) 0 ?_ (fun _ => .inl rfl) (Nat.le_refl _) (Nat.zero_le _) ?_
  ·((try simp only[kF,lQ,lD,mf,pgo,simprocAttr,and_true,true_and]);try (repeat' (first|exact trivial|rfl|apply aI)))
  ·intro k hk
   replace hk:k≤16-w.length:=hk
   have hln:(List.replicate k 48++w).length=k+w.length:=by simp
   rcases Nat.lt_or_ge k (16-w.length) with hlt|hge
   ·have hap:∀(P:Program) (t:TypeId),eu P .add t (.c (.string (sB [48]))) (.c (.string (sB (List.replicate k 48++w))))=some (.c (.string (sB (List.replicate (k+1) 48++w)))):=fun P t=>adW P t [48] (List.replicate k 48++w) (by rw[hln];simp only[List.length_cons,List.length_nil];omega)
    (repeat' first|refine wP (aI @k48 (aI @bD (aI @hln @hap))) trivial ?_|refine tS ?_ ?_<;>intro hc|fail)
    refine Dz (k+1) hlt (show 16-w.length-(k+1)<16-w.length-k by omega) ?_ (fun _ => .inl rfl) (Nat.le_refl _)
    ((try simp only[kF,lQ,lD,mf,pgo,simprocAttr,and_true,true_and]);try (repeat' (first|exact trivial|rfl|apply aI)))
   ·have hke:k=16-w.length:=by omega
    subst hke
    have hpe:List.replicate (16-w.length) 48++w=pad w:=rfl
    rw[hpe] at hln ⊢
    cases hok:okB (pad w) 8
    ·rw[hok] at e2 hu
     have e4:sdX w=0:=e2
     rw[e4] at hs hq ⊢
     have hd0:=aqx
     have hb0:l7 (sB [])=bv []:=rfl
     have hu:Gxx 149 [vs (pad w)] (.tup [vs [],vb false]):=hu
     cases d
     ·(repeat' first|refine wP (aI @bD (aI @hpl (aI @hln (aI @dm (aI @aav @hb0))))) trivial ?_|refine cU hu ?_|refine cU hd0 ?_|refine cU hs ?_|refine tS ?_ ?_<;>intro hc|fail)
      all_goals (refine lh (aG _ _ _) ?_;rw[dJ,dK,jG];try rfl)
     ·(repeat' first|refine wP (aI @bD (aI @hpl (aI @hln (aI @dm (aI @aav @hb0))))) trivial ?_|refine cU hu ?_|refine cU hd0 ?_|refine cU hs ?_|refine tS ?_ ?_<;>intro hc|fail)
      all_goals (refine lh (aG _ _ _) ?_;rw[dJ,dK,jG];try rfl)
    ·rw[hok] at e2 hu
     have e4:sdX w=dcA (prs (pad w) 8) 8:=e2
     have hpo:=afd (pad w) 8
     have hd0:=aqY (prs (pad w) 8) hpo (yG _ _)
     rw[←e4] at hd0
     have hb0:=Gg hpo
     have hu:Gxx 149 [vs (pad w)] (.tup [vs (prs (pad w) 8),vb true]):=hu
     generalize prs (pad w) 8=v at *
     generalize jy (sdX w)=hx at *
     generalize sdX w=x at *
     cases d<;>by_cases hh:hx=w
     ·rw[decide_eq_true hh] at hq ⊢
      (repeat' first|refine wP (aI @bD (aI @hpl (aI @hln (aI @dm (aI @aav (aI @hb0 @hq)))))) trivial ?_|refine cU hu ?_|refine cU hd0 ?_|refine cU hs ?_|refine tS ?_ ?_<;>intro hc|fail)
      all_goals (refine lh (aG _ _ _) ?_;rw[dJ,dK,jG];try rfl)
     ·rw[decide_eq_false hh] at hq ⊢
      (repeat' first|refine wP (aI @bD (aI @hpl (aI @hln (aI @dm (aI @aav (aI @hb0 @hq)))))) trivial ?_|refine cU hu ?_|refine cU hd0 ?_|refine cU hs ?_|refine tS ?_ ?_<;>intro hc|fail)
      all_goals (refine lh (aG _ _ _) ?_;rw[dJ,dK,jG];try rfl)
     ·(repeat' first|refine wP (aI @bD (aI @hpl (aI @hln (aI @dm (aI @aav (aI @hb0 @hq)))))) trivial ?_|refine cU hu ?_|refine cU hd0 ?_|refine cU hs ?_|refine tS ?_ ?_<;>intro hc|fail)
      all_goals (refine lh (aG _ _ _) ?_;rw[dJ,dK,jG];try rfl)
     ·(repeat' first|refine wP (aI @bD (aI @hpl (aI @hln (aI @dm (aI @aav (aI @hb0 @hq)))))) trivial ?_|refine cU hu ?_|refine cU hd0 ?_|refine cU hs ?_|refine tS ?_ ?_<;>intro hc|fail)
      all_goals (refine lh (aG _ _ _) ?_;rw[dJ,dK,jG];try rfl)
end Go.Proofs.YtjiolbcdfgclaaaGreatDoor
end
section
namespace Go.Proofs.YtjiolbcdfgclaaaGreatDoor
open Go Go.Pg
variable {e:Nat→V} {bx:Nat→Option (TypeId × List V)} {n:Nat} {h:Nat→V}
theorem xq(L:List (List Nat))(j:Nat){w:List Nat}{k:Nat}{a:ByteArray}(ha:sB (L.getD j [])=a)(how:oct w)(hj:wix L w=k)(h1:1≤j)(hjj:wix L (L.getD j [])=j)(hoc:oct (L.getD j [])):decide (sB w=a)=(k == j):=by
 subst ha
 rw[sJ how hoc]
 by_cases hw:w=L.getD j []
 ·rw[decide_eq_true hw]
  rw[hw,hjj] at hj
  subst hj
  simp
 ·rw[decide_eq_false hw]
  symm
  rw[beq_eq_false_iff_ne]
  intro hk
  exact hw (by rw[←hk];exact (Wp hj (by omega)).symm)
theorem tQ{w:List Nat}{k:Nat}(how:oct w)(hj:wix gu w=k):decide (sB w=⟨#[116,111,116,97,108]⟩)=(k == 1)∧decide (sB w=⟨#[112,111,105,110,116]⟩)=(k == 2)∧decide (sB w=⟨#[114,101,103,105,115,116,101,114,115]⟩)=(k == 3)∧decide (sB w=⟨#[100,105,115,116,105,110,99,116]⟩)=(k == 4)∧decide (sB w=⟨#[116,111,112]⟩)=(k == 5)∧decide (sB w=⟨#[114,97,110,107]⟩)=(k == 6)∧decide (sB w=⟨#[113,117,97,110,116,105,108,101]⟩)=(k == 7):=⟨xq gu 1 rfl how hj (by decide) (by decide) (jI _ rfl),xq gu 2 rfl how hj (by decide) (by decide) (jI _ rfl),xq gu 3 rfl how hj (by decide) (by decide) (jI _ rfl),xq gu 4 rfl how hj (by decide) (by decide) (jI _ rfl),xq gu 5 rfl how hj (by decide) (by decide) (jI _ rfl),xq gu 6 rfl how hj (by decide) (by decide) (jI _ rfl),xq gu 7 rfl how hj (by decide) (by decide) (jI _ rfl)⟩
theorem tP{w:List Nat}{k:Nat}(how:oct w)(hj:wix kN w=k):decide (sB w=⟨#[116,97,108,108,121]⟩)=(k == 1)∧decide (sB w=⟨#[99,111,117,110,116,109,105,110]⟩)=(k == 2)∧decide (sB w=⟨#[108,111,103,108,111,103]⟩)=(k == 3)∧decide (sB w=⟨#[116,111,112]⟩)=(k == 4)∧decide (sB w=⟨#[102,114,101,113,117,101,110,116]⟩)=(k == 5)∧decide (sB w=⟨#[114,97,110,107,115]⟩)=(k == 6):=⟨xq kN 1 rfl how hj (by decide) (by decide) (jI _ rfl),xq kN 2 rfl how hj (by decide) (by decide) (jI _ rfl),xq kN 3 rfl how hj (by decide) (by decide) (jI _ rfl),xq kN 4 rfl how hj (by decide) (by decide) (jI _ rfl),xq kN 5 rfl how hj (by decide) (by decide) (jI _ rfl),xq kN 6 rfl how hj (by decide) (by decide) (jI _ rfl)⟩
theorem tO{w:List Nat}{k:Nat}(how:oct w)(hj:wix aH w=k):decide (sB w=⟨#[99,114,101,97,116,101]⟩)=(k == 1)∧decide (sB w=⟨#[100,114,111,112]⟩)=(k == 2)∧decide (sB w=⟨#[114,101,110,97,109,101]⟩)=(k == 3)∧decide (sB w=⟨#[108,105,115,116]⟩)=(k == 4)∧decide (sB w=⟨#[113,117,101,114,121]⟩)=(k == 5)∧decide (sB w=⟨#[105,110,115,101,114,116]⟩)=(k == 6)∧decide (sB w=⟨#[109,101,114,103,101]⟩)=(k == 7)∧decide (sB w=⟨#[99,111,109,112,97,114,101]⟩)=(k == 8)∧decide (sB w=⟨#[111,112,101,110]⟩)=(k == 9)∧decide (sB w=⟨#[114,101,97,100]⟩)=(k == 10)∧decide (sB w=⟨#[99,108,111,115,101]⟩)=(k == 11)∧decide (sB w=⟨#[99,117,114,115,111,114]⟩)=(k == 12)∧decide (sB w=⟨#[110,101,120,116]⟩)=(k == 13)∧decide (sB w=⟨#[101,110,100]⟩)=(k == 14)∧decide (sB w=⟨#[101,120,112,111,114,116]⟩)=(k == 15)∧decide (sB w=⟨#[105,109,112,111,114,116]⟩)=(k == 16)∧decide (sB w=⟨#[99,111,108,108,101,99,116]⟩)=(k == 17):=⟨xq aH 1 rfl how hj (by decide) (by decide) (jI _ rfl),xq aH 2 rfl how hj (by decide) (by decide) (jI _ rfl),xq aH 3 rfl how hj (by decide) (by decide) (jI _ rfl),xq aH 4 rfl how hj (by decide) (by decide) (jI _ rfl),xq aH 5 rfl how hj (by decide) (by decide) (jI _ rfl),xq aH 6 rfl how hj (by decide) (by decide) (jI _ rfl),xq aH 7 rfl how hj (by decide) (by decide) (jI _ rfl),xq aH 8 rfl how hj (by decide) (by decide) (jI _ rfl),xq aH 9 rfl how hj (by decide) (by decide) (jI _ rfl),xq aH 10 rfl how hj (by decide) (by decide) (jI _ rfl),xq aH 11 rfl how hj (by decide) (by decide) (jI _ rfl),xq aH 12 rfl how hj (by decide) (by decide) (jI _ rfl),xq aH 13 rfl how hj (by decide) (by decide) (jI _ rfl),xq aH 14 rfl how hj (by decide) (by decide) (jI _ rfl),xq aH 15 rfl how hj (by decide) (by decide) (jI _ rfl),xq aH 16 rfl how hj (by decide) (by decide) (jI _ rfl),xq aH 17 rfl how hj (by decide) (by decide) (jI _ rfl)⟩
theorem Wx(b:Nat){w:List Nat}{l:List (List Nat)}{bad:Bool}(hb:bx b=some (112,rdC (w::l) bad):=by exact hQ)(hl:l.length≤100000:=by exact hT) :
  Gxz 100 [.ref b 0] ⟨e,bx,n,h⟩ ⟨e,upd bx b (some (112,rdC l bad)),n,h⟩ (vs w):=by
 have:=PW (e:=e) (n:=n) (h:=h) b hb (by simp only[List.length_cons];omega)
 simpa [hdW] using this
theorem xEz{F C p:Prop}(fx:F)(cx:C)(h:F→C→p:=by intro fx cx;(repeat' first|refine wP fx trivial ?_|refine cZ (Wx b) ?_|refine cZ (PW b) ?_|refine cZ (VR b) ?_|refine cZ (aka b) ?_|refine cZ (apw b) ?_|refine cZ (Wv b) ?_|refine cZ (cx b) ?_|fail);exact iA fx):p:=h fx cx
def fX:=aI @acp @GG
def fgX{b:Nat}{v:Option (TypeId × List V)}(h:bx b=v)(hn:b<n):=aI fX (fg h hn)
theorem apx(b:Nat){l:List (List Nat)}{bad:Bool}(hj:wix gu (hdW l)=0)(hb:bx b=some (112,rdC l bad):=by exact hQ)(hbn:b<n:=by omega)(hl:l.length≤100000:=by exact hT)(ho:∀x∈l,oct x:=by first|assumption|exact tlo (by assumption)|exact tlo (tlo (by assumption)))(hw:∀x∈l,x.length≤1000000:=by first|assumption|exact tlo (by assumption)|exact tlo (tlo (by assumption))):Gxz 102 [.ref b 0] ⟨e,bx,n,h⟩ ⟨e,upd bx b (some (112,rdC l.tail true)),n+10,h⟩ (.agg [vi 0,vs [],vi 0,vi 0,vi 0]):=by
 exact gG Tryz.func102 Tryz.results102 rfl (by exact xEz (aI (tQ (vZ ho) hj) (fgX hb hbn)) trivial)
theorem apy(b:Nat){l:List (List Nat)}{bad:Bool}(hj:wix gu (hdW l)=1)(hb:bx b=some (112,rdC l bad):=by exact hQ)(hbn:b<n:=by omega)(hl:l.length≤100000:=by exact hT)(ho:∀x∈l,oct x:=by first|assumption|exact tlo (by assumption)|exact tlo (tlo (by assumption)))(hw:∀x∈l,x.length≤1000000:=by first|assumption|exact tlo (by assumption)|exact tlo (tlo (by assumption))):Gxz 102 [.ref b 0] ⟨e,bx,n,h⟩ ⟨e,upd bx b (some (112,rdC l.tail (bad||l.isEmpty))),n+10,h⟩ (.agg [vi 1,vs [],vi 0,vi 0,vi 0]):=by
 exact gG Tryz.func102 Tryz.results102 rfl (by exact xEz (aI (tQ (vZ ho) hj) (fgX hb hbn)) trivial)
theorem apz(b:Nat){l:List (List Nat)}{bad:Bool}(hj:wix gu (hdW l)=2)(hb:bx b=some (112,rdC l bad):=by exact hQ)(hbn:b<n:=by omega)(hl:l.length≤100000:=by exact hT)(ho:∀x∈l,oct x:=by first|assumption|exact tlo (by assumption)|exact tlo (tlo (by assumption)))(hw:∀x∈l,x.length≤1000000:=by first|assumption|exact tlo (by assumption)|exact tlo (tlo (by assumption))):Gxz 102 [.ref b 0] ⟨e,bx,n,h⟩ ⟨e,upd bx b (some (112,rdC l.tail.tail ((bad||l.isEmpty)||qW l.tail))),n+10,h⟩ (.agg [vi 2,vs ((pk (hdW l.tail)).1),vi 0,vi 0,vi 0]):=by
 exact gG Tryz.func102 Tryz.results102 rfl (by exact xEz (aI (tQ (vZ ho) hj) (fgX hb hbn)) trivial)
theorem apC(b:Nat){l:List (List Nat)}{bad:Bool}(hj:wix gu (hdW l)=3)(hb:bx b=some (112,rdC l bad):=by exact hQ)(hbn:b<n:=by omega)(hl:l.length≤100000:=by exact hT)(ho:∀x∈l,oct x:=by first|assumption|exact tlo (by assumption)|exact tlo (tlo (by assumption)))(hw:∀x∈l,x.length≤1000000:=by first|assumption|exact tlo (by assumption)|exact tlo (tlo (by assumption))):Gxz 102 [.ref b 0] ⟨e,bx,n,h⟩ ⟨e,upd bx b (some (112,rdC l.tail (bad||l.isEmpty))),n+10,h⟩ (.agg [vi 3,vs [],vi 0,vi 0,vi 0]):=by
 exact gG Tryz.func102 Tryz.results102 rfl (by exact xEz (aI (tQ (vZ ho) hj) (fgX hb hbn)) trivial)
theorem apE(b:Nat){l:List (List Nat)}{bad:Bool}(hj:wix gu (hdW l)=4)(hb:bx b=some (112,rdC l bad):=by exact hQ)(hbn:b<n:=by omega)(hl:l.length≤100000:=by exact hT)(ho:∀x∈l,oct x:=by first|assumption|exact tlo (by assumption)|exact tlo (tlo (by assumption)))(hw:∀x∈l,x.length≤1000000:=by first|assumption|exact tlo (by assumption)|exact tlo (tlo (by assumption))):Gxz 102 [.ref b 0] ⟨e,bx,n,h⟩ ⟨e,upd bx b (some (112,rdC l.tail (bad||l.isEmpty))),n+10,h⟩ (.agg [vi 4,vs [],vi 0,vi 0,vi 0]):=by
 exact gG Tryz.func102 Tryz.results102 rfl (by exact xEz (aI (tQ (vZ ho) hj) (fgX hb hbn)) trivial)
theorem apL(b:Nat){l:List (List Nat)}{bad:Bool}(hj:wix gu (hdW l)=5)(hb:bx b=some (112,rdC l bad):=by exact hQ)(hbn:b<n:=by omega)(hl:l.length≤100000:=by exact hT)(ho:∀x∈l,oct x:=by first|assumption|exact tlo (by assumption)|exact tlo (tlo (by assumption)))(hw:∀x∈l,x.length≤1000000:=by first|assumption|exact tlo (by assumption)|exact tlo (tlo (by assumption))):Gxz 102 [.ref b 0] ⟨e,bx,n,h⟩ ⟨e,upd bx b (some (112,rdC l.tail.tail ((bad||l.isEmpty)||iE l.tail))),n+10,h⟩ (.agg [vi 5,vs [],vi (aZ (hdW l.tail)).1,vi 0,vi 0]):=by
 exact gG Tryz.func102 Tryz.results102 rfl (by exact xEz (aI (tQ (vZ ho) hj) (fgX hb hbn)) trivial)
theorem apM(b:Nat){l:List (List Nat)}{bad:Bool}(hj:wix gu (hdW l)=6)(hb:bx b=some (112,rdC l bad):=by exact hQ)(hbn:b<n:=by omega)(hl:l.length≤100000:=by exact hT)(ho:∀x∈l,oct x:=by first|assumption|exact tlo (by assumption)|exact tlo (tlo (by assumption)))(hw:∀x∈l,x.length≤1000000:=by first|assumption|exact tlo (by assumption)|exact tlo (tlo (by assumption))):Gxz 102 [.ref b 0] ⟨e,bx,n,h⟩ ⟨e,upd bx b (some (112,rdC l.tail.tail ((bad||l.isEmpty)||qW l.tail))),n+10,h⟩ (.agg [vi 6,vs ((pk (hdW l.tail)).1),vi 0,vi 0,vi 0]):=by
 exact gG Tryz.func102 Tryz.results102 rfl (by exact xEz (aI (tQ (vZ ho) hj) (fgX hb hbn)) trivial)
theorem apO(b:Nat){l:List (List Nat)}{bad:Bool}(hj:wix gu (hdW l)=7)(hb:bx b=some (112,rdC l bad):=by exact hQ)(hbn:b<n:=by omega)(hl:l.length≤100000:=by exact hT)(ho:∀x∈l,oct x:=by first|assumption|exact tlo (by assumption)|exact tlo (tlo (by assumption)))(hw:∀x∈l,x.length≤1000000:=by first|assumption|exact tlo (by assumption)|exact tlo (tlo (by assumption))):Gxz 102 [.ref b 0] ⟨e,bx,n,h⟩ ⟨e,upd bx b (some (112,rdC l.tail.tail.tail (((bad||l.isEmpty)||iE l.tail)||iE l.tail.tail))),n+10,h⟩ (.agg [vi 7,vs [],vi 0,vi (aZ (hdW l.tail)).1,vi (aZ (hdW l.tail.tail)).1]):=by
 exact gG Tryz.func102 Tryz.results102 rfl (by exact xEz (aI (tQ (vZ ho) hj) (fgX hb hbn)) trivial)
theorem aqz(b:Nat){l:List (List Nat)}{bad:Bool}(hb:bx b=some (112,rdC l bad):=by exact hQ)(hbn:b<n:=by omega)(hl:l.length≤100000:=by exact hT)(ho:∀x∈l,oct x:=by first|assumption|exact tlo (by assumption)|exact tlo (tlo (by assumption)))(hw:∀x∈l,x.length≤1000000:=by first|assumption|exact tlo (by assumption)|exact tlo (tlo (by assumption))):Gxz 102 [.ref b 0] ⟨e,bx,n,h⟩ ⟨e,upd bx b (some (112,rdC (qR (qK l) l) (qB (qK l) l bad))),n+10,h⟩ (.agg [vi (qK l:Nat),vs (Ql (qK l) l),vi (qC (qK l) l),vi (qN (qK l) l),vi (qD (qK l) l)]):=by
 have hlt:=GK (L:=gu) (hdW l) (by decide)
 have hlen:gu.length=8:=rfl
 unfold qK
 generalize hj:wix gu (hdW l)=j at *
 have hc:j=0∨j=1∨j=2∨j=3∨j=4∨j=5∨j=6∨j=7:=by omega
 rcases hc with rfl|rfl|rfl|rfl|rfl|rfl|rfl|rfl
 ·exact apx b hj hb hbn hl ho hw
 ·exact apy b hj hb hbn hl ho hw
 ·exact apz b hj hb hbn hl ho hw
 ·exact apC b hj hb hbn hl ho hw
 ·exact apE b hj hb hbn hl ho hw
 ·exact apL b hj hb hbn hl ho hw
 ·exact apM b hj hb hbn hl ho hw
 ·exact apO b hj hb hbn hl ho hw
theorem apP(b:Nat){l:List (List Nat)}{bad:Bool}(hj:wix kN (hdW l)=0)(hb:bx b=some (112,rdC l bad):=by exact hQ)(hbn:b<n:=by omega)(hl:l.length≤100000:=by exact hT)(ho:∀x∈l,oct x:=by first|assumption|exact tlo (by assumption)|exact tlo (tlo (by assumption)))(hw:∀x∈l,x.length≤1000000:=by first|assumption|exact tlo (by assumption)|exact tlo (tlo (by assumption))):Gxz 101 [.ref b 0] ⟨e,bx,n,h⟩ ⟨e,upd bx b (some (112,rdC l.tail true)),n+10,h⟩ (.agg [vi 0,vi 0,vi 0,vu 0]):=by
 exact gG Tryz.func101 Tryz.results101 rfl (by exact xEz (aI (tP (vZ ho) hj) (fgX hb hbn)) trivial)
theorem apQ(b:Nat){l:List (List Nat)}{bad:Bool}(hj:wix kN (hdW l)=1)(hb:bx b=some (112,rdC l bad):=by exact hQ)(hbn:b<n:=by omega)(hl:l.length≤100000:=by exact hT)(ho:∀x∈l,oct x:=by first|assumption|exact tlo (by assumption)|exact tlo (tlo (by assumption)))(hw:∀x∈l,x.length≤1000000:=by first|assumption|exact tlo (by assumption)|exact tlo (tlo (by assumption))):Gxz 101 [.ref b 0] ⟨e,bx,n,h⟩ ⟨e,upd bx b (some (112,rdC l.tail (bad||l.isEmpty))),n+10,h⟩ (.agg [vi 1,vi 0,vi 0,vu 0]):=by
 exact gG Tryz.func101 Tryz.results101 rfl (by exact xEz (aI (tP (vZ ho) hj) (fgX hb hbn)) trivial)
theorem apS(b:Nat){l:List (List Nat)}{bad:Bool}(hj:wix kN (hdW l)=2)(hb:bx b=some (112,rdC l bad):=by exact hQ)(hbn:b<n:=by omega)(hl:l.length≤100000:=by exact hT)(ho:∀x∈l,oct x:=by first|assumption|exact tlo (by assumption)|exact tlo (tlo (by assumption)))(hw:∀x∈l,x.length≤1000000:=by first|assumption|exact tlo (by assumption)|exact tlo (tlo (by assumption))):Gxz 101 [.ref b 0] ⟨e,bx,n,h⟩ ⟨e,upd bx b (some (112,rdC l.tail.tail.tail.tail ((((bad||l.isEmpty)||iE l.tail)||iE l.tail.tail)||PZ l.tail.tail.tail))),n+10,h⟩ (.agg [vi 2,vi (aZ (hdW l.tail.tail)).1,vi (aZ (hdW l.tail)).1,vu ((sdX (hdW l.tail.tail.tail):Nat):Int)]):=by
 exact gG Tryz.func101 Tryz.results101 rfl (by exact xEz (aI (tP (vZ ho) hj) (fgX hb hbn)) trivial)
theorem apT(b:Nat){l:List (List Nat)}{bad:Bool}(hj:wix kN (hdW l)=3)(hb:bx b=some (112,rdC l bad):=by exact hQ)(hbn:b<n:=by omega)(hl:l.length≤100000:=by exact hT)(ho:∀x∈l,oct x:=by first|assumption|exact tlo (by assumption)|exact tlo (tlo (by assumption)))(hw:∀x∈l,x.length≤1000000:=by first|assumption|exact tlo (by assumption)|exact tlo (tlo (by assumption))):Gxz 101 [.ref b 0] ⟨e,bx,n,h⟩ ⟨e,upd bx b (some (112,rdC l.tail.tail.tail (((bad||l.isEmpty)||iE l.tail)||PZ l.tail.tail))),n+10,h⟩ (.agg [vi 3,vi (aZ (hdW l.tail)).1,vi 0,vu ((sdX (hdW l.tail.tail):Nat):Int)]):=by
 exact gG Tryz.func101 Tryz.results101 rfl (by exact xEz (aI (tP (vZ ho) hj) (fgX hb hbn)) trivial)
theorem apY(b:Nat){l:List (List Nat)}{bad:Bool}(hj:wix kN (hdW l)=4)(hb:bx b=some (112,rdC l bad):=by exact hQ)(hbn:b<n:=by omega)(hl:l.length≤100000:=by exact hT)(ho:∀x∈l,oct x:=by first|assumption|exact tlo (by assumption)|exact tlo (tlo (by assumption)))(hw:∀x∈l,x.length≤1000000:=by first|assumption|exact tlo (by assumption)|exact tlo (tlo (by assumption))):Gxz 101 [.ref b 0] ⟨e,bx,n,h⟩ ⟨e,upd bx b (some (112,rdC l.tail.tail ((bad||l.isEmpty)||iE l.tail))),n+10,h⟩ (.agg [vi 4,vi (aZ (hdW l.tail)).1,vi 0,vu 0]):=by
 exact gG Tryz.func101 Tryz.results101 rfl (by exact xEz (aI (tP (vZ ho) hj) (fgX hb hbn)) trivial)
theorem ap1(b:Nat){l:List (List Nat)}{bad:Bool}(hj:wix kN (hdW l)=5)(hb:bx b=some (112,rdC l bad):=by exact hQ)(hbn:b<n:=by omega)(hl:l.length≤100000:=by exact hT)(ho:∀x∈l,oct x:=by first|assumption|exact tlo (by assumption)|exact tlo (tlo (by assumption)))(hw:∀x∈l,x.length≤1000000:=by first|assumption|exact tlo (by assumption)|exact tlo (tlo (by assumption))):Gxz 101 [.ref b 0] ⟨e,bx,n,h⟩ ⟨e,upd bx b (some (112,rdC l.tail.tail ((bad||l.isEmpty)||iE l.tail))),n+10,h⟩ (.agg [vi 5,vi (aZ (hdW l.tail)).1,vi 0,vu 0]):=by
 exact gG Tryz.func101 Tryz.results101 rfl (by exact xEz (aI (tP (vZ ho) hj) (fgX hb hbn)) trivial)
theorem ap4(b:Nat){l:List (List Nat)}{bad:Bool}(hj:wix kN (hdW l)=6)(hb:bx b=some (112,rdC l bad):=by exact hQ)(hbn:b<n:=by omega)(hl:l.length≤100000:=by exact hT)(ho:∀x∈l,oct x:=by first|assumption|exact tlo (by assumption)|exact tlo (tlo (by assumption)))(hw:∀x∈l,x.length≤1000000:=by first|assumption|exact tlo (by assumption)|exact tlo (tlo (by assumption))):Gxz 101 [.ref b 0] ⟨e,bx,n,h⟩ ⟨e,upd bx b (some (112,rdC l.tail.tail ((bad||l.isEmpty)||iE l.tail))),n+10,h⟩ (.agg [vi 6,vi (aZ (hdW l.tail)).1,vi 0,vu 0]):=by
 exact gG Tryz.func101 Tryz.results101 rfl (by exact xEz (aI (tP (vZ ho) hj) (fgX hb hbn)) trivial)
theorem aq0(b:Nat){l:List (List Nat)}{bad:Bool}(hb:bx b=some (112,rdC l bad):=by exact hQ)(hbn:b<n:=by omega)(hl:l.length≤100000:=by exact hT)(ho:∀x∈l,oct x:=by first|assumption|exact tlo (by assumption)|exact tlo (tlo (by assumption)))(hw:∀x∈l,x.length≤1000000:=by first|assumption|exact tlo (by assumption)|exact tlo (tlo (by assumption))):Gxz 101 [.ref b 0] ⟨e,bx,n,h⟩ ⟨e,upd bx b (some (112,rdC (pR (pK l) l) (pBq (pK l) l bad))),n+10,h⟩ (.agg [vi (pK l:Nat),vi (pZ (pK l) l),vi (pD (pK l) l),vu (pSq sdX (pK l) l)]):=by
 have hlt:=GK (L:=kN) (hdW l) (by decide)
 have hlen:kN.length=7:=rfl
 unfold pK
 generalize hj:wix kN (hdW l)=j at *
 have hc:j=0∨j=1∨j=2∨j=3∨j=4∨j=5∨j=6:=by omega
 rcases hc with rfl|rfl|rfl|rfl|rfl|rfl|rfl
 ·exact apP b hj hb hbn hl ho hw
 ·exact apQ b hj hb hbn hl ho hw
 ·exact apS b hj hb hbn hl ho hw
 ·exact apT b hj hb hbn hl ho hw
 ·exact apY b hj hb hbn hl ho hw
 ·exact ap1 b hj hb hbn hl ho hw
 ·exact ap4 b hj hb hbn hl ho hw
end Go.Proofs.YtjiolbcdfgclaaaGreatDoor
end
section
namespace Go.Proofs.YtjiolbcdfgclaaaGreatDoor
open Go Go.Pg
variable {e:Nat→V} {bx:Nat→Option (TypeId × List V)} {n:Nat} {h:Nat→V}
theorem ap5(b:Nat){w:List Nat}{l:List (List Nat)}(hj:wix aH w=0)(hb:bx b=some (112,rdC (w::l) false):=by exact hQ)(how:oct w:=by assumption)(hbn:b<n:=by omega)(hl:l.length≤100000:=by exact hT)(ho:∀x∈l,oct x:=by first|assumption|exact tlo (by assumption)|exact tlo (tlo (by assumption)))(hw:∀x∈l,x.length≤1000000:=by first|assumption|exact tlo (by assumption)|exact tlo (tlo (by assumption))):Gxz 55 [.ref b 0] ⟨e,bx,n,h⟩ ⟨e,upd bx b (some (112,rdC l true)),n+10000000,h⟩ (.agg (oC (oZ 0))):=by
 exact gG Tryz.func55 Tryz.results55 rfl (by exact xEz (aI (tO how hj) (fgX hb hbn)) trivial)
theorem ap6(b:Nat){w:List Nat}{l:List (List Nat)}(hj:wix aH w=1)(hb:bx b=some (112,rdC (w::l) false):=by exact hQ)(how:oct w:=by assumption)(hbn:b<n:=by omega)(hl:l.length≤100000:=by exact hT)(ho:∀x∈l,oct x:=by first|assumption|exact tlo (by assumption)|exact tlo (tlo (by assumption)))(hw:∀x∈l,x.length≤1000000:=by first|assumption|exact tlo (by assumption)|exact tlo (tlo (by assumption))):Gxz 55 [.ref b 0] ⟨e,bx,n,h⟩ ⟨e,upd bx b (some (112,rdC (pR (pK l.tail) l.tail) (pBq (pK l.tail) l.tail l.isEmpty))),n+10000000,h⟩ (.agg (oC { oZ 1 with name:=hdW l,pk:=(pK l.tail:Nat),pz:=pZ (pK l.tail) l.tail,pd:=pD (pK l.tail) l.tail,ps:=pSq sdX (pK l.tail) l.tail })):=by
 exact gG Tryz.func55 Tryz.results55 rfl (by exact xEz (aI (tO how hj) (fgX hb hbn)) @aq0)
theorem ap7(b:Nat){w:List Nat}{l:List (List Nat)}(hj:wix aH w=2)(hb:bx b=some (112,rdC (w::l) false):=by exact hQ)(how:oct w:=by assumption)(hbn:b<n:=by omega)(hl:l.length≤100000:=by exact hT)(ho:∀x∈l,oct x:=by first|assumption|exact tlo (by assumption)|exact tlo (tlo (by assumption)))(hw:∀x∈l,x.length≤1000000:=by first|assumption|exact tlo (by assumption)|exact tlo (tlo (by assumption))):Gxz 55 [.ref b 0] ⟨e,bx,n,h⟩ ⟨e,upd bx b (some (112,rdC l.tail l.isEmpty)),n+10000000,h⟩ (.agg (oC { oZ 2 with name:=hdW l })):=by
 exact gG Tryz.func55 Tryz.results55 rfl (by exact xEz (aI (tO how hj) (fgX hb hbn)) trivial)
theorem ap8(b:Nat){w:List Nat}{l:List (List Nat)}(hj:wix aH w=3)(hb:bx b=some (112,rdC (w::l) false):=by exact hQ)(how:oct w:=by assumption)(hbn:b<n:=by omega)(hl:l.length≤100000:=by exact hT)(ho:∀x∈l,oct x:=by first|assumption|exact tlo (by assumption)|exact tlo (tlo (by assumption)))(hw:∀x∈l,x.length≤1000000:=by first|assumption|exact tlo (by assumption)|exact tlo (tlo (by assumption))):Gxz 55 [.ref b 0] ⟨e,bx,n,h⟩ ⟨e,upd bx b (some (112,rdC l.tail.tail (l.isEmpty||l.tail.isEmpty))),n+10000000,h⟩ (.agg (oC { oZ 3 with name:=hdW l,other:=hdW l.tail })):=by
 exact gG Tryz.func55 Tryz.results55 rfl (by exact xEz (aI (tO how hj) (fgX hb hbn)) trivial)
theorem ap9(b:Nat){w:List Nat}{l:List (List Nat)}(hj:wix aH w=4)(hb:bx b=some (112,rdC (w::l) false):=by exact hQ)(how:oct w:=by assumption)(hbn:b<n:=by omega)(hl:l.length≤100000:=by exact hT)(ho:∀x∈l,oct x:=by first|assumption|exact tlo (by assumption)|exact tlo (tlo (by assumption)))(hw:∀x∈l,x.length≤1000000:=by first|assumption|exact tlo (by assumption)|exact tlo (tlo (by assumption))):Gxz 55 [.ref b 0] ⟨e,bx,n,h⟩ ⟨e,upd bx b (some (112,rdC l false)),n+10000000,h⟩ (.agg (oC (oZ 4))):=by
 exact gG Tryz.func55 Tryz.results55 rfl (by exact xEz (aI (tO how hj) (fgX hb hbn)) trivial)
theorem ajo(b:Nat){w:List Nat}{l:List (List Nat)}(hj:wix aH w=17)(hb:bx b=some (112,rdC (w::l) false):=by exact hQ)(how:oct w:=by assumption)(hbn:b<n:=by omega)(hl:l.length≤100000:=by exact hT)(ho:∀x∈l,oct x:=by first|assumption|exact tlo (by assumption)|exact tlo (tlo (by assumption)))(hw:∀x∈l,x.length≤1000000:=by first|assumption|exact tlo (by assumption)|exact tlo (tlo (by assumption))):Gxz 55 [.ref b 0] ⟨e,bx,n,h⟩ ⟨e,upd bx b (some (112,rdC l false)),n+10000000,h⟩ (.agg (oC (oZ 17))):=by
 exact gG Tryz.func55 Tryz.results55 rfl (by exact xEz (aI (tO how hj) (fgX hb hbn)) trivial)
theorem aqa(b:Nat){w:List Nat}{l:List (List Nat)}(hj:wix aH w=5)(hb:bx b=some (112,rdC (w::l) false):=by exact hQ)(how:oct w:=by assumption)(hbn:b<n:=by omega)(hl:l.length≤100000:=by exact hT)(ho:∀x∈l,oct x:=by first|assumption|exact tlo (by assumption)|exact tlo (tlo (by assumption)))(hw:∀x∈l,x.length≤1000000:=by first|assumption|exact tlo (by assumption)|exact tlo (tlo (by assumption))):Gxz 55 [.ref b 0] ⟨e,bx,n,h⟩ ⟨e,upd bx b (some (112,rdC (qR (qK l.tail) l.tail) (qB (qK l.tail) l.tail l.isEmpty))),n+10000000,h⟩ (.agg (oC { oZ 5 with name:=hdW l,qk:=(qK l.tail:Nat),qkey:=Ql (qK l.tail) l.tail,qc:=qC (qK l.tail) l.tail,qn:=qN (qK l.tail) l.tail,qd:=qD (qK l.tail) l.tail })):=by
 exact gG Tryz.func55 Tryz.results55 rfl (by exact xEz (aI (tO how hj) (fgX hb hbn)) @aqz)
theorem aqb(b:Nat){w:List Nat}{l:List (List Nat)}(hj:wix aH w=7)(hb:bx b=some (112,rdC (w::l) false):=by exact hQ)(how:oct w:=by assumption)(hbn:b<n:=by omega)(hl:l.length≤100000:=by exact hT)(ho:∀x∈l,oct x:=by first|assumption|exact tlo (by assumption)|exact tlo (tlo (by assumption)))(hw:∀x∈l,x.length≤1000000:=by first|assumption|exact tlo (by assumption)|exact tlo (tlo (by assumption))):Gxz 55 [.ref b 0] ⟨e,bx,n,h⟩ ⟨e,upd bx b (some (112,rdC l.tail.tail.tail ((l.isEmpty||l.tail.isEmpty)||l.tail.tail.isEmpty||oH (hdW l.tail.tail)))),n+10000000,h⟩ (.agg (opC { oZ 7 with name:=hdW l,other:=hdW l.tail } nls nls (byX (hdW l.tail.tail)) nls)):=by
 exact gG Tryz.func55 Tryz.results55 rfl (by exact xEz (aI (tO how hj) (fgX hb hbn)) trivial)
theorem aqc(b:Nat){w:List Nat}{l:List (List Nat)}(hj:wix aH w=8)(hb:bx b=some (112,rdC (w::l) false):=by exact hQ)(how:oct w:=by assumption)(hbn:b<n:=by omega)(hl:l.length≤100000:=by exact hT)(ho:∀x∈l,oct x:=by first|assumption|exact tlo (by assumption)|exact tlo (tlo (by assumption)))(hw:∀x∈l,x.length≤1000000:=by first|assumption|exact tlo (by assumption)|exact tlo (tlo (by assumption))):Gxz 55 [.ref b 0] ⟨e,bx,n,h⟩ ⟨e,upd bx b (some (112,rdC l.tail.tail.tail.tail.tail ((((l.isEmpty||l.tail.isEmpty)||l.tail.tail.isEmpty||oH (hdW l.tail.tail))||iE l.tail.tail.tail)||iE l.tail.tail.tail.tail))),n+10000000,h⟩ (.agg (opC { oZ 8 with name:=hdW l,other:=hdW l.tail,exp:=(aZ (hdW l.tail.tail.tail)).1,src:=(aZ (hdW l.tail.tail.tail.tail)).1 } nls nls (byX (hdW l.tail.tail)) nls)):=by
 exact gG Tryz.func55 Tryz.results55 rfl (by exact xEz (aI (tO how hj) (fgX hb hbn)) trivial)
theorem aqd(b:Nat){w:List Nat}{l:List (List Nat)}(hj:wix aH w=9)(hb:bx b=some (112,rdC (w::l) false):=by exact hQ)(how:oct w:=by assumption)(hbn:b<n:=by omega)(hl:l.length≤100000:=by exact hT)(ho:∀x∈l,oct x:=by first|assumption|exact tlo (by assumption)|exact tlo (tlo (by assumption)))(hw:∀x∈l,x.length≤1000000:=by first|assumption|exact tlo (by assumption)|exact tlo (tlo (by assumption))):Gxz 55 [.ref b 0] ⟨e,bx,n,h⟩ ⟨e,upd bx b (some (112,[nls,vb false])),n+10000000,h⟩ (.agg (opC (oZ 9) (.sl (.own (n+1) 9) 1 (sv l)) nls nls nls)):=by
 have q1:=au l
 exact gG Tryz.func55 Tryz.results55 rfl (by exact xEz (aI (tO how hj) (fgX hb hbn)) trivial)
theorem ajp(b:Nat){w:List Nat}{l:List (List Nat)}(hj:wix aH w=11)(hb:bx b=some (112,rdC (w::l) false):=by exact hQ)(how:oct w:=by assumption)(hbn:b<n:=by omega)(hl:l.length≤100000:=by exact hT)(ho:∀x∈l,oct x:=by first|assumption|exact tlo (by assumption)|exact tlo (tlo (by assumption)))(hw:∀x∈l,x.length≤1000000:=by first|assumption|exact tlo (by assumption)|exact tlo (tlo (by assumption))):Gxz 55 [.ref b 0] ⟨e,bx,n,h⟩ ⟨e,upd bx b (some (112,rdC l.tail (iE l))),n+10000000,h⟩ (.agg (oC { oZ 11 with hnd:=(aZ (hdW l)).1 })):=by
 exact gG Tryz.func55 Tryz.results55 rfl (by exact xEz (aI (tO how hj) (fgX hb hbn)) trivial)
theorem ajF(b:Nat){w:List Nat}{l:List (List Nat)}(hj:wix aH w=12)(hb:bx b=some (112,rdC (w::l) false):=by exact hQ)(how:oct w:=by assumption)(hbn:b<n:=by omega)(hl:l.length≤100000:=by exact hT)(ho:∀x∈l,oct x:=by first|assumption|exact tlo (by assumption)|exact tlo (tlo (by assumption)))(hw:∀x∈l,x.length≤1000000:=by first|assumption|exact tlo (by assumption)|exact tlo (tlo (by assumption))):Gxz 55 [.ref b 0] ⟨e,bx,n,h⟩ ⟨e,upd bx b (some (112,rdC l.tail.tail (iE l||iE l.tail))),n+10000000,h⟩ (.agg (oC { oZ 12 with hnd:=(aZ (hdW l)).1,idx:=(aZ (hdW l.tail)).1 })):=by
 exact gG Tryz.func55 Tryz.results55 rfl (by exact xEz (aI (tO how hj) (fgX hb hbn)) trivial)
theorem ajG(b:Nat){w:List Nat}{l:List (List Nat)}(hj:wix aH w=15)(hb:bx b=some (112,rdC (w::l) false):=by exact hQ)(how:oct w:=by assumption)(hbn:b<n:=by omega)(hl:l.length≤100000:=by exact hT)(ho:∀x∈l,oct x:=by first|assumption|exact tlo (by assumption)|exact tlo (tlo (by assumption)))(hw:∀x∈l,x.length≤1000000:=by first|assumption|exact tlo (by assumption)|exact tlo (tlo (by assumption))):Gxz 55 [.ref b 0] ⟨e,bx,n,h⟩ ⟨e,upd bx b (some (112,rdC l.tail.tail (iE l||iE l.tail))),n+10000000,h⟩ (.agg (oC { oZ 15 with hnd:=(aZ (hdW l)).1,idx:=(aZ (hdW l.tail)).1 })):=by
 exact gG Tryz.func55 Tryz.results55 rfl (by exact xEz (aI (tO how hj) (fgX hb hbn)) trivial)
theorem ajH(b:Nat){w:List Nat}{l:List (List Nat)}(hj:wix aH w=10)(hb:bx b=some (112,rdC (w::l) false):=by exact hQ)(how:oct w:=by assumption)(hbn:b<n:=by omega)(hl:l.length≤100000:=by exact hT)(ho:∀x∈l,oct x:=by first|assumption|exact tlo (by assumption)|exact tlo (tlo (by assumption)))(hw:∀x∈l,x.length≤1000000:=by first|assumption|exact tlo (by assumption)|exact tlo (tlo (by assumption))):Gxz 55 [.ref b 0] ⟨e,bx,n,h⟩ ⟨e,upd bx b (some (112,rdC (qR (qK l.tail.tail) l.tail.tail) (qB (qK l.tail.tail) l.tail.tail (iE l||iE l.tail)))),n+10000000,h⟩ (.agg (oC { oZ 10 with hnd:=(aZ (hdW l)).1,idx:=(aZ (hdW l.tail)).1,qk:=(qK l.tail.tail:Nat),qkey:=Ql (qK l.tail.tail) l.tail.tail,qc:=qC (qK l.tail.tail) l.tail.tail,qn:=qN (qK l.tail.tail) l.tail.tail,qd:=qD (qK l.tail.tail) l.tail.tail })):=by
 exact gG Tryz.func55 Tryz.results55 rfl (by exact xEz (aI (tO how hj) (fgX hb hbn)) @aqz)
theorem ajI(b:Nat){w:List Nat}{l:List (List Nat)}(hj:wix aH w=13)(hb:bx b=some (112,rdC (w::l) false):=by exact hQ)(how:oct w:=by assumption)(hbn:b<n:=by omega)(hl:l.length≤100000:=by exact hT)(ho:∀x∈l,oct x:=by first|assumption|exact tlo (by assumption)|exact tlo (tlo (by assumption)))(hw:∀x∈l,x.length≤1000000:=by first|assumption|exact tlo (by assumption)|exact tlo (tlo (by assumption))):Gxz 55 [.ref b 0] ⟨e,bx,n,h⟩ ⟨e,upd bx b (some (112,rdC l.tail.tail (iE l||iE l.tail))),n+10000000,h⟩ (.agg (oC { oZ 13 with cur:=(aZ (hdW l)).1,cnt:=(aZ (hdW l.tail)).1 })):=by
 exact gG Tryz.func55 Tryz.results55 rfl (by exact xEz (aI (tO how hj) (fgX hb hbn)) trivial)
theorem ajJ(b:Nat){w:List Nat}{l:List (List Nat)}(hj:wix aH w=14)(hb:bx b=some (112,rdC (w::l) false):=by exact hQ)(how:oct w:=by assumption)(hbn:b<n:=by omega)(hl:l.length≤100000:=by exact hT)(ho:∀x∈l,oct x:=by first|assumption|exact tlo (by assumption)|exact tlo (tlo (by assumption)))(hw:∀x∈l,x.length≤1000000:=by first|assumption|exact tlo (by assumption)|exact tlo (tlo (by assumption))):Gxz 55 [.ref b 0] ⟨e,bx,n,h⟩ ⟨e,upd bx b (some (112,rdC l.tail (iE l))),n+10000000,h⟩ (.agg (oC { oZ 14 with cur:=(aZ (hdW l)).1 })):=by
 exact gG Tryz.func55 Tryz.results55 rfl (by exact xEz (aI (tO how hj) (fgX hb hbn)) trivial)
theorem ajK(b:Nat){w:List Nat}{l:List (List Nat)}(hj:wix aH w=16)(hb:bx b=some (112,rdC (w::l) false):=by exact hQ)(how:oct w:=by assumption)(hbn:b<n:=by omega)(hl:l.length≤100000:=by exact hT)(ho:∀x∈l,oct x:=by first|assumption|exact tlo (by assumption)|exact tlo (tlo (by assumption)))(hw:∀x∈l,x.length≤1000000:=by first|assumption|exact tlo (by assumption)|exact tlo (tlo (by assumption))):Gxz 55 [.ref b 0] ⟨e,bx,n,h⟩ ⟨e,upd bx b (some (112,rdC l.tail.tail (l.isEmpty||l.tail.isEmpty||oH (hdW l.tail)))),n+10000000,h⟩ (.agg (opC { oZ 16 with name:=hdW l } nls nls nls (byX (hdW l.tail)))):=by
 exact gG Tryz.func55 Tryz.results55 rfl (by exact xEz (aI (tO how hj) (fgX hb hbn)) trivial)
end Go.Proofs.YtjiolbcdfgclaaaGreatDoor
end
