/-
  Texts of this claim, merged; own names are short.
-/
import Derived.Test.YtjiolbcdfgclaaaGreatDoorWAQ
import Derived.Test.YtjiolbcdfgclaaaGreatDoorWAW
import Derived.Test.YtjiolbcdfgclaaaGreatDoorWAV
import Derived.ChangeSlices
import Derived.DataReads
import Derived.Test.YtjiolbcdfgclaaaGreatDoorWAG
import Derived.Test.YtjiolbcdfgclaaaGreatDoorTie
import Derived.Test.YtjiolbcdfgclaaaGreatDoorCards
import Derived.ProofKit
import Derived.LaidMore
import Derived.OpenShut
import Derived.Stop.Joined
import Derived.Stop.LaidErr
import Derived.SizedLaws
import Derived.ChangeMaps5
import Derived.SevenTiedAt
import Derived.HandedShaped
import Derived.Shelf.Vars
import Derived.Test.YtjiolbcdfgclaaaGreatDoorWAN
import Derived.Test.YtjiolbcdfgclaaaGreatDoorWAM
set_option linter.unusedVariables false
set_option linter.unusedSimpArgs false
set_option linter.unusedSectionVars false
set_option linter.defProp false
set_option maxRecDepth 100000
set_option maxHeartbeats 8000000
namespace Go.Proofs.YtjiolbcdfgclaaaGreatDoor
open Go Go.Pg
theorem amx:(⟨#[99,114,101,97,116,101]⟩:ByteArray)=sB [99,114,101,97,116,101]:=rfl
theorem amy:(⟨#[100,114,111,112]⟩:ByteArray)=sB [100,114,111,112]:=rfl
theorem amz:(⟨#[114,101,110,97,109,101]⟩:ByteArray)=sB [114,101,110,97,109,101]:=rfl
theorem amA:(⟨#[108,105,115,116]⟩:ByteArray)=sB [108,105,115,116]:=rfl
theorem amB:(⟨#[113,117,101,114,121]⟩:ByteArray)=sB [113,117,101,114,121]:=rfl
theorem amC:(⟨#[105,110,115,101,114,116]⟩:ByteArray)=sB [105,110,115,101,114,116]:=rfl
theorem amD:(⟨#[109,101,114,103,101]⟩:ByteArray)=sB [109,101,114,103,101]:=rfl
theorem amE:(⟨#[99,111,109,112,97,114,101]⟩:ByteArray)=sB [99,111,109,112,97,114,101]:=rfl
theorem amF:(⟨#[111,112,101,110]⟩:ByteArray)=sB [111,112,101,110]:=rfl
theorem akm:(⟨#[114,101,97,100]⟩:ByteArray)=sB [114,101,97,100]:=rfl
theorem akn:(⟨#[99,108,111,115,101]⟩:ByteArray)=sB [99,108,111,115,101]:=rfl
theorem ako:(⟨#[99,117,114,115,111,114]⟩:ByteArray)=sB [99,117,114,115,111,114]:=rfl
theorem akp:(⟨#[110,101,120,116]⟩:ByteArray)=sB [110,101,120,116]:=rfl
theorem akq:(⟨#[101,110,100]⟩:ByteArray)=sB [101,110,100]:=rfl
theorem akr:(⟨#[101,120,112,111,114,116]⟩:ByteArray)=sB [101,120,112,111,114,116]:=rfl
theorem aks:(⟨#[105,109,112,111,114,116]⟩:ByteArray)=sB [105,109,112,111,114,116]:=rfl
theorem akt:(⟨#[99,111,108,108,101,99,116]⟩:ByteArray)=sB [99,111,108,108,101,99,116]:=rfl
theorem agO(o:O)(ok:o.Ok)(hk:o.kind=1)(hv:vop o=0):Gxx 14 [.agg (opF o)] (.tup [vs (jn (opW o)),vi 0]):=by
 have h1:=cO o ok.oct (by have:=ok.names;omega) (by have:=ok.items;omega)
 rw[hv] at h1
 have e:opW o=[99,114,101,97,116,101]::o.name::qX o.pk o.pz o.pd o.ps:=by simp [opW,hk]
 have htot:=dM o ok
 rw[e] at htot ⊢
 have hprm:=ajN o.pk o.pz o.pd o.ps (pg (by omega) hv) ok.pz ok.pd ok.ps
 have hw:=afN o.pk o.pz o.pd o.ps
 have hjj:jn ([99,114,101,97,116,101]::o.name::qX o.pk o.pz o.pd o.ps)=jn [[99,114,101,97,116,101],o.name,jn (qX o.pk o.pz o.pd o.ps)]:=Pz [[99,114,101,97,116,101],o.name] hw
 rw[hjj]
 have hws:=dR [[99,114,101,97,116,101],o.name,jn (qX o.pk o.pz o.pd o.ps)] (by have:=PD (qX o.pk o.pz o.pd o.ps);simp only[bz,dL] at *;omega)
 obtain⟨kind,name,other,names,pk,pz,pd,ps,items,coins,exp,src,hnd,idx,cur,cnt,qk,qkey,qc,qn,qd,data⟩:=o
 simp only at *
 subst hk
 clear hv ok
 refine gI oD Tryz.func14 Tryz.results14 ?_
 exact wRA (aI @amx @ai) (aI h1 (aI hprm hws)) ah
theorem agP(o:O)(ok:o.Ok)(hk:o.kind=2)(hv:vop o=0):Gxx 14 [.agg (opF o)] (.tup [vs (jn (opW o)),vi 0]):=by
 have h1:=cO o ok.oct (by have:=ok.names;omega) (by have:=ok.items;omega)
 rw[hv] at h1
 have e:opW o=[100,114,111,112]::o.name::[]:=by simp [opW,hk]
 have htot:=dM o ok
 rw[e] at htot ⊢
 have hws:=dR [[100,114,111,112],o.name] (by skip;simp only[bz,dL] at *;omega)
 obtain⟨kind,name,other,names,pk,pz,pd,ps,items,coins,exp,src,hnd,idx,cur,cnt,qk,qkey,qc,qn,qd,data⟩:=o
 simp only at *
 subst hk
 clear hv ok
 refine gI oD Tryz.func14 Tryz.results14 ?_
 exact wRA (aI @amy @ai) (aI h1 hws) ah
theorem agQ(o:O)(ok:o.Ok)(hk:o.kind=3)(hv:vop o=0):Gxx 14 [.agg (opF o)] (.tup [vs (jn (opW o)),vi 0]):=by
 have h1:=cO o ok.oct (by have:=ok.names;omega) (by have:=ok.items;omega)
 rw[hv] at h1
 have e:opW o=[114,101,110,97,109,101]::o.name::o.other::[]:=by simp [opW,hk]
 have htot:=dM o ok
 rw[e] at htot ⊢
 have hws:=dR [[114,101,110,97,109,101],o.name,o.other] (by skip;simp only[bz,dL] at *;omega)
 obtain⟨kind,name,other,names,pk,pz,pd,ps,items,coins,exp,src,hnd,idx,cur,cnt,qk,qkey,qc,qn,qd,data⟩:=o
 simp only at *
 subst hk
 clear hv ok
 refine gI oD Tryz.func14 Tryz.results14 ?_
 exact wRA (aI @amz @ai) (aI h1 hws) ah
theorem agR(o:O)(ok:o.Ok)(hk:o.kind=4)(hv:vop o=0):Gxx 14 [.agg (opF o)] (.tup [vs (jn (opW o)),vi 0]):=by
 have h1:=cO o ok.oct (by have:=ok.names;omega) (by have:=ok.items;omega)
 rw[hv] at h1
 have e:opW o=[108,105,115,116]::[]:=by simp [opW,hk]
 have htot:=dM o ok
 rw[e] at htot ⊢
 rw[show jn [[108,105,115,116]]=[108,105,115,116] from rfl]
 obtain⟨kind,name,other,names,pk,pz,pd,ps,items,coins,exp,src,hnd,idx,cur,cnt,qk,qkey,qc,qn,qd,data⟩:=o
 simp only at *
 subst hk
 clear hv ok
 refine gI oD Tryz.func14 Tryz.results14 ?_
 exact wRA (aI @amA @ai) h1 ah
theorem agS(o:O)(ok:o.Ok)(hk:o.kind=5)(hv:vop o=0):Gxx 14 [.agg (opF o)] (.tup [vs (jn (opW o)),vi 0]):=by
 have h1:=cO o ok.oct (by have:=ok.names;omega) (by have:=ok.items;omega)
 rw[hv] at h1
 have e:opW o=[113,117,101,114,121]::o.name::lY o.qk o.qkey o.qc o.qn o.qd:=by simp [opW,hk]
 have htot:=dM o ok
 rw[e] at htot ⊢
 have hprm:=abv o.qk o.qkey o.qc o.qn o.qd (gm (by omega) hv) ok.qkey ok.qc ok.qn ok.qd
 have hw:=Sj o.qk o.qkey o.qc o.qn o.qd
 have hjj:jn ([113,117,101,114,121]::o.name::lY o.qk o.qkey o.qc o.qn o.qd)=jn [[113,117,101,114,121],o.name,jn (lY o.qk o.qkey o.qc o.qn o.qd)]:=Pz [[113,117,101,114,121],o.name] hw
 rw[hjj]
 have hws:=dR [[113,117,101,114,121],o.name,jn (lY o.qk o.qkey o.qc o.qn o.qd)] (by have:=PD (lY o.qk o.qkey o.qc o.qn o.qd);simp only[bz,dL] at *;omega)
 obtain⟨kind,name,other,names,pk,pz,pd,ps,items,coins,exp,src,hnd,idx,cur,cnt,qk,qkey,qc,qn,qd,data⟩:=o
 simp only at *
 subst hk
 clear hv ok
 refine gI oD Tryz.func14 Tryz.results14 ?_
 exact wRA (aI @amB @ai) (aI h1 (aI hprm hws)) ah
theorem agT(o:O)(ok:o.Ok)(hk:o.kind=7)(hv:vop o=0):Gxx 14 [.agg (opF o)] (.tup [vs (jn (opW o)),vi 0]):=by
 have h1:=cO o ok.oct (by have:=ok.names;omega) (by have:=ok.items;omega)
 rw[hv] at h1
 have e:opW o=[109,101,114,103,101]::o.name::o.other::fb o.coins::[]:=by simp [opW,hk]
 have htot:=dM o ok
 rw[e] at htot ⊢
 have hfb:=yT o.coins ok.oct.2.2.2.2.1 (by have:=ok.coins;omega)
 have hws:=dR [[109,101,114,103,101],o.name,o.other,fb o.coins] (by skip;simp only[bz,dL] at *;omega)
 obtain⟨kind,name,other,names,pk,pz,pd,ps,items,coins,exp,src,hnd,idx,cur,cnt,qk,qkey,qc,qn,qd,data⟩:=o
 simp only at *
 subst hk
 clear hv ok
 refine gI oD Tryz.func14 Tryz.results14 ?_
 exact wRA (aI @amD @ai) (aI h1 (aI hfb hws)) ah
theorem agU(o:O)(ok:o.Ok)(hk:o.kind=8)(hv:vop o=0):Gxx 14 [.agg (opF o)] (.tup [vs (jn (opW o)),vi 0]):=by
 have h1:=cO o ok.oct (by have:=ok.names;omega) (by have:=ok.items;omega)
 rw[hv] at h1
 have e:opW o=[99,111,109,112,97,114,101]::o.name::o.other::fb o.coins::ak o.exp::ak o.src::[]:=by simp [opW,hk]
 have htot:=dM o ok
 rw[e] at htot ⊢
 have hfb:=yT o.coins ok.oct.2.2.2.2.1 (by have:=ok.coins;omega)
 have h_exp:=jX o.exp ok.exp
 have h_src:=jX o.src ok.src
 have hws:=dR [[99,111,109,112,97,114,101],o.name,o.other,fb o.coins,ak o.exp,ak o.src] (by skip;simp only[bz,dL] at *;omega)
 obtain⟨kind,name,other,names,pk,pz,pd,ps,items,coins,exp,src,hnd,idx,cur,cnt,qk,qkey,qc,qn,qd,data⟩:=o
 simp only at *
 subst hk
 clear hv ok
 refine gI oD Tryz.func14 Tryz.results14 ?_
 exact wRA (aI @amE @ai) (aI h1 (aI hfb (aI h_exp (aI h_src hws)))) ah
theorem acJ(o:O)(ok:o.Ok)(hk:o.kind=10)(hv:vop o=0):Gxx 14 [.agg (opF o)] (.tup [vs (jn (opW o)),vi 0]):=by
 have h1:=cO o ok.oct (by have:=ok.names;omega) (by have:=ok.items;omega)
 rw[hv] at h1
 have e:opW o=[114,101,97,100]::ak o.hnd::ak o.idx::lY o.qk o.qkey o.qc o.qn o.qd:=by simp [opW,hk]
 have htot:=dM o ok
 rw[e] at htot ⊢
 have hprm:=abv o.qk o.qkey o.qc o.qn o.qd (gm (by omega) hv) ok.qkey ok.qc ok.qn ok.qd
 have hw:=Sj o.qk o.qkey o.qc o.qn o.qd
 have hjj:jn ([114,101,97,100]::ak o.hnd::ak o.idx::lY o.qk o.qkey o.qc o.qn o.qd)=jn [[114,101,97,100],ak o.hnd,ak o.idx,jn (lY o.qk o.qkey o.qc o.qn o.qd)]:=Pz [[114,101,97,100],ak o.hnd,ak o.idx] hw
 have h_hnd:=jX o.hnd ok.hnd
 have h_idx:=jX o.idx ok.idx
 rw[hjj]
 have hws:=dR [[114,101,97,100],ak o.hnd,ak o.idx,jn (lY o.qk o.qkey o.qc o.qn o.qd)] (by have:=PD (lY o.qk o.qkey o.qc o.qn o.qd);simp only[bz,dL] at *;omega)
 obtain⟨kind,name,other,names,pk,pz,pd,ps,items,coins,exp,src,hnd,idx,cur,cnt,qk,qkey,qc,qn,qd,data⟩:=o
 simp only at *
 subst hk
 clear hv ok
 refine gI oD Tryz.func14 Tryz.results14 ?_
 exact wRA (aI @akm @ai) (aI h1 (aI hprm (aI h_hnd (aI h_idx hws)))) ah
theorem acK(o:O)(ok:o.Ok)(hk:o.kind=11)(hv:vop o=0):Gxx 14 [.agg (opF o)] (.tup [vs (jn (opW o)),vi 0]):=by
 have h1:=cO o ok.oct (by have:=ok.names;omega) (by have:=ok.items;omega)
 rw[hv] at h1
 have e:opW o=[99,108,111,115,101]::ak o.hnd::[]:=by simp [opW,hk]
 have htot:=dM o ok
 rw[e] at htot ⊢
 have h_hnd:=jX o.hnd ok.hnd
 have hws:=dR [[99,108,111,115,101],ak o.hnd] (by skip;simp only[bz,dL] at *;omega)
 obtain⟨kind,name,other,names,pk,pz,pd,ps,items,coins,exp,src,hnd,idx,cur,cnt,qk,qkey,qc,qn,qd,data⟩:=o
 simp only at *
 subst hk
 clear hv ok
 refine gI oD Tryz.func14 Tryz.results14 ?_
 exact wRA (aI @akn @ai) (aI h1 (aI h_hnd hws)) ah
theorem acL(o:O)(ok:o.Ok)(hk:o.kind=12)(hv:vop o=0):Gxx 14 [.agg (opF o)] (.tup [vs (jn (opW o)),vi 0]):=by
 have h1:=cO o ok.oct (by have:=ok.names;omega) (by have:=ok.items;omega)
 rw[hv] at h1
 have e:opW o=[99,117,114,115,111,114]::ak o.hnd::ak o.idx::[]:=by simp [opW,hk]
 have htot:=dM o ok
 rw[e] at htot ⊢
 have h_hnd:=jX o.hnd ok.hnd
 have h_idx:=jX o.idx ok.idx
 have hws:=dR [[99,117,114,115,111,114],ak o.hnd,ak o.idx] (by skip;simp only[bz,dL] at *;omega)
 obtain⟨kind,name,other,names,pk,pz,pd,ps,items,coins,exp,src,hnd,idx,cur,cnt,qk,qkey,qc,qn,qd,data⟩:=o
 simp only at *
 subst hk
 clear hv ok
 refine gI oD Tryz.func14 Tryz.results14 ?_
 exact wRA (aI @ako @ai) (aI h1 (aI h_hnd (aI h_idx hws))) ah
theorem acM(o:O)(ok:o.Ok)(hk:o.kind=13)(hv:vop o=0):Gxx 14 [.agg (opF o)] (.tup [vs (jn (opW o)),vi 0]):=by
 have h1:=cO o ok.oct (by have:=ok.names;omega) (by have:=ok.items;omega)
 rw[hv] at h1
 have e:opW o=[110,101,120,116]::ak o.cur::ak o.cnt::[]:=by simp [opW,hk]
 have htot:=dM o ok
 rw[e] at htot ⊢
 have h_cur:=jX o.cur ok.cur
 have h_cnt:=jX o.cnt ok.cnt
 have hws:=dR [[110,101,120,116],ak o.cur,ak o.cnt] (by skip;simp only[bz,dL] at *;omega)
 obtain⟨kind,name,other,names,pk,pz,pd,ps,items,coins,exp,src,hnd,idx,cur,cnt,qk,qkey,qc,qn,qd,data⟩:=o
 simp only at *
 subst hk
 clear hv ok
 refine gI oD Tryz.func14 Tryz.results14 ?_
 exact wRA (aI @akp @ai) (aI h1 (aI h_cur (aI h_cnt hws))) ah
theorem acN(o:O)(ok:o.Ok)(hk:o.kind=14)(hv:vop o=0):Gxx 14 [.agg (opF o)] (.tup [vs (jn (opW o)),vi 0]):=by
 have h1:=cO o ok.oct (by have:=ok.names;omega) (by have:=ok.items;omega)
 rw[hv] at h1
 have e:opW o=[101,110,100]::ak o.cur::[]:=by simp [opW,hk]
 have htot:=dM o ok
 rw[e] at htot ⊢
 have h_cur:=jX o.cur ok.cur
 have hws:=dR [[101,110,100],ak o.cur] (by skip;simp only[bz,dL] at *;omega)
 obtain⟨kind,name,other,names,pk,pz,pd,ps,items,coins,exp,src,hnd,idx,cur,cnt,qk,qkey,qc,qn,qd,data⟩:=o
 simp only at *
 subst hk
 clear hv ok
 refine gI oD Tryz.func14 Tryz.results14 ?_
 exact wRA (aI @akq @ai) (aI h1 (aI h_cur hws)) ah
theorem acO(o:O)(ok:o.Ok)(hk:o.kind=15)(hv:vop o=0):Gxx 14 [.agg (opF o)] (.tup [vs (jn (opW o)),vi 0]):=by
 have h1:=cO o ok.oct (by have:=ok.names;omega) (by have:=ok.items;omega)
 rw[hv] at h1
 have e:opW o=[101,120,112,111,114,116]::ak o.hnd::ak o.idx::[]:=by simp [opW,hk]
 have htot:=dM o ok
 rw[e] at htot ⊢
 have h_hnd:=jX o.hnd ok.hnd
 have h_idx:=jX o.idx ok.idx
 have hws:=dR [[101,120,112,111,114,116],ak o.hnd,ak o.idx] (by skip;simp only[bz,dL] at *;omega)
 obtain⟨kind,name,other,names,pk,pz,pd,ps,items,coins,exp,src,hnd,idx,cur,cnt,qk,qkey,qc,qn,qd,data⟩:=o
 simp only at *
 subst hk
 clear hv ok
 refine gI oD Tryz.func14 Tryz.results14 ?_
 exact wRA (aI @akr @ai) (aI h1 (aI h_hnd (aI h_idx hws))) ah
theorem acP(o:O)(ok:o.Ok)(hk:o.kind=16)(hv:vop o=0):Gxx 14 [.agg (opF o)] (.tup [vs (jn (opW o)),vi 0]):=by
 have h1:=cO o ok.oct (by have:=ok.names;omega) (by have:=ok.items;omega)
 rw[hv] at h1
 have e:opW o=[105,109,112,111,114,116]::o.name::fb o.data::[]:=by simp [opW,hk]
 have htot:=dM o ok
 rw[e] at htot ⊢
 have hfb:=yT o.data ok.oct.2.2.2.2.2.2 (by have:=ok.data;omega)
 have hws:=dR [[105,109,112,111,114,116],o.name,fb o.data] (by skip;simp only[bz,dL] at *;omega)
 obtain⟨kind,name,other,names,pk,pz,pd,ps,items,coins,exp,src,hnd,idx,cur,cnt,qk,qkey,qc,qn,qd,data⟩:=o
 simp only at *
 subst hk
 clear hv ok
 refine gI oD Tryz.func14 Tryz.results14 ?_
 exact wRA (aI @aks @ai) (aI h1 (aI hfb hws)) ah
theorem acQ(o:O)(ok:o.Ok)(hk:o.kind=17)(hv:vop o=0):Gxx 14 [.agg (opF o)] (.tup [vs (jn (opW o)),vi 0]):=by
 have h1:=cO o ok.oct (by have:=ok.names;omega) (by have:=ok.items;omega)
 rw[hv] at h1
 have e:opW o=[99,111,108,108,101,99,116]::[]:=by simp [opW,hk]
 have htot:=dM o ok
 rw[e] at htot ⊢
 rw[show jn [[99,111,108,108,101,99,116]]=[99,111,108,108,101,99,116] from rfl]
 obtain⟨kind,name,other,names,pk,pz,pd,ps,items,coins,exp,src,hnd,idx,cur,cnt,qk,qkey,qc,qn,qd,data⟩:=o
 simp only at *
 subst hk
 clear hv ok
 refine gI oD Tryz.func14 Tryz.results14 ?_
 exact wRA (aI @akt @ai) h1 ah
theorem agV(o:O)(ok:o.Ok)(hk:o.kind=6)(hv:vop o=0):Gxx 14 [.agg (opF o)] (.tup [vs (jn (opW o)),vi 0]):=by
 have h1:=cO o ok.oct (by have:=ok.names;omega) (by have:=ok.items;omega)
 rw[hv] at h1
 have e:opW o=qU o:=by simp [opW,hk]
 have hfb:=yT o.coins ok.oct.2.2.2.2.1 (by have:=ok.coins;omega)
 have hits:∀x∈o.items,oct x.1∧fH x.1=true∧Wt x.2:=fun x hx=>⟨ok.oct.2.2.2.1 x hx,((IL hk hv).2 x hx).1,ok.wts x hx⟩
 have hil:=ok.items
 have hwt:=ok.wts
 have hp1:=ok.name
 have hp2:=uT o.coins
 have hp3:=ok.coins
 rw[e]
 unfold qU
 have hpt:tot [[105,110,115,101,114,116],o.name,fb o.coins]≤10000:=by simp only[bz,dL,List.length_cons,List.length_nil];omega
 have hw0:=dR [[105,110,115,101,114,116],o.name,fb o.coins] (by omega)
 obtain⟨kind,name,other,names,pk,pz,pd,ps,items,coins,exp,src,hnd,idx,cur,cnt,qk,qkey,qc,qn,qd,data⟩:=o
 simp only at *
 subst hk
 clear hv ok e hp1 hp2 hp3
 refine gI oD Tryz.func14 Tryz.results14 ?_
 refine wSA (aI @amC @ai) (aI h1 (aI hfb hw0)) ?_
 generalize hpre:([[105,110,115,101,114,116],name,fb coins]:List (List Nat))=pre at *
 have hne:pre≠[]:=by rw[←hpre];simp
 refine aK (fun i:Nat=>mkA [(1,.ref 0 0),(5,vs (jn (pre++lL (items.take i)))),(6,vi i)] [(0,(32,opF ⟨6,name,other,names,pk,pz,pd,ps,items,coins,exp,src,hnd,idx,cur,cnt,qk,qkey,qc,qn,qd,data⟩))] 1 (fun _ => .top)) (fun i=>i≤items.length) (fun i=>items.length-i) 0 [] [0] ?_ (Nat.zero_le _) ?_
 ·refine kL ?_
  all_goals first|exact pR rfl rfl|exact gq (by simp [lL])
 ·intro i hi
  replace hi:i≤items.length:=hi
  rcases Nat.lt_or_ge i items.length with hlt|hge
  ·have hg:=sS items i hlt
   have hx:=getD_some items i ([],0) hlt
   have hmem:items.getD i ([],0)∈items:=by rw[List.getD_eq_getElem?_getD,List.getElem?_eq_getElem hlt];exact List.getElem_mem hlt
   have hit:=hits _ hmem
   have hnx:=Gl items i _ hx
   have ht1:=yQ (items.take i) fun x hx=>hwt x (List.mem_of_mem_take hx)
   have ht2:(items.take i).length≤i:=by simp;omega
   generalize items.getD i ([],0)=x at hg hx hmem hit hnx
   obtain⟨k,n⟩:=x
   simp only at hit hnx
   have hl1:=zZ k
   have hl2:=dS hit.2.2
   have hl3:=xg (pre++lL (items.take i))
   rw[yw] at hl3
   have hw1:=dR [jn (pre++lL (items.take i)),kw k,ak n] (by simp only[bz,dL];omega)
   rw[ag7 (by simp [hne]),List.append_assoc,←hnx] at hw1
   clear hl1 hl2 hl3 ht1 ht2
   have hil2:=aB items
   refine wSA (aI @hg (aI @aB @ai)) (aI (PK k hit.1 hit.2.1) (aI (jX n hit.2.2) hw1)) ?_
   exact bE (i+1) [] [0] hlt
  ·have:i=items.length:=by omega
   subst this
   rw[List.take_length]
   refine wSA @aB trivial ?_
   (refine rT [] ?_;first|rfl|simp only[pgo,simprocAttr]|skip)
   rw[←hpre];rfl
theorem agW(o:O)(ok:o.Ok)(hk:o.kind=9)(hv:vop o=0):Gxx 14 [.agg (opF o)] (.tup [vs (jn (opW o)),vi 0]):=by
 have h1:=cO o ok.oct (by have:=ok.names;omega) (by have:=ok.items;omega)
 rw[hv] at h1
 have e:opW o=[[111,112,101,110]]++o.names:=by simp [opW,hk]
 have htn:=abk ok.names ok.nm
 have hnl:=ok.names
 rw[e]
 obtain⟨kind,name,other,names,pk,pz,pd,ps,items,coins,exp,src,hnd,idx,cur,cnt,qk,qkey,qc,qn,qd,data⟩:=o
 simp only at *
 subst hk
 clear hv ok e
 refine gI oD Tryz.func14 Tryz.results14 ?_
 refine wSA (aI @amF @ai) h1 ?_
 generalize hpre:([[111,112,101,110]]:List (List Nat))=pre at *
 have hne:pre≠[]:=by rw[←hpre];simp
 have hpt:tot pre≤10:=by rw[←hpre];decide
 refine aK (fun i:Nat=>mkA [(1,.ref 0 0),(7,vs (jn (pre++names.take i))),(8,vi i)] [(0,(32,opF ⟨9,name,other,names,pk,pz,pd,ps,items,coins,exp,src,hnd,idx,cur,cnt,qk,qkey,qc,qn,qd,data⟩))] 1 (fun _ => .top)) (fun i=>i≤names.length) (fun i=>names.length-i) 0 [] [0] ?_ (Nat.zero_le _) ?_
 ·refine kL ?_
  all_goals first|exact pR rfl rfl|exact gq (by rw[←hpre];rfl)
 ·intro i hi
  replace hi:i≤names.length:=hi
  rcases Nat.lt_or_ge i names.length with hlt|hge
  ·have hg:=iK names i hlt
   have hx:=getD_some names i [] hlt
   have hnx:names.take (i+1)=names.take i++[names.getD i []]:=by
    rw[List.take_succ_eq_append_getElem hlt];congr 1;simp [List.getD,hlt]
   have ht1:=KH names i
   have ht2:=KI names i
   have hl3:=xg (pre++names.take i)
   rw[yw] at hl3
   generalize names.getD i []=x at hg hx hnx ht2
   have hw1:=dR [jn (pre++names.take i),x] (by simp only[bz,dL];omega)
   rw[ag7 (by simp [hne]),List.append_assoc,←hnx] at hw1
   clear ht1 ht2 hl3
   have hil2:=au names
   refine wSA (aI @hg (aI @au @ai)) hw1 ?_
   exact bE (i+1) [] [0] hlt
  ·have:i=names.length:=by omega
   subst this
   rw[List.take_length]
   refine wSA @au trivial ?_
   (refine rT [] ?_;first|rfl|simp only[pgo,simprocAttr]|skip)
   rw[←hpre];rfl
def fmtO(o:O):List Nat:=if vop o=0 then jn (opW o) else []
theorem acR(o:O)(hk:o.kind=6):opW o=qU o:=by simp [opW,hk]
theorem Tf(o:O)(ok:o.Ok):Gxx 13 [.agg (opF o)] (.tup [vs (fmtO o),vi (vop o)]):=by
 unfold fmtO
 by_cases hv:vop o=0
 ·rw[if_pos hv,hv]
  rcases nU (k:=o.kind) (by have:=(bW hv).1;omega) with h|h|h|h|h|h|h|h|h|h|h|h|h|h|h|h|h
  ·exact acB o ok h hv
  ·exact acC o ok h hv
  ·exact acD o ok h hv
  ·exact acE o ok h hv
  ·exact acF o ok h hv
  ·rw[acR o h];exact La o ok.oct h hv ok.coins ok.name ok.items ok.wts
  ·exact acG o ok h hv
  ·exact acH o ok h hv
  ·exact acI o ok h hv
  ·exact Wq o ok h hv
  ·exact Ws o ok h hv
  ·exact Wu o ok h hv
  ·exact Wv o ok h hv
  ·exact Wx o ok h hv
  ·exact Wy o ok h hv
  ·exact WA o ok h hv
  ·exact WB o ok h hv
 ·rw[if_neg hv]
  have h1:=dH o ok.oct
  generalize vop o=v at *
  refine gI oD Tryz.func13 Tryz.results13 ?_
  exact wRA @ai h1 ah
theorem MR(o:O)(ok:o.Ok):Gxx 14 [.agg (opF o)] (.tup [vs (fmtO o),vi (vop o)]):=by
 unfold fmtO
 by_cases hv:vop o=0
 ·rw[if_pos hv,hv]
  rcases nU (k:=o.kind) (by have:=(bW hv).1;omega) with h|h|h|h|h|h|h|h|h|h|h|h|h|h|h|h|h
  ·exact agO o ok h hv
  ·exact agP o ok h hv
  ·exact agQ o ok h hv
  ·exact agR o ok h hv
  ·exact agS o ok h hv
  ·exact agV o ok h hv
  ·exact agT o ok h hv
  ·exact agU o ok h hv
  ·exact agW o ok h hv
  ·exact acJ o ok h hv
  ·exact acK o ok h hv
  ·exact acL o ok h hv
  ·exact acM o ok h hv
  ·exact acN o ok h hv
  ·exact acO o ok h hv
  ·exact acP o ok h hv
  ·exact acQ o ok h hv
 ·rw[if_neg hv]
  have h1:=cO o ok.oct (by have:=ok.names;omega) (by have:=ok.items;omega)
  generalize vop o=v at *
  refine gI oW Tryz.func14 Tryz.results14 ?_
  exact wR @ai h1 ah
theorem acS(o:O)(ok:o.Ok)(hv:vop o=0):oct (jn (opW o)):=aiG fun x hx=>(dX o ok hv x hx).1
def lszOk(o:O):Prop:=o.names.length≤20∧o.items.length≤70∧o.name.length≤100∧o.other.length≤100∧o.coins.length≤100∧o.data.length≤1000∧o.qkey.length≤100
instance (o:O):Decidable (lszOk o):=by unfold lszOk;infer_instance
structure O.In (o:O):Prop where
 oct:o.Oct
 kind:Wt o.kind
 pk:Wt o.pk
 pz:Wt o.pz
 pd:Wt o.pd
 ps:0≤o.ps∧o.ps<18446744073709551616
 exp:Wt o.exp
 src:Wt o.src
 hnd:Wt o.hnd
 idx:Wt o.idx
 cur:Wt o.cur
 cnt:Wt o.cnt
 qk:Wt o.qk
 qc:Wt o.qc
 qn:Wt o.qn
 qd:Wt o.qd
 wts:∀x∈o.items,Wt x.2
def noD(o:O):O:={ o with data:=[] }
theorem akx{o:O}(ok:o.Ok):(noD o).Ok:=by
 obtain⟨⟨o1,o2,o3,o4,o5,o6,o7⟩,w1,w2,w3,w4,w5,w6,w7,w8,w9,w10,w11,w12,w13,n1,n2,n3,n4,n5,n6,n7⟩:=ok
 exact⟨⟨o1,o2,o3,o4,o5,o6,dV⟩,w1,w2,w3,w4,w5,w6,w7,w8,w9,w10,w11,w12,w13,n1,n2,n3,n4,n5,n6,Nat.zero_le _⟩
structure Sp (x:O) (C:List V):Prop where
 f1:Gxx 13 [.agg C] (.tup [vs (fmtO x),vi (vop x)])
 f2:Gxx 14 [.agg C] (.tup [vs (fmtO x),vi (vop x)])
 w1:vop x=0→Gxx 16 [vs (fmtO x)] (.sl (.own 0 9) 1 (sv (opW x)))
 p1:vop x=0→Gxx 15 [fzs (opW x)] (.tup [.agg (opF x),vi 0])
 s1:Gxx 17 [.agg C,.agg (opF x)] (vb true)
end Go.Proofs.YtjiolbcdfgclaaaGreatDoor
section
namespace Go.Pg
open Go Go.ChangeShapes Go.WideShapes
theorem ao4{w:World}{g o:Nat}{vs:List Value}(hp:0<vs.length)(h:∀i,i<vs.length→w.cell? ⟨g,o+i,none⟩=vs[i]?):Pg.Row w g o vs:=by
 have h0:=h 0 hp
 rw[List.getElem?_eq_getElem hp] at h0
 unfold World.cell? at h0
 split at h0
 ·rename_i arr e fr hg
  refine⟨arr,e,fr,hg, ?_⟩
  apply List.ext_getElem?
  intro i
  rw[List.getElem?_take]
  split
  ·rename_i hi
   have hi':=h i hi
   unfold World.cell? at hi'
   simp only[hg] at hi'
   rw[List.getElem?_drop,Array.getElem?_toList]
   simpa using hi'
  ·rename_i hi
   rw[List.getElem?_eq_none (by omega)]
 ·cases h0
section
variable {H:Type} {enc:TypeId × Value→H} {P:Program} {w:World} {base:Nat} {spare:Nat→Bool} {held:Bool}
structure Elem (enc:TypeId × Value→H) (P:Program) (w:World) (base:Nat) (spare:Nat→Bool) (held:Bool) (e:TypeId) (k:Nat) {α:Type} (Ok:α→Prop) (el:α→V) (elc:α→List Value):Prop where
 pos:0<k
 cells:P.cellsOf e=k
 len:∀a,(elc a).length=k
 get:∀n cs x,DataW.trod enc P w base spare held n e cs=some x→∃a,Ok a∧cs=elc a
 rep:∀a L w',∃u:Value,u.cells.toList=elc a∧u.cells.size=k∧((el a).free=true∧u.cells.toList.all Value.oneCell'=true)∧Rep L w' (el a) u
theorem Elem.repE{e:TypeId}{k:Nat}{α:Type}{Ok:α→Prop}{el:α→V}{elc:α→List Value}(E:Elem enc P w base spare held e k Ok el elc)(L:Lay)(w':World):∀l:List α,RepE L w' k (l.map el) (l.map elc).flatten:=by
 intro l
 induction l with
 | nil=>rfl
 | cons a l ih =>
  obtain⟨u,h1,h2,h3,h4⟩:=E.rep a L w'
  exact⟨u,(l.map elc).flatten,by rw[h1];rfl,h2,h3,h4,ih⟩
theorem ao9{t e:TypeId}{k:Nat}{α:Type}{Ok:α→Prop}{el:α→V}{elc:α→List Value}(E:Elem enc P w base spare held e k Ok el elc)(ht:P.underlying t=some (.slice e)){fuel:Nat}{cs:List Value}{x:DataW H × List MemPlace}(h:DataW.trod enc P w base spare held fuel t cs=some x) :
  ∃l:List α,(∀a∈l,Ok a)∧∃u,cs=[u]∧Rep ⟨fun g=>g<w.heap.size,fun _=>none,fun _=>none⟩ w (.sl .fz k (l.map el)) u:=by
 rcases DataW.trod_slice ht h with ⟨rfl,_⟩|⟨a,len,cap,elems,rest,n,_,rfl,rfl,hb,hl,hm,hlen,hel,_,_⟩
 ·exact⟨[],(fun a h=>by cases h),_,rfl,none,0,[],rfl,rfl,Nat.le_refl _,.inl rfl⟩
 have each:∀i,i<len→∃y:α,Ok y∧w.cells? base (a.add (i*k)) k=some (elc y):=by
  intro i hi
  have h1:=hel i hi
  rw[E.cells,List.getElem?_eq_getElem (by omega),Option.bind_eq_some_iff] at h1
  obtain⟨cs',h2,h3⟩:=h1
  obtain⟨y,hy,rfl⟩:=E.get _ _ _ h3
  exact⟨y,hy,h2⟩
 rcases Nat.eq_zero_or_pos len with hz|hz
 ·subst hz
  exact⟨[],(fun a h=>by cases h),_,rfl,some a,cap,[],rfl,rfl,Nat.zero_le _,.inl rfl⟩
 obtain⟨g,o,spot⟩:=a
 have hspot:spot=none:=by
  obtain⟨y,hy,hc⟩:=each 0 hz
  obtain⟨hcb,hcl,hcc⟩:=World.cells?_some hc
  have h5:=hcc 0 E.pos
  rw[List.getElem?_eq_getElem (by rw[hcl];exact E.pos)] at h5
  have:=World.cell?_spot h5
  simpa [Addr.add] using this
 subst hspot
 have main:∀m,m≤len→∃l:List α,l.length=m∧(∀y∈l,Ok y)∧((l.map elc).flatten).length=m*k∧∀j,j<m*k→w.cell? ((⟨g,o,none⟩:Addr).add j)=((l.map elc).flatten)[j]?:=by
  intro m
  induction m with
  | zero=>intro _;exact⟨[],rfl,(fun y h=>by cases h),by simp,fun j hj=>by omega⟩
  | succ m ih =>
   intro hm'
   obtain⟨l,h1,h2,h3,h4⟩:=ih (by omega)
   obtain⟨y,hy,hc⟩:=each m (by omega)
   obtain⟨hcb,hcl,hcc⟩:=World.cells?_some hc
   have hyl:=E.len y
   refine⟨l++[y],by simp [h1], ?_, ?_, ?_⟩
   ·intro z hz
    rcases List.mem_append.1 hz with hz|hz
    ·exact h2 z hz
    ·rw[List.mem_singleton.1 hz];exact hy
   ·rw[List.map_append,List.flatten_append,List.length_append,h3,Nat.add_mul]
    simp [hyl]
   ·intro j hj
    rw[Nat.add_mul,Nat.one_mul] at hj
    rw[List.map_append,List.flatten_append]
    rcases Nat.lt_or_ge j (m*k) with hlt|hge
    ·rw[List.getElem?_append_left (by omega)];exact h4 j hlt
    ·rw[List.getElem?_append_right (by omega),h3]
     have h5:=hcc (j-m*k) (by omega)
     have e1:((⟨g,o,none⟩:Addr).add (m*k)).add (j-m*k)=(⟨g,o,none⟩:Addr).add j:=by
      rw[Pg.kU,Pg.kU,Pg.kU,Nat.add_assoc,Nat.add_sub_cancel' hge]
     rw[e1] at h5
     simpa using h5
 obtain⟨l,h1,h2,h3,h4⟩:=main len (Nat.le_refl _)
 refine⟨l,h2,_,rfl,some ⟨g,o,none⟩,cap,(l.map elc).flatten,by rw[List.length_map,h1],E.repE _ _ l, ?_⟩
 rw[List.length_map,h1]
 refine⟨hl, ?_⟩
 rcases Nat.eq_zero_or_pos len with h0|h0
 ·exact .inl h0
 ·right
  have hpos:0<len*k:=Nat.mul_pos h0 E.pos
  have hrow:Pg.Row w g o (l.map elc).flatten:=by
   refine ao4 (by omega) (fun i hi => ?_)
   have:=h4 i (by omega)
   rw[Pg.kU] at this
   exact this
  refine⟨g,o,rfl, ?_,hrow⟩
  obtain⟨arr,e',fr,hg,_⟩:=hrow
  exact (Array.getElem?_eq_some_iff.1 hg).1
end
end Go.Pg
end
section
namespace Go.Proofs.YtjiolbcdfgclaaaGreatDoor
open Go Go.ChangeShapes Go.WideShapes Go.ChangeAt Go.RowKit
theorem own:ownKnob Tryz.prog.godebug=none:=by kernel_rfl
theorem aoO:laidOutB Tryz.prog=true:=by kernel_rfl
theorem apa:Tryz.prog.globalNamed "internal/strconv.uint64pow10" = some 0:=by kernel_rfl
theorem apb:(Tryz.prog.globals[0]?).map (·.type)=some 256:=by kernel_rfl
theorem apc:Tryz.prog.cellsOf 256=20:=by kernel_rfl
theorem apd:Tryz.prog.cellsOf 24=1:=by kernel_rfl
theorem ape:(Rows.laid_internal_strconv_uint64pow10:DataW Unit)=Lib.tabData .u64 Lib.pow10Tab:=by kernel_rfl
theorem gBr:Tryz.prog.globalNamed "math/bits.deBruijn64tab" = some 3:=by kernel_rfl
theorem tBr:(Tryz.prog.globals[3]?).map (·.type)=some 283:=by kernel_rfl
theorem cBr:Tryz.prog.cellsOf 283=64:=by kernel_rfl
theorem cBe:Tryz.prog.cellsOf 5=1:=by kernel_rfl
theorem brD:(Rows.laid_math_bits_deBruijn64tab:DataW Unit)=Lib.tabData .u8 bruijn:=by kernel_rfl
theorem aoL{W:World}(h:W.ShapedOpen Tryz.prog):∃m,W.cell? ⟨1,0,none⟩=some (.int .i64 m) :=
 cell_of_shapedOpen_int (zero:=#[.int .i64 0]) (t:=3) h (of_decide_eq_true (by kernel_rfl)) (by kernel_rfl) rfl (by kernel_rfl) (by kernel_rfl) Tryz.underlying3
theorem aoE{W:World}{n1:String}{d1:DataW Unit}{rest:List (String × DataW Unit)}(h:laidMet Tryz.prog ((n1,d1)::("math/bits.deBruijn64tab",Rows.laid_math_bits_deBruijn64tab)::("internal/strconv.uint64pow10",Rows.laid_internal_strconv_uint64pow10)::rest) W)(hsh:W.ShapedOpen Tryz.prog):Pg.Tb.T Tryz.prog W:=by
 have h1:laidMet Tryz.prog (("math/bits.deBruijn64tab",Rows.laid_math_bits_deBruijn64tab)::("internal/strconv.uint64pow10",Rows.laid_internal_strconv_uint64pow10)::rest) W:=h.tail
 have h2:laidMet Tryz.prog (("internal/strconv.uint64pow10",Rows.laid_internal_strconv_uint64pow10)::rest) W:=h.tail.tail
 rw[ape] at h2
 rw[brD] at h1
 exact⟨Lib.tabIs_of_head apa apb Tryz.underlying256 Tryz.underlying24 apd apc h2,aoL hsh,Lib.tabIs_of_head gBr tBr Tryz.underlying283 Tryz.underlying5 cBe cBr h1⟩
theorem aox{n:Int}(h:(Lit.int .i64 n).wf=true):Wt n:=by
 simp only[Lit.wf,Bool.and_eq_true,decide_eq_true_eq] at h
 have e1:IntKind.i64.min = -9223372036854775808:=rfl
 have e2:IntKind.i64.max=9223372036854775807:=rfl
 rw[e1,e2] at h
 exact h
theorem ao6{W W':World}(hk:Pg.Kp (fun _=>False) W.heap.size W W'):Below W.heap.size W W':=⟨hk.os,hk.tape,hk.output,hk.size,fun k h=>hk.block k h (fun h=>h)⟩
section
variable {H:Type} {enc:TypeId × Value→H}
theorem aoA{a:Assume}{C:Checked}{os:Os}{f:FuncId}{fn:Func}{s:ChangeSpec}{conds:List PathCond}{apart fresh handsOn again:Bool}{X:World→Array Value→Prop}
  (hX:∀(w w':World) (args:Array Value),w.heap=w'.heap→X w args→X w' args)
  (own:ownKnob C.prog.godebug=none) (started:os.Started) (noInit:C.prog.inits.idxOf? f=none) (hfn:C.prog.funcs[f]?=some fn)
  (witness:∃(w:World) (tape:Tape) (i:Input),w.os=os∧(w.forCall tape i).Shaped C.prog∧i.vars=[]∧Input.okWide C.prog (w.forCall tape i) .any w.heap.size f i ∧
   ((s.pre enc C.prog fn conds apart (w.forCall tape i).memory i.args∧X (w.forCall tape i).memory i.args)∧sizedMet enc C.prog fn (OpenSpec.ofChange s) apart (w.forCall tape i).memory i.args)∧a.holds C.prog (lone (Frame.enter C.prog f i.args .normal) [] (w.forCall tape i)))
  (contract:∀(W:World) (base:Nat) (args:Array Value) (ds gs:List (DataW H)) (before:List MemPlace),
   (∀(j:Nat) t v,fn.params[j]?=some t→args[j]?=some v→Value.okWide C.prog W .any base t v) →
   DataW.Whole enc C.prog fn.params.toList s.vars apart W args.toList ds gs before →
   X W args→W.ShapedOpen C.prog →
   Calls C.prog f args W fun e W'=>∃v,e = .returned v∧s.post enc C.prog fn apart fresh handsOn again W args v W') :
  ReturnsInHanded a C os f .any (fun w args=>(s.pre enc C.prog fn conds apart w args∧X w args)∧sizedMet enc C.prog fn (OpenSpec.ofChange s) apart w args) (s.post enc C.prog fn apart fresh handsOn again):=by
 refine returnsInHanded_of_calls own started noInit witness ?_
 intro w tape i _ hsh _ hok hpre _
 obtain⟨_,_,_,fn',hfn',_,_,_,_,hval⟩:=hok
 have e:fn'=fn:=Option.some.inj (hfn'.symm.trans hfn)
 subst e
 obtain⟨⟨⟨ds,gs,before,hw,_⟩,hx⟩,_⟩:=hpre
 have hw':=DataW.Whole.of_heap (w':=w.forCall tape i) (by rfl) hw
 refine (contract (w.forCall tape i) w.heap.size i.args ds gs before hval hw' (hX _ _ _ (by rfl) hx) hsh).mono fun e W' ⟨v,he,hp⟩ => ?_
 subst he
 exact ChangeSpec.post_blind hp
end
end Go.Proofs.YtjiolbcdfgclaaaGreatDoor
end
section
namespace Go.Proofs.YtjiolbcdfgclaaaGreatDoor
open Go Go.ChangeShapes Go.WideShapes Go.ChangeAt Go.RowKit
section
variable {H:Type} {enc:TypeId × Value→H} {w:World} {base:Nat} {spare:Nat→Bool} {held:Bool}
theorem ao2:Pg.Elem enc Tryz.prog w base spare held 3 1 Wt (fun n=>Pg.V.c (.int .i64 n)) (fun n=>[Value.int .i64 n]) where
 pos:=by decide
 cells:=by kernel_rfl
 len:=fun _=>rfl
 get:=fun n cs x h=>by
  obtain⟨m,rfl,_,hw⟩:=DataW.trod_int Tryz.underlying3 h
  exact⟨m,aox hw,rfl⟩
 rep:=fun n L w'=>⟨.int .i64 n,by simp [Value.cells],rfl,⟨rfl,rfl⟩,rfl⟩
theorem ci:Tryz.prog.cellsOf 3=1:=by kernel_rfl
abbrev LW(w:World):Pg.Lay:=⟨fun g=>g<w.heap.size,fun _=>none,fun _=>none⟩
theorem aoS{n:Nat}{v:Value}{a:Option Addr}{len cap:Nat}{x:DataW H × List MemPlace}(hv:v = .slice a len cap)(h:DataW.trod enc Tryz.prog w base spare held n 22 v.cells.toList=some x):∃l:List Int,l.length≤9223372036854775807∧Pg.Rep (LW w) w (fzi l) v:=by
 subst hv
 obtain⟨l,hl,u,e,r⟩:=Pg.ao9 ao2 Tryz.underlying22 h
 have hu:u = .slice a len cap:=by simp [Value.cells] at e;exact e.symm
 subst hu
 refine⟨l, ?_,r⟩
 obtain⟨b,c,row,h1,_,h2,_⟩:=r
 injection h1 with h1 h3 h4
 have hll:(List.map (fun n=>Pg.V.c (.int .i64 n)) l).length=l.length:=List.length_map ..
 rcases DataW.trod_slice Tryz.underlying22 h with ⟨g,_⟩|⟨a',len',cap',_,_,_,_,g,_,_,g2,g3,_⟩
 ·simp [Value.cells] at g
  omega
 ·simp [Value.cells] at g
  have:maxLen=9223372036854775807:=rfl
  omega
end
end Go.Proofs.YtjiolbcdfgclaaaGreatDoor
end
namespace Go.Proofs.YtjiolbcdfgclaaaGreatDoor
open Go Go.Pg
structure Ev where
 k:Int
 s:Int
 o:O
abbrev oE:O:=⟨0,[],[],[],0,0,0,0,[],[],0,0,0,0,0,0,0,[],0,0,0,[]⟩
abbrev xvC(e:Ev):List V:=[vi e.k,vi e.s,vi e.o.kind,vs e.o.name,vs e.o.other,fzs e.o.names,vi e.o.pk,vi e.o.pz,vi e.o.pd,vu e.o.ps,fzt e.o.items,fzb e.o.coins,vi e.o.exp,vi e.o.src,vi e.o.hnd,vi e.o.idx,vi e.o.cur,vi e.o.cnt,vi e.o.qk,vs e.o.qkey,vi e.o.qc,vi e.o.qn,vi e.o.qd,fzb e.o.data]
abbrev xvZ(k s:Int):List V:=[vi k,vi s,vi 0,vs [],vs [],nls,vi 0,vi 0,vi 0,vu 0,nls,nls,vi 0,vi 0,vi 0,vi 0,vi 0,vi 0,vi 0,vs [],vi 0,vi 0,vi 0,nls]
theorem ajR(k s:Int):wkF (xvZ k s) (xvC ⟨k,s,oE⟩):=by
 have z:∀(t:Nat),(nls=V.sl .fz t []∨(nls = .c (.slice none 0 0)∧∃k',V.sl .fz t [] = .sl .fz k' [])):=fun t => .inr ⟨rfl,t,rfl⟩
 (repeat' (first|exact trivial|refine⟨.inl rfl, ?_⟩|refine⟨z _, ?_⟩))
def xvV(l:List Ev):List V:=l.map fun e => .agg (xvC e)
theorem aba(l:List Ev):(xvV l).length=l.length:=by simp [xvV]
theorem acT(l:List Ev)(i:Nat)(h:i<l.length)(d:Ev):(xvV l)[i]?=some (.agg (xvC (l.getD i d))):=by simp [xvV,List.getD,h]
theorem aku(l:List Ev)(i:Nat)(e:Ev):(xvV l).set i (.agg (xvC e))=xvV (l.set i e):=by simp [xvV,List.map_set]
abbrev fzx(l:List Ev):V := .sl .fz 24 (xvV l)
def xvB(l:List Int)(ss i:Nat):Ev :=
 if atN l i / 16%16<5 then ⟨1,((atN l i%ss:Nat):Int),jl l i⟩
 else if atN l i / 16%16=5 then ⟨3,((atN l i%ss:Nat):Int),oE⟩
 else if atN l i / 16%16=6 then ⟨((atN l i / 256%8:Nat):Int),((atN l i / 2048%8:Nat):Int)-1,aX (jl l i) ((atN l i / 8:Nat):Int)⟩
 else ⟨2,((atN l i%ss:Nat):Int),oE⟩
def EJ(l:List Int)(ss n:Nat):List Ev:=(List.range n).map (xvB l ss)
theorem afA(l:List Int)(ss n:Nat):(EJ l ss n).length=n:=by simp [EJ]
theorem af5(l:List Int)(ss n:Nat):xvV (EJ l ss n)++[V.agg (xvC (xvB l ss n))]=xvV (EJ l ss (n+1)):=by simp [EJ,xvV,List.range_succ]
theorem ap0(n:Nat):Int.tmod (n:Int) 3=((n%3:Nat):Int):=rfl
theorem aoN(l:List Int)(n:Nat)(hl:l.length≤9223372036854775807)(hn:n≤100):Gxx 21 [fzi l,vi 3,vi n] (.sl (.own 0 69) 24 (xvV (EJ l 3 n))):=by
 refine gI oW Tryz.func21 Tryz.results21 ?_
 refine wS trivial trivial ?_
 refine aK (fun i:Nat=>mkA [(0,fzi l),(1,vi 3),(2,vi n),(7,.sl (.own 0 69) 24 (xvV (EJ l 3 i))),(8,vi i)] [] 1 (fun _ => .top)) (fun i=>i≤n) (fun i=>n-i) 0 [] [] ?_ (Nat.zero_le _) ?_
 ·exact kE
  all_goals exact gK rfl
 ·intro i hi
  replace hi:i≤n:=hi
  have hil:=aba (EJ l 3 i)
  have hib:=afA l 3 i
  rcases Nat.lt_or_ge i n with hlt|hge
  ·have h1:=jT l i hl (by omega)
   have h2:=aoo l i hl (by omega)
   have hnx:=af5 l 3 i
   have hb:=dU l i
   have tm:=ap0 (atN l i)
   have hop:=(akl l i).2
   unfold xvB at hnx
   generalize jl l i=o at *
   generalize atN l i=a at *
   by_cases c1:a / 16%16<5
   ·rw[if_pos c1] at hnx
    (repeat' first|refine wP (aI @pgv (aI @mmF (aI @hil (aI @hib (aI @hnx (aI @shB (aI @anB @tm))))))) (aI h1 h2) ?_|refine tS ?_ ?_<;>intro hc|fail)
    all_goals exact bE (i+1) [0] [] hlt
   ·rw[if_neg c1] at hnx
    by_cases c2:a / 16%16=5
    ·rw[if_pos c2] at hnx
     refine wS (aI @pgv (aI @mmF (aI @hil (aI @hib (aI @shB (aI @anB (aI @tm @ai))))))) h1 ?_
     (refine bC (i+1) [0] [] (hlt) (by first|omega|(simp only[List.length_cons];omega)) ?_;(refine iy ?_ ?_ (kD _ _ _) (by decide) (by decide) (by decide) (by decide);(repeat' (first|exact trivial|refine gJ _ _ rfl rfl ?_ ?_));all_goals (try simp only[pgs,pgl,pgx,pgf,pgw,fQ,ig,fU,iq,dB,eY,fJ,pgn,simprocAttr]);all_goals (try (repeat' (first|apply aI)));all_goals (try (first|exact trivial|exact gB (by omega)|exact gq rfl|exact aW rfl rfl|exact je rfl))))
     all_goals exact Y4 rfl (by rw[←hnx];exact Js (.inr (.inr ⟨_,_,rfl,rfl,ajR _ _⟩)) _)
    ·rw[if_neg c2] at hnx
     by_cases c3:a / 16%16=6
     ·rw[if_pos c3] at hnx
      have h3:=agK o ((a / 8:Nat):Int) (by omega) (by omega)
      generalize aX o ((a / 8:Nat):Int)=o2 at *
      refine wS (aI @pgv (aI @mmF (aI @hil (aI @hib (aI @hnx (aI @shB (aI @anB @tm))))))) (aI h1 (aI h2 h3)) ?_
      exact bE (i+1) [0] [] hlt
     ·rw[if_neg c3] at hnx
      refine wS (aI @pgv (aI @mmF (aI @hil (aI @hib (aI @shB (aI @anB (aI @tm @ai))))))) h1 ?_
      (refine bC (i+1) [0] [] (hlt) (by first|omega|(simp only[List.length_cons];omega)) ?_;(refine iy ?_ ?_ (kD _ _ _) (by decide) (by decide) (by decide) (by decide);(repeat' (first|exact trivial|refine gJ _ _ rfl rfl ?_ ?_));all_goals (try simp only[pgs,pgl,pgx,pgf,pgw,fQ,ig,fU,iq,dB,eY,fJ,pgn,simprocAttr]);all_goals (try (repeat' (first|apply aI)));all_goals (try (first|exact trivial|exact gB (by omega)|exact gq rfl|exact aW rfl rfl|exact je rfl))))
      all_goals exact Y4 rfl (by rw[←hnx];exact Js (.inr (.inr ⟨_,_,rfl,rfl,ajR _ _⟩)) _)
  ·have:i=n:=by omega
   subst this
   exact wR trivial trivial (ids [0])
def vBx:=aI @Bool.not_true (aI @Bool.not_false (aI @Bool.and_true (aI @Bool.true_and (aI @Bool.false_and (aI @Bool.and_false (aI @List.append_eq.{0} (aI @List.cons_append.{0} (aI @List.nil_append.{0} (aI @kG (aI @Rh (aI @ai (aI @au (aI @aB @ax)))))))))))))
abbrev zP(o:O):Prop:=o.kind=0∧o.name.length=0∧o.other.length=0∧o.names.length=0∧(o.pk=0∧o.pz=0∧o.pd=0∧o.ps=0)∧o.items.length=0∧o.coins.length=0∧o.exp=0∧o.src=0∧o.hnd=0∧o.idx=0∧o.cur=0∧o.cnt=0∧(o.qk=0∧o.qkey.length=0∧o.qc=0∧o.qn=0∧o.qd=0)∧o.data.length=0
theorem apI{o:O}(h:zP o):o=oE:=by
 obtain⟨kind,name,other,names,pk,pz,pd,ps,items,coins,exp,src,hnd,idx,cur,cnt,qk,qkey,qc,qn,qd,data⟩:=o
 obtain⟨h1,h2,h3,h4,⟨h5,h6,h7,h8⟩,h9,h10,h11,h12,h13,h14,h15,h16,⟨h17,h18,h19,h20,h21⟩,h22⟩:=h
 simp only at *
 subst h1 h5 h6 h7 h8 h11 h12 h13 h14 h15 h16 h17 h19 h20 h21
 obtain rfl:=List.eq_nil_of_length_eq_zero h2
 obtain rfl:=List.eq_nil_of_length_eq_zero h3
 obtain rfl:=List.eq_nil_of_length_eq_zero h4
 obtain rfl:=List.eq_nil_of_length_eq_zero h9
 obtain rfl:=List.eq_nil_of_length_eq_zero h10
 obtain rfl:=List.eq_nil_of_length_eq_zero h18
 obtain rfl:=List.eq_nil_of_length_eq_zero h22
 rfl
theorem aoT(o:O)(hn:o.names.length≤1000000)(hi:o.items.length≤1000000):Gxx 62 [.agg (opF o)] (vb (decide (zP o))):=by
 have q1:=au o.names
 have q2:=aB o.items
 have q3:=ax o.coins
 have q4:=ax o.data
 by_cases hz:zP o
 ·rw[decide_eq_true hz]
  refine gI oW Tryz.func62 Tryz.results62 ?_
  exact wR @vBx trivial ah
 ·rw[decide_eq_false hz]
  refine gI oW Tryz.func62 Tryz.results62 ?_
  (repeat' first|refine wP @vBx trivial ?_|refine tS ?_ ?_<;>intro hc|fail)
  all_goals first|(refine rT [] ?_;first|rfl|(refine congrArg (fun b:Bool=>V.c (.bool b)) (decide_eq_false ?_);(try simp only[zP,Bool.and_eq_true,beq_iff_eq,decide_eq_true_eq] at *);omega)|(exfalso;(try simp only[zP,Bool.and_eq_true,beq_iff_eq,decide_eq_true_eq] at *);omega))|(exfalso;omega)
theorem apk(o:O)(hn:o.names.length≤1000000)(hi:o.items.length≤1000000):Gxx 17 [.agg (opF o),.agg (opF oE)] (vb (decide (zP o))):=by
 have q1:=au o.names
 have q2:=aB o.items
 have q3:=ax o.coins
 have q4:=ax o.data
 by_cases hz:zP o
 ·obtain rfl:=apI hz
  rw[decide_eq_true hz]
  exact afD oE hn hi
 ·rw[decide_eq_false hz]
  refine gI oW Tryz.func17 Tryz.results17 ?_
  (repeat' first|refine wP (aI @vBx @rH) trivial ?_|refine tS ?_ ?_<;>intro hc|fail)
  all_goals first|(refine rT [] ?_;first|rfl|(exfalso;(try simp only[zP,Bool.and_eq_true,beq_iff_eq,decide_eq_true_eq] at *);omega))|(exfalso;simp only[zP,Bool.and_eq_true,beq_iff_eq,decide_eq_true_eq] at *;omega)
structure Ev.Ok (e:Ev):Prop where
 k:Wt e.k
 s:Wt e.s
 o:e.o.Ok
abbrev xD:Ev:=⟨0,0,oE⟩
def xvE(e:Ev):Int:=if e.k<1∨3<e.k then 8 else if e.s<0∨64≤e.s then 5 else if e.k=1 then vop e.o else if zP e.o then 0 else 18
def xvH(e:Ev):List Nat:=jn [yM.getD e.k.toNat [],ak e.s]
def xvT(e:Ev):List Nat:=if e.k=1 then jn [xvH e,fmtO e.o] else xvH e
def txt(l:List Ev):List Nat:=l.flatMap fun e=>xvT e++[10]
def acU(l:List Ev):List Nat × Int:=if 2000<l.length then ([],11) else if sU xvE l≠0 then ([],sU xvE l) else if 65536<(txt l).length then ([],11) else (txt l,0)
theorem agX(l:List Ev)(i:Nat)(h:i<l.length):txt (l.take (i+1))=txt (l.take i)++xvT (l.getD i xD)++[10]:=by
 unfold txt
 rw[List.take_succ_eq_append_getElem h,List.flatMap_append]
 simp [List.getD,h]
theorem afC(k:Int):(yM.getD k.toNat []).length≤6:=by
 unfold yM
 rcases k.toNat with _|_|_|_|n<;>simp
theorem af6(o:O)(ok:o.Ok):(fmtO o).length≤50000000:=by
 unfold fmtO
 split
 ·have:=dM o ok
  have:=PD (opW o)
  omega
 ·simp
theorem ajS(e:Ev)(ok:e.Ok):(xvT e).length≤200000000:=by
 have h1:=afC e.k
 have h2:=dS ok.s
 have h3:=af6 e.o ok.o
 unfold xvT xvH
 split<;>simp only[jn,sQ,ZA,List.length_append,List.length_cons,List.length_nil]<;>omega
theorem aoX(l:List Ev)(hok:∀e∈l,e.Ok):(txt l).length≤200000001*l.length:=by
 induction l with
 | nil=>simp [txt]
 | cons e l ih =>
  have h1:=ajS e (hok e (by simp))
  have h2:=ih fun x hx=>hok x (by simp [hx])
  unfold txt at h2 ⊢
  simp only[List.flatMap_cons,List.length_append,List.length_cons,List.length_nil]
  omega
theorem afV:(⟨#[10]⟩:ByteArray)=sB [10]:=rfl
theorem agY:(⟨#[32]⟩:ByteArray)=sB [32]:=rfl
theorem apJ(k:Int)(h:1≤k∧k≤3):Gxx 56 [vi k] (vs (yM.getD k.toNat [])):=by
 have hk:k=1∨k=2∨k=3:=by omega
 rcases hk with rfl|rfl|rfl
 all_goals
  refine gI oW Tryz.func56 Tryz.results56 ?_
  exact wR @ai trivial ah
theorem af2(l:List Ev)(hok:∀e∈l,e.Ok)(hl:l.length≤100000):Gxx 19 [fzx l] (.tup [vs (acU l).1,vi (acU l).2]):=by
 have hil:=aba l
 unfold acU
 by_cases c1:2000<l.length
 ·rw[if_pos c1]
  refine gI oD Tryz.func19 Tryz.results19 ?_
  exact wRA (aI @hil @ai) trivial ah
 ·rw[if_neg c1]
  refine gI oD Tryz.func19 Tryz.results19 ?_
  refine wSA (aI @hil @ai) trivial ?_
  refine aK (fun i:Nat=>mkA [(0,fzx l),(4,vs (txt (l.take i))),(5,vi i)] [] 0 (fun _ => .top)) (fun i=>i≤l.length∧sU xvE (l.take i)=0) (fun i=>l.length-i) 0 [] [] ?_ ⟨Nat.zero_le _,rfl⟩ ?_
  ·exact kE
  ·rintro i ⟨hi,he⟩
   have htl:=aoX (l.take i) (fun e h=>hok e (List.mem_of_mem_take h))
   rw[List.length_take] at htl
   rcases Nat.lt_or_ge i l.length with hlt|hge
   ·have hg:=acT l i hlt xD
    have hx:=getD_some l i xD hlt
    have h1:=BN xvE l i _ hx he
    have h2:=vT xvE l i _ hx he
    have hnx:=agX l i hlt
    have ok:(l.getD i xD).Ok:=hok _ (by rw[List.getD_eq_getElem?_getD,List.getElem?_eq_getElem hlt];exact List.getElem_mem hlt)
    generalize l.getD i xD=x at *
    have htx:=ajS x ok
    have hF:=MR x.o ok.o
    have hSm:=(apk x.o (by have:=ok.o.names;omega) (by have:=ok.o.items;omega)).wk (args':=[.agg (opF x.o),.agg (opC oE nls nls nls nls)]) ⟨aA _,fF oE (aj _) (aj _) (aj _) (aj _),trivial⟩
    have hN:=jX x.s ok.s
    by_cases c2:x.k<1∨3<x.k
    ·have e:xvE x=8:=if_pos c2
     rw[h1 (by rw[e];decide),e,if_pos (by decide)]
     exact wRA (aI @hil @hg) trivial ah
    ·have hV:=apJ x.k (by omega)
     by_cases c3:x.s<0∨64≤x.s
     ·have e:xvE x=5:=by unfold xvE;rw[if_neg c2,if_pos c3]
      rw[h1 (by rw[e];decide),e,if_pos (by decide)]
      exact wRA (aI @hil @hg) trivial ah
     ·have hw1:=dR [yM.getD x.k.toNat [],ak x.s] (by have:=afC x.k;have:=dS ok.s;simp only[bz,dL];omega)
      have hw2:=dR [xvH x,fmtO x.o] (by have:=afC x.k;have:=dS ok.s;have:=af6 x.o ok.o;unfold xvH;simp only[jn,sQ,ZA,bz,dL,List.length_append,List.length_cons,List.length_nil];omega)
      have eH:jn [yM.getD x.k.toNat [],ak x.s]=xvH x:=rfl
      rw[eH] at hw1
      generalize yM.getD x.k.toNat []=kw at *
      by_cases c4:x.k=1
      ·have e:xvE x=vop x.o:=by unfold xvE;rw[if_neg c2,if_neg c3,if_pos c4]
       have et:xvT x=jn [xvH x,fmtO x.o]:=if_pos c4
       rw[et] at hnx htx
       by_cases c5:vop x.o=0
       ·rw[c5] at hF
        refine wSA (aI @hil (aI @hg (aI @afV @adW))) (aI hV (aI hN (aI hw1 (aI hw2 hF)))) ?_
        (refine bL (i+1) [] [] ⟨hlt,h2 (by rw[e];exact c5)⟩ ?_;refine kL ?_)
        all_goals exact gq (by rw[hnx])
       ·rw[h1 (by rw[e];exact c5),e,if_pos c5]
        exact wRA (aI @hil @hg) (aI hV (aI hN (aI hw1 (aI hw2 hF)))) ah
      ·have et:xvT x=xvH x:=if_neg c4
       rw[et] at hnx htx
       by_cases c5:zP x.o
       ·have e:xvE x=0:=by unfold xvE;rw[if_neg c2,if_neg c3,if_neg c4,if_pos c5]
        rw[decide_eq_true c5] at hSm
        refine wSA (aI @hil (aI @hg (aI @afV @adW))) (aI hV (aI hN (aI hw1 hSm))) ?_
        (refine bL (i+1) [] [] ⟨hlt,h2 e⟩ ?_;refine kL ?_)
        all_goals exact gq (by rw[hnx])
       ·have e:xvE x=18:=by unfold xvE;rw[if_neg c2,if_neg c3,if_neg c4,if_neg c5]
        rw[decide_eq_false c5] at hSm
        rw[h1 (by rw[e];decide),e,if_pos (by decide)]
        exact wRA (aI @hil @hg) (aI hV (aI hN (aI hw1 hSm))) ah
   ·have:i=l.length:=by omega
    subst this
    rw[List.take_length] at he htl
    rw[List.take_length,he,if_neg (by simp)]
    by_cases c6:65536<(txt l).length
    ·rw[if_pos c6]
     exact wRA @hil trivial ah
    ·rw[if_neg c6]
     exact wRA @hil trivial ah
theorem afB(e:Nat→V)(bx:Nat→Option (TypeId × List V))(n:Nat)(h:Nat→V)(b:Nat)(p:V)(s:List Nat)(hb:bx b=some (115,[p,.c (.slice none 0 0)]))(hp:aah b p)(hs:0<s.length∧s.length<140737488355328)(ho:oct s) :
  Gxz 60 [.ref b 0,vs s] ⟨e,bx,n,h⟩ ⟨e,upd bx b (some (115,[.ref b 0,.sl (.own n 5) 1 (bv s)])),n+1,h⟩ (.tup [vi s.length,.c .nilIface]):=by
 have hby:=Gg ho
 have hsl:=ax s
 refine gZ oW Tryz.func60 Tryz.results60 ?_
 (repeat' first|refine wP (aI @iQ (aI @dm (aI @bI (aI @hb (aI @rO @hby))))) trivial ?_|refine cZ (aai _ _ _ _ _ _ _ hb hp) ?_|refine tS ?_ ?_<;>intro hc|fail)
 refine lh (jq _ _ _ _) ?_
 rw[dJ,dK,jG]
theorem PV(e:Nat→V)(bx:Nat→Option (TypeId × List V))(n:Nat)(h:Nat→V)(b id:Nat)(p:V)(l s:List Nat)(hb:bx b=some (115,[p,.sl (.own id 5) 1 (bv l)]))(hp:aah b p)(hl:l.length+s.length<140737488355328)(ho:oct s) :
  Gxz 60 [.ref b 0,vs s] ⟨e,bx,n,h⟩ ⟨lX (aJ id) e,upd (sH (aJ id) bx) b (some (115,[.ref b 0,.sl (.own id 5) 1 (bv (l++s))])),max n (id+1),lX (aJ id) h⟩ (.tup [vi s.length,.c .nilIface]):=by
 have hby:=Gg ho
 have hsl:=ax s
 refine gZ oW Tryz.func60 Tryz.results60 ?_
 (repeat' first|refine wP (aI @iQ (aI @dm (aI @bI (aI @hb (aI @rO @hby))))) trivial ?_|refine cZ (aai _ _ _ _ _ _ _ hb hp) ?_|refine tS ?_ ?_<;>intro hc|fail)
 refine lh (jq _ _ _ _) ?_
 rw[Ir,Iu,dJ,dK,aaj]
 simp [bv]
theorem apC(e:Nat→V)(bx:Nat→Option (TypeId × List V))(n:Nat)(h:Nat→V)(b id:Nat)(p:V)(l:List Nat)(hb:bx b=some (115,[p,.sl (.own id 5) 1 (bv l)])) :
  Gxz 63 [.ref b 0] ⟨e,bx,n,h⟩ ⟨e,bx,n,h⟩ (vi l.length):=by
 have hx:=ax l
 refine gZ oW Tryz.func63 Tryz.results63 ?_
 refine wS (aI @iQ (aI @dm (aI @bI (aI @hb @hx)))) trivial ?_
 refine lh (aG _ _ _) ?_
 rw[dJ,dK]
theorem apL(e:Nat→V)(bx:Nat→Option (TypeId × List V))(n:Nat)(h:Nat→V)(b:Nat)(p:V)(hb:bx b=some (115,[p,.c (.slice none 0 0)])) :
  Gxz 63 [.ref b 0] ⟨e,bx,n,h⟩ ⟨e,bx,n,h⟩ (vi 0):=by
 refine gZ oW Tryz.func63 Tryz.results63 ?_
 refine wS (aI @iQ (aI @dm (aI @bI @hb))) trivial ?_
 refine lh (aG _ _ _) ?_
 rw[dJ,dK]
theorem apl:sdV (.c (.slice none 0 0))=some (.c (.pointer none)):=rfl
theorem apm(s:St)(t:TypeId):usV Tryz.prog s t (.c (.pointer none)) (.c (.int .i64 0))=some (.c (.string ⟨#[]⟩),s):=rfl
theorem apM(e:Nat→V)(bx:Nat→Option (TypeId × List V))(n:Nat)(h:Nat→V)(b:Nat)(p:V)(hb:bx b=some (115,[p,.c (.slice none 0 0)])) :
  Gxz 64 [.ref b 0] ⟨e,bx,n,h⟩ ⟨e,bx,n,h⟩ (.c (.string ⟨#[]⟩)):=by
 refine gZ oW Tryz.func64 Tryz.results64 ?_
 refine wS (aI @iQ (aI @dm (aI @bI (aI @hb (aI @apl @apm))))) trivial ?_
 refine lh (aG _ _ _) ?_
 rw[dJ,dK]
end Go.Proofs.YtjiolbcdfgclaaaGreatDoor
