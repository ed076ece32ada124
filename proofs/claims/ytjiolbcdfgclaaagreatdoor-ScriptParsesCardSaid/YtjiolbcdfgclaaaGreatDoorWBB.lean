/-
  Texts of this claim, merged; own names are short.
-/
import Derived.Test.YtjiolbcdfgclaaaGreatDoorWAN
import Derived.Test.YtjiolbcdfgclaaaGreatDoorWAZ
import Derived.Test.YtjiolbcdfgclaaaGreatDoorWAV
import Derived.Test.YtjiolbcdfgclaaaGreatDoorWAU
import Derived.Test.YtjiolbcdfgclaaaGreatDoorWAO
set_option linter.unusedVariables false
set_option linter.unusedSimpArgs false
set_option linter.unusedSectionVars false
set_option linter.defProp false
set_option maxRecDepth 100000
set_option maxHeartbeats 8000000
namespace Go.Proofs.YtjiolbcdfgclaaaGreatDoor
open Go Go.Pg
theorem apD(e:Ev):xvH e=yM.getD e.k.toNat []++[32]++ak e.s:=by simp [xvH,jn,sQ,ZA]
theorem aoY{e:Ev}(h:e.k=1):xvT e=xvH e++([32]++fmtO e.o):=by unfold xvT;rw[if_pos h];simp [jn,sQ,ZA]
theorem ahl(k:Nat):oct (yM.getD k []):=by
 unfold yM
 rcases k with _|_|_|_|n<;>simp [oct]<;>omega
theorem aho(o:O)(ok:o.Ok):oct (fmtO o):=by
 unfold fmtO
 split
 ·rename_i h
  exact acS o ok h
 ·exact dV
theorem apn(e:Ev)(ok:e.Ok):oct (xvT e):=by
 have h1:oct (xvH e):=by rw[apD];exact bM (bM (ahl _) (jI _ rfl)) (fD _)
 by_cases h:e.k=1
 ·rw[aoY h];exact bM h1 (bM (jI _ rfl) (aho _ ok.o))
 ·unfold xvT;rw[if_neg h];exact h1
theorem af7(l:List Ev)(hok:∀e∈l,e.Ok):oct (txt l):=by
 intro b hb
 obtain⟨e,he,hb⟩:=List.mem_flatMap.1 hb
 exact bM (apn e (hok e he)) (jI _ rfl) b hb
theorem U6(l:List Ev)(i:Nat)(h:i<l.length)(d:Ev):xvV (l.take i)++[V.agg (xvC (l.getD i d))]=xvV (l.take (i+1)):=by
 unfold xvV
 rw[List.take_succ_eq_append_getElem h,List.map_append]
 simp [List.getD,h]
end Go.Proofs.YtjiolbcdfgclaaaGreatDoor
