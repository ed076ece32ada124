/-
  Texts of this claim, merged; own names are short.
-/
import Derived.Test.YtjiolbcdfgclaaaGreatDoorWBB
import Derived.Test.YtjiolbcdfgclaaaGreatDoorWAV
set_option linter.unusedVariables false
set_option linter.unusedSimpArgs false
set_option linter.unusedSectionVars false
set_option linter.defProp false
set_option maxRecDepth 100000
set_option maxHeartbeats 8000000
namespace Go.Proofs.YtjiolbcdfgclaaaGreatDoor
open Go Go.Pg
theorem ao5:oE.Ok:=by
 have hw:Wt 0:=by unfold Wt;omega
 exact⟨⟨dV,dV,by simp,by simp,dV,dV,dV⟩,hw,hw,(show (0:Int)≤0∧(0:Int)<18446744073709551616 by omega),hw,hw,hw,hw,hw,hw,hw,hw,hw,by simp,by simp,by simp,by simp,by simp,by simp,by simp,by simp⟩
theorem apR(l:List Int)(i:Nat)(hi:i≤1000):(xvB l 3 i).Ok:=by
 have hb:=dU l i
 obtain⟨h1,h2,h3⟩:=akl l i
 have hs:=V8 (jl l i) h1 (by omega) (by omega) ((atN l i / 8:Nat):Int)
 unfold xvB
 (repeat' split)<;>refine⟨?_, ?_, ?_⟩<;>first|exact h1|exact hs|exact ao5|(unfold Wt;simp only;omega)
theorem apZ(n:Int):bits .and .i64 n 7=n%8:=jH n 3 (by decide)
theorem ao7{l:List Ev}(h:(acU l).2=0):l.length≤2000∧(∀e∈l,xvE e=0)∧(txt l).length≤65536∧(acU l).1=txt l:=by
 unfold acU at *
 split at h
 ·cases h
 ·rename_i h1
  split at h
  ·rename_i h2;exact absurd h h2
  ·rename_i h2
   split at h
   ·cases h
   ·rename_i h3
    refine⟨by omega,Eg xvE l (Classical.byContradiction h2),by omega, ?_⟩
    rw[if_neg h1,if_neg h2,if_neg h3]
theorem af8(k s:Int):∃cs ds,V.agg (xvZ k s) = .agg cs∧V.agg (xvC ⟨k,s,oE⟩) = .agg ds∧wkF cs ds:=⟨_,_,rfl,rfl,ajR k s⟩
end Go.Proofs.YtjiolbcdfgclaaaGreatDoor
