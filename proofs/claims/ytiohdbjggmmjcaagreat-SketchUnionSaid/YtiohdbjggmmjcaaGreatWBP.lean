/-
  Merged texts.
-/
import Derived.Test.YtiohdbjggmmjcaaGreatWBO
set_option linter.unusedVariables false
set_option linter.unusedSimpArgs false
set_option linter.unusedSectionVars false
set_option linter.defProp false
set_option maxRecDepth 100000
set_option maxHeartbeats 8000000
namespace Go.Proofs.YtiohdbjggmmjcaaGreat
open Go Go.Pg
theorem O3{l:List En}{k:List Nat}(h:0≤bi l k):∃z∈l,z.1=k:=CS k l 0 h
theorem agt{l:List En}{k:List Nat}{z:En}(hz:z∈l)(hk:z.1=k):0≤bi l k:=Classical.byContradiction fun h=>wX k l 0 (by have:bi l k=jd k 0 l:=rfl;omega) z hz hk
def fpE(x y:Tp)(z:En):En:=wV (SC x y z.1)
theorem agv(x y:Tp)(z:En):(fpE x y z).1=z.1:=rfl
theorem agw(x y:Tp)(m:List En):m.map (fpE x y)=nM (tJ x y m):=by
 unfold nM tJ
 rw[List.map_map];rfl
end Go.Proofs.YtiohdbjggmmjcaaGreat
