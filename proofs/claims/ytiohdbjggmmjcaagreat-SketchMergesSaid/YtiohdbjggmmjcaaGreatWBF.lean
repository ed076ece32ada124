/-
  Texts of this claim, merged; own names are short.
-/
import Derived.Test.YtiohdbjggmmjcaaGreatWAY
import Derived.Test.YtiohdbjggmmjcaaGreatWBC
import Derived.Test.YtiohdbjggmmjcaaGreatWAW
import Derived.Test.YtiohdbjggmmjcaaGreatWBA
import Derived.Test.YtiohdbjggmmjcaaGreatWBE
set_option linter.unusedVariables false
set_option linter.unusedSimpArgs false
set_option linter.unusedSectionVars false
set_option linter.defProp false
set_option maxRecDepth 100000
set_option maxHeartbeats 8000000
namespace Go.Proofs.YtiohdbjggmmjcaaGreat
open Go Go.Pg
theorem Zd{x:Tp}(h:vTp x=0):∀y∈x.e,(1≤y.2.1∧y.2.1≤1099511627776)∧0≤y.2.2∧y.2.2≤y.2.1-1:=by
 intro y hy
 obtain⟨i,hi,rfl⟩:=List.getElem_of_mem hy
 have h1:=(su ((kK h).2.2.2 i hi)).2
 have e:x.e.getD i eD=x.e[i]:=by simp [List.getD,hi]
 rw[e] at h1
 exact h1
theorem acI(a b:Int)(ha:0≤a∧a≤1099511627776)(hb:0≤b):a≤(aO a b).1:=by
 have h1:=oh ha.1
 have h2:=oh hb
 have h3:iI 1099511627776=1099511627776:=oh (by decide)
 unfold aO lw
 rw[h1,h2,h3]
 split
 ·exact ha.2
 ·simp only;omega
theorem wX(k:List Nat):∀(l:List En) (i:Nat),jd k i l<0→∀y∈l,y.1≠k:=by
 intro l
 induction l with
 | nil=>intro i _ y hy;cases hy
 | cons e l ih =>
  intro i h y hy
  unfold jd at h
  split at h
  ·omega
  ·rename_i hk
   rcases List.mem_cons.1 hy with rfl|hy
   ·exact hk
   ·exact ih (i+1) h y hy
theorem afo{x:Tp}(h:vTp x=0):x.e.Pairwise fun a b=>a.1≠b.1:=by
 rw[List.pairwise_iff_getElem]
 intro i j hi hj hij he
 have h1:=(kK h).2.2.2 j hj
 have e:x.e.getD j eD=x.e[j]:=by simp [List.getD,hj]
 have h2:bi (x.e.take j) (x.e[j]).1<0:=by
  unfold pO at h1
  rw[e] at h1
  split at h1
  ·cases h1
  ·split at h1
   ·cases h1
   ·split at h1
    ·cases h1
    ·omega
 refine wX _ _ _ h2 x.e[i] ?_ he
 rw[List.mem_iff_getElem]
 exact⟨i,by simp;omega,by simp⟩
end Go.Proofs.YtiohdbjggmmjcaaGreat
