/-
  Texts of this claim, merged; own names are short.
-/
import Derived.Test.YtiohdbjggmmjcaaGreatWAY
import Derived.Test.YtiohdbjggmmjcaaGreatWBG
import Derived.Lib.AppendZerosOnto
import Derived.Lib.Overlaps
import Derived.Laws.IdiomCopy
import Derived.Shelf.Spec.SlicesInsertGrow
import Derived.Test.YtiohdbjggmmjcaaGreatWAN
set_option linter.unusedVariables false
set_option linter.unusedSimpArgs false
set_option linter.unusedSectionVars false
set_option linter.defProp false
set_option maxRecDepth 100000
set_option maxHeartbeats 8000000
namespace Go.Proofs.YtiohdbjggmmjcaaGreat
open Go Go.Pg
end Go.Proofs.YtiohdbjggmmjcaaGreat
section
namespace Go.Pg
open Go
structure InsEnd (w w':World) (o:Option Nat):Prop where
 os:w'.os=w.os
 tape:w'.tape=w.tape
 output:w'.output=w.output
 size:w.heap.size≤w'.heap.size
 block:∀k,k<w.heap.size→o≠some k→w'.heap[k]?=w.heap[k]?
 drawn:w.drawn≤w'.drawn
structure InsArg (P:Program) (w:World) (o:Option Nat) (e:TypeId) (k bytes n cap:Nat) (cells vs:List Value) (ad:Addr) (xc:Nat):Prop where
 row:(o=none∧n=0∧cap=0∧cells=[])∨∃g arr,o=some g∧w.heap[g]?=some (.cells arr e (0,0))∧n≤cap∧cap≤maxLen∧arr.size=cap*k∧arr.toList.take (n*k)=cells∧ad.block≠g
 adw:∃arr t fr,w.heap[ad.block]?=some (.cells arr t fr)∧arr.size≠0
 spot:ad.spot=none
 len:cells.length=n*k
 vlen:vs.length=k
 xc:1≤xc
 vsw:∀j v,vs[j]?=some v→w.cell? (ad.add j)=some v
 c1:∀v∈cells,v.oneCell'=true
 v1:∀v∈vs,v.oneCell'=true
 fit:Fits (n+1) bytes
 kpos:0<k
section
variable {P:Program} {C:Cx} {s:St} {L:Lay} {a:Act} {w w':World}
end
section
variable {P:Program} [Tb P]
end
end Go.Pg
end
namespace Go.Proofs.YtiohdbjggmmjcaaGreat
open Go Go.Pg Go.RowKit Go.Lib
end Go.Proofs.YtiohdbjggmmjcaaGreat
namespace Go.Proofs.YtiohdbjggmmjcaaGreat
open Go Go.Pg
end Go.Proofs.YtiohdbjggmmjcaaGreat
