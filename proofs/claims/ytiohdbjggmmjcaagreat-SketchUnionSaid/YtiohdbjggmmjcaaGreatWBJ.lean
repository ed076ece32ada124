/-
  Merged texts.
-/
import Derived.Test.YtiohdbjggmmjcaaGreatRows
import Derived.ProofKit
import Derived.Test.YtiohdbjggmmjcaaGreatWAQ
import Derived.Test.YtiohdbjggmmjcaaGreatWBI
set_option linter.unusedVariables false
set_option linter.unusedSimpArgs false
set_option linter.unusedSectionVars false
set_option linter.defProp false
set_option maxRecDepth 100000
set_option maxHeartbeats 8000000
section
namespace Go.Proofs.YtiohdbjggmmjcaaGreat
open Go Go.ChangeShapes Go.WideShapes Go.ChangeAt Go.RowKit
theorem own:ownKnob Tryz.prog.godebug=none:=by kernel_rfl
theorem acS:laidOutB Tryz.prog=true:=by kernel_rfl
theorem ag0{W W':World}(hk:Pg.Kp (fun _=>False) W.heap.size W W'):Below W.heap.size W W':=⟨hk.os,hk.tape,hk.output,hk.size,fun k h=>hk.block k h (fun h=>h)⟩
abbrev LW(w:World):Pg.Lay:=⟨fun g=>g<w.heap.size,fun _=>none,fun _=>none⟩
def WtI(n:Int):Prop := -9223372036854775808≤n∧n≤9223372036854775807
theorem afu{n:Int}(h:(Lit.int .i64 n).wf=true):WtI n:=by
 simp only[Lit.wf,Bool.and_eq_true,decide_eq_true_eq] at h
 have e1:IntKind.i64.min = -9223372036854775808:=rfl
 have e2:IntKind.i64.max=9223372036854775807:=rfl
 rw[e1,e2] at h
 exact h
section
variable {H:Type} {enc:TypeId × Value→H} {w:World} {base:Nat} {spare:Nat→Bool} {held:Bool}
theorem afv:Pg.Elem enc Tryz.prog w base spare held 3 1 WtI (fun n=>Pg.V.c (.int .i64 n)) (fun n=>[Value.int .i64 n]) where
 pos:=by decide
 cells:=by kernel_rfl
 len:=fun _=>rfl
 get:=fun n cs x h=>by
  obtain⟨m,rfl,_,hw⟩:=DataW.trod_int Tryz.underlying3 h
  exact⟨m,afu hw,rfl⟩
 rep:=fun n L w'=>⟨.int .i64 n,by simp [Value.cells],rfl,⟨rfl,rfl⟩,rfl⟩
theorem TU{n:Nat}{v:Value}{a:Option Addr}{len cap:Nat}{x:DataW H × List MemPlace}(hv:v = .slice a len cap)(h:DataW.trod enc Tryz.prog w base spare held n 22 v.cells.toList=some x):∃l:List Int,l.length≤9223372036854775807∧Pg.Rep (LW w) w (fzi l) v:=by
 subst hv
 obtain⟨l,hl,u,e,r⟩:=Pg.ag1 afv Tryz.underlying22 h
 have hu:u = .slice a len cap:=by simp [Value.cells] at e;exact e.symm
 subst hu
 refine⟨l, ?_,r⟩
 obtain⟨b,c,row,h1,_,h2,_⟩:=r
 injection h1 with h1 h3 h4
 have hll:(List.map (fun n=>Pg.V.c (.int .i64 n)) l).length=l.length:=List.length_map ..
 rcases DataW.trod_slice Tryz.underlying22 h with ⟨g,_⟩|⟨a',len',cap',_,_,_,_,g,_,_,g2,g3,_⟩
 ·simp [Value.cells] at g
  omega
 ·simp [Value.cells] at g
  have:maxLen=9223372036854775807:=rfl
  omega
end
end Go.Proofs.YtiohdbjggmmjcaaGreat
end
