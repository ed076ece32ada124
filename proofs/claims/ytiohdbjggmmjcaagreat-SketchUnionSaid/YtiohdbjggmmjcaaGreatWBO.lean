/-
  Merged texts.
-/
import Derived.Test.YtiohdbjggmmjcaaGreatWAY
import Derived.Test.YtiohdbjggmmjcaaGreatWBN
import Derived.Test.YtiohdbjggmmjcaaGreatWAX
import Derived.Test.YtiohdbjggmmjcaaGreatWAO
import Derived.Test.YtiohdbjggmmjcaaGreatWAP
import Derived.Test.YtiohdbjggmmjcaaGreatWBD
import Derived.Test.YtiohdbjggmmjcaaGreatWBL
set_option linter.unusedVariables false
set_option linter.unusedSimpArgs false
set_option linter.unusedSectionVars false
set_option linter.defProp false
set_option maxRecDepth 100000
set_option maxHeartbeats 8000000
namespace Go.Proofs.YtiohdbjggmmjcaaGreat
open Go Go.Pg
theorem aiL(x y:Fq)(hx:octE x.e)(hy:octE y.e)(hxn:x.e.length≤1000000)(hyn:y.e.length≤1000000):Gxx 52 [.agg (fqF x),.agg (fqF y)] (.tup [.agg (fqF (qF x y).1),vi (qF x y).2]):=by
 have h1:=Ec x hx hxn
 have h2:=Ec y hy hyn
 by_cases c1:vFq x=0
 ·by_cases c2:vFq y=0
  ·by_cases c3:x.z=y.z
   ·unfold qF
    rw[if_neg (fun h=>h c1),if_neg (fun h=>h c2),if_neg (fun h=>h c3)]
    by_cases cl:((jnF x y).length:Int) > x.z
    ·rw[if_pos cl]
     exact Good.fzt (aiy x y hx hy c1 c2 c3 cl) rfl ⟨aH _,aH _,trivial⟩
    ·rw[if_neg cl]
     exact Good.fzt (aix x y hx hy c1 c2 c3 cl) rfl ⟨aH _,aH _,trivial⟩
   ·unfold qF
    rw[if_neg (fun h=>h c1),if_neg (fun h=>h c2),if_pos c3]
    rw[c1] at h1
    rw[c2] at h2
    refine Good.fzt (vs:=[.agg [vi 0,vi 0,vi 0,nls,vb false],vi 10]) ?_ rfl ⟨FN,aH _,trivial⟩
    have c3':(x.z=y.z)=False:=eq_false c3
    obtain⟨z,t,lo,l,b⟩:=x
    obtain⟨z2,t2,lo2,l2,b2⟩:=y
    simp only at *
    refine gI (eu [] mix) Tryz.func52 Tryz.results52 ?_
    (repeat' (first|(simp (disch:=first|exact dqz|fail) only[pgz,simprocAttr,pgE,pgj,iC,c3'])|(refine tC ?_;first|refine cU h1 ?_|refine cU h2 ?_)|(refine tE ?_ ?_<;>intro hc)|refine xK ?_|fail))
    (refine rT [] ?_;first|rfl|simp only[pgo,simprocAttr]|skip)
  ·unfold qF
   rw[if_neg (fun h=>h c1),if_pos c2]
   rw[c1] at h1
   refine Good.fzt (vs:=[.agg [vi 0,vi 0,vi 0,nls,vb false],vi (vFq y)]) ?_ rfl ⟨FN,aH _,trivial⟩
   have c2':(vFq y=0)=False:=eq_false c2
   generalize vFq y=v at *
   obtain⟨z,t,lo,l,b⟩:=x
   obtain⟨z2,t2,lo2,l2,b2⟩:=y
   simp only at *
   refine gI (eu [] mix) Tryz.func52 Tryz.results52 ?_
   (repeat' (first|(simp (disch:=first|exact dqz|fail) only[pgz,simprocAttr,pgE,pgj,iC,c2'])|(refine tC ?_;first|refine cU h1 ?_|refine cU h2 ?_)|(refine tE ?_ ?_<;>intro hc)|refine xK ?_|fail))
   (refine rT [] ?_;first|rfl|simp only[pgo,simprocAttr]|skip)
 ·unfold qF
  rw[if_pos c1]
  refine Good.fzt (vs:=[.agg [vi 0,vi 0,vi 0,nls,vb false],vi (vFq x)]) ?_ rfl ⟨FN,aH _,trivial⟩
  have c1':(vFq x=0)=False:=eq_false c1
  generalize vFq x=v at *
  obtain⟨z,t,lo,l,b⟩:=x
  obtain⟨z2,t2,lo2,l2,b2⟩:=y
  simp only at *
  refine gI (eu [] mix) Tryz.func52 Tryz.results52 ?_
  (repeat' (first|(simp (disch:=first|exact dqz|fail) only[pgz,simprocAttr,pgE,pgj,iC,c1'])|(refine tC ?_;refine cU h1 ?_)|(refine tE ?_ ?_<;>intro hc)|refine xK ?_|fail))
  (refine rT [] ?_;first|rfl|simp only[pgo,simprocAttr]|skip)
end Go.Proofs.YtiohdbjggmmjcaaGreat
section
namespace Go.Pg
open Go
section
variable {P:Program} [Tb P]
end
end Go.Pg
end
namespace Go.Proofs.YtiohdbjggmmjcaaGreat
open Go Go.Pg
structure FldOk (l:List En) (n:Nat):Prop where
 srt:kS l
 oct:octE l
 cnt:∀z∈l,1≤z.2.1∧z.2.1≤1099511627776
 err:∀z∈l,z.2.2=0
 len:l.length≤n
theorem aiM(x y:Tp)(hx:octE x.e)(hy:octE y.e)(hxn:x.e.length≤1000000)(hyn:y.e.length≤1000000):Gxx 51 [.agg (tpF x),.agg (tpF y)] (.tup [.agg (tpF (sZ x y).1),vi (sZ x y).2]):=by
 have h1:=Jt x hx hxn
 have h2:=Jt y hy hyn
 by_cases c1:vTp x=0
 ·by_cases c2:vTp y=0
  ·by_cases c3:x.z=y.z
   ·unfold sZ
    rw[if_neg (fun h=>h c1),if_neg (fun h=>h c2),if_neg (fun h=>h c3)]
    exact Good.fzt (ait x y hx hy c1 c2 c3) rfl ⟨aH _,aH _,trivial⟩
   ·unfold sZ
    rw[if_neg (fun h=>h c1),if_neg (fun h=>h c2),if_pos c3]
    rw[c1] at h1
    rw[c2] at h2
    refine Good.fzt (vs:=[.agg [vi 0,vi 0,nls,vb false],vi 10]) ?_ rfl ⟨FK,aH _,trivial⟩
    have c3':(x.z=y.z)=False:=eq_false c3
    obtain⟨z,t,l,b⟩:=x
    obtain⟨z2,t2,l2,b2⟩:=y
    simp only at *
    refine gI (eu [] mix) Tryz.func51 Tryz.results51 ?_
    (repeat' (first|(simp (disch:=first|exact dqz|fail) only[pgz,simprocAttr,pgE,pgj,iC,c3'])|(refine tC ?_;first|refine cU h1 ?_|refine cU h2 ?_)|(refine tE ?_ ?_<;>intro hc)|refine xK ?_|fail))
    (refine rT [] ?_;first|rfl|simp only[pgo,simprocAttr]|skip)
  ·unfold sZ
   rw[if_neg (fun h=>h c1),if_pos c2]
   rw[c1] at h1
   refine Good.fzt (vs:=[.agg [vi 0,vi 0,nls,vb false],vi (vTp y)]) ?_ rfl ⟨FK,aH _,trivial⟩
   have c2':(vTp y=0)=False:=eq_false c2
   generalize vTp y=v at *
   obtain⟨z,t,l,b⟩:=x
   obtain⟨z2,t2,l2,b2⟩:=y
   simp only at *
   refine gI (eu [] mix) Tryz.func51 Tryz.results51 ?_
   (repeat' (first|(simp (disch:=first|exact dqz|fail) only[pgz,simprocAttr,pgE,pgj,iC,c2'])|(refine tC ?_;first|refine cU h1 ?_|refine cU h2 ?_)|(refine tE ?_ ?_<;>intro hc)|refine xK ?_|fail))
   (refine rT [] ?_;first|rfl|simp only[pgo,simprocAttr]|skip)
 ·unfold sZ
  rw[if_pos c1]
  refine Good.fzt (vs:=[.agg [vi 0,vi 0,nls,vb false],vi (vTp x)]) ?_ rfl ⟨FK,aH _,trivial⟩
  have c1':(vTp x=0)=False:=eq_false c1
  generalize vTp x=v at *
  obtain⟨z,t,l,b⟩:=x
  obtain⟨z2,t2,l2,b2⟩:=y
  simp only at *
  refine gI (eu [] mix) Tryz.func51 Tryz.results51 ?_
  (repeat' (first|(simp (disch:=first|exact dqz|fail) only[pgz,simprocAttr,pgE,pgj,iC,c1'])|(refine tC ?_;refine cU h1 ?_)|(refine tE ?_ ?_<;>intro hc)|refine xK ?_|fail))
  (refine rT [] ?_;first|rfl|simp only[pgo,simprocAttr]|skip)
end Go.Proofs.YtiohdbjggmmjcaaGreat
