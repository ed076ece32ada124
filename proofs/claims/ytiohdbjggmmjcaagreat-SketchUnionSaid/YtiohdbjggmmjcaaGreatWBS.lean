/-
  Merged texts.
-/
import Derived.Test.YtiohdbjggmmjcaaGreatWBO
import Derived.Test.YtiohdbjggmmjcaaGreatWBP
import Derived.Test.YtiohdbjggmmjcaaGreatWBQ
import Derived.Test.YtiohdbjggmmjcaaGreatWBR
import Derived.Test.YtiohdbjggmmjcaaGreatWBD
import Derived.Test.YtiohdbjggmmjcaaGreatWAW
import Derived.Test.YtiohdbjggmmjcaaGreatWBE
set_option linter.unusedVariables false
set_option linter.unusedSimpArgs false
set_option linter.unusedSectionVars false
set_option linter.defProp false
set_option maxRecDepth 100000
set_option maxHeartbeats 8000000
namespace Go.Proofs.YtiohdbjggmmjcaaGreat
open Go Go.Pg
def oL(s u:Sk)(co:List Nat)(at':Int):Sk × Int × Int :=
 if vSk s≠0 then (Sk.o,0,vSk s) else if vSk u≠0 then (Sk.o,0,vSk u) else if ¬samP s.p u.p then (Sk.o,0,10) else if ¬(0≤at'∧at'≤1073741824) then (Sk.o,0,5)
 else if s.p.k=1 then (⟨s.p,(CU s.tl u.tl).1,s.cm,s.ll,s.tp,s.fq,s.rk⟩,at',0)
 else if s.p.k=2 then (⟨s.p,s.tl,(wM s.cm u.cm).1,s.ll,s.tp,s.fq,s.rk⟩,at',0)
 else if s.p.k=3 then (⟨s.p,s.tl,s.cm,(vk s.ll u.ll).1,s.tp,s.fq,s.rk⟩,at',0)
 else if s.p.k=4 then (⟨s.p,s.tl,s.cm,s.ll,(sZ s.tp u.tp).1,s.fq,s.rk⟩,at',0)
 else if s.p.k=5 then (⟨s.p,s.tl,s.cm,s.ll,s.tp,(qF s.fq u.fq).1,s.rk⟩,at',0)
 else (⟨s.p,s.tl,s.cm,s.ll,s.tp,s.fq,(qE s.rk u.rk co at').1⟩,(qE s.rk u.rk co at').2.1,0)
theorem acu(s u:Sk)(ok:s.Ok)(ok2:u.Ok)(co:List Nat)(at':Int)(hco:oct co)(h:vSk s=0)(h':vSk u=0)(hp0:samP s.p u.p)(ha:0≤at'∧at'≤1073741824)(hk:s.p.k=1):Gxx 17 [.agg (skF s),.agg (skF u),fzb co,vi at'] (.tup [.agg (skF (oL s u co at').1),vi (oL s u co at').2.1,vi (oL s u co at').2.2]):=by
 have h1:=jo s ok
 rw[h] at h1
 have h2:=jo u ok2
 rw[h'] at h2
 have h3:=abS at'
 rw[decide_eq_true ha] at h3
 have hp:=nP s u
 rw[decide_eq_true hp0] at hp
 have h4:=aiO s.tl u.tl
 have e:oL s u co at'=(⟨s.p,(CU s.tl u.tl).1,s.cm,s.ll,s.tp,s.fq,s.rk⟩,at',0):=by
  unfold oL
  rw[if_neg (by omega),if_neg (by omega),if_neg (fun h=>h hp0),if_neg (fun h=>h ha)]
  simp [hk]
 have hs:=yx h
 have e1:s.cm=Cm.o:=by have:=congrArg Sk.cm hs;simp only[aN,hk] at this;exact this.symm
 have e2:s.ll=Ll.o:=by have:=congrArg Sk.ll hs;simp only[aN,hk] at this;exact this.symm
 have e3:s.tp=Tp.o:=by have:=congrArg Sk.tp hs;simp only[aN,hk] at this;exact this.symm
 have e4:s.fq=Fq.o:=by have:=congrArg Sk.fq hs;simp only[aN,hk] at this;exact this.symm
 have e5:s.rk=Rk.o:=by have:=congrArg Sk.rk hs;simp only[aN,hk] at this;exact this.symm
 rw[e]
 clear hs
 rw[e1,e2,e3,e4,e5]
 generalize CU s.tl u.tl=I at *
 refine Good.fzt (vs:=[.agg (skC ⟨s.p,I.1,Cm.o,Ll.o,Tp.o,Fq.o,Rk.o⟩ nls nls nls nls nls),vi at',vi 0]) ?_ rfl ⟨iy ⟨s.p,I.1,Cm.o,Ll.o,Tp.o,Fq.o,Rk.o⟩ (aX _) (aX _) (aX _) (aX _) (aX _),aH _,aH _,trivial⟩
 clear ok ok2 h h' e e1 e2 e3 e4 e5
 obtain⟨⟨pk,pz,pd,ps⟩,⟨t1,t2,t3⟩,⟨c1,c2,c3,c4,c5⟩,⟨l1,l2,l3⟩,⟨e1,e2,e3,e4⟩,⟨f1,f2,f3,f4,f5⟩,⟨r1,r2,r3,r4,r5⟩⟩:=s
 obtain⟨⟨pk',pz',pd',ps'⟩,⟨t1',t2',t3'⟩,⟨c1',c2',c3',c4',c5'⟩,⟨l1',l2',l3'⟩,⟨e1',e2',e3',e4'⟩,⟨f1',f2',f3',f4',f5'⟩,⟨r1',r2',r3',r4',r5'⟩⟩:=u
 obtain⟨⟨i1,i2,i3⟩,i6⟩:=I
 clear hp0
 simp only at *
 subst hk
 refine gI oW Tryz.func17 Tryz.results17 ?_
 (repeat' (first|(simp (disch:=first|exact dqz|fail) only[pgz,simprocAttr])|((with_reducible show bU _ _ _ _ _ _);first|refine cU h1 ?_|refine cU h2 ?_|refine cU h3 ?_|refine cU h4 ?_|refine cU hp ?_)|(refine tS ?_ ?_<;>intro hc)|(with_reducible refine cK ?_)))
 (refine rT [] ?_;first|rfl|simp only[pgo,simprocAttr]|skip)
theorem acJ(s u:Sk)(ok:s.Ok)(ok2:u.Ok)(co:List Nat)(at':Int)(hco:oct co)(h:vSk s=0)(h':vSk u=0)(hp0:samP s.p u.p)(ha:0≤at'∧at'≤1073741824)(hk:s.p.k=2):Gxx 17 [.agg (skF s),.agg (skF u),fzb co,vi at'] (.tup [.agg (skF (oL s u co at').1),vi (oL s u co at').2.1,vi (oL s u co at').2.2]):=by
 have h1:=jo s ok
 rw[h] at h1
 have h2:=jo u ok2
 rw[h'] at h2
 have h3:=abS at'
 rw[decide_eq_true ha] at h3
 have hp:=nP s u
 rw[decide_eq_true hp0] at hp
 have h4:=aiQ s.cm u.cm
 have e:oL s u co at'=(⟨s.p,s.tl,(wM s.cm u.cm).1,s.ll,s.tp,s.fq,s.rk⟩,at',0):=by
  unfold oL
  rw[if_neg (by omega),if_neg (by omega),if_neg (fun h=>h hp0),if_neg (fun h=>h ha)]
  simp [hk]
 have hs:=yx h
 have e0:s.tl=Tl.o:=by have:=congrArg Sk.tl hs;simp only[aN,hk] at this;exact this.symm
 have e2:s.ll=Ll.o:=by have:=congrArg Sk.ll hs;simp only[aN,hk] at this;exact this.symm
 have e3:s.tp=Tp.o:=by have:=congrArg Sk.tp hs;simp only[aN,hk] at this;exact this.symm
 have e4:s.fq=Fq.o:=by have:=congrArg Sk.fq hs;simp only[aN,hk] at this;exact this.symm
 have e5:s.rk=Rk.o:=by have:=congrArg Sk.rk hs;simp only[aN,hk] at this;exact this.symm
 rw[e]
 clear hs
 rw[e0,e2,e3,e4,e5]
 generalize wM s.cm u.cm=I at *
 refine Good.fzt (vs:=[.agg (skC ⟨s.p,Tl.o,I.1,Ll.o,Tp.o,Fq.o,Rk.o⟩ (fzi I.1.c) nls nls nls nls),vi at',vi 0]) ?_ rfl ⟨iy ⟨s.p,Tl.o,I.1,Ll.o,Tp.o,Fq.o,Rk.o⟩ (nK _) (aX _) (aX _) (aX _) (aX _),aH _,aH _,trivial⟩
 clear ok ok2 h h' e e0 e2 e3 e4 e5
 obtain⟨⟨pk,pz,pd,ps⟩,⟨t1,t2,t3⟩,⟨c1,c2,c3,c4,c5⟩,⟨l1,l2,l3⟩,⟨e1,e2,e3,e4⟩,⟨f1,f2,f3,f4,f5⟩,⟨r1,r2,r3,r4,r5⟩⟩:=s
 obtain⟨⟨pk',pz',pd',ps'⟩,⟨t1',t2',t3'⟩,⟨c1',c2',c3',c4',c5'⟩,⟨l1',l2',l3'⟩,⟨e1',e2',e3',e4'⟩,⟨f1',f2',f3',f4',f5'⟩,⟨r1',r2',r3',r4',r5'⟩⟩:=u
 obtain⟨⟨i1,i2,i3,i4,i5⟩,i6⟩:=I
 clear hp0
 simp only at *
 subst hk
 refine gI oW Tryz.func17 Tryz.results17 ?_
 (repeat' (first|(simp (disch:=first|exact dqz|fail) only[pgz,simprocAttr])|((with_reducible show bU _ _ _ _ _ _);first|refine cU h1 ?_|refine cU h2 ?_|refine cU h3 ?_|refine cU h4 ?_|refine cU hp ?_)|(refine tS ?_ ?_<;>intro hc)|(with_reducible refine cK ?_)))
 (refine rT [] ?_;first|rfl|simp only[pgo,simprocAttr]|skip)
theorem acK(s u:Sk)(ok:s.Ok)(ok2:u.Ok)(co:List Nat)(at':Int)(hco:oct co)(h:vSk s=0)(h':vSk u=0)(hp0:samP s.p u.p)(ha:0≤at'∧at'≤1073741824)(hk:s.p.k=3):Gxx 17 [.agg (skF s),.agg (skF u),fzb co,vi at'] (.tup [.agg (skF (oL s u co at').1),vi (oL s u co at').2.1,vi (oL s u co at').2.2]):=by
 have h1:=jo s ok
 rw[h] at h1
 have h2:=jo u ok2
 rw[h'] at h2
 have h3:=abS at'
 rw[decide_eq_true ha] at h3
 have hp:=nP s u
 rw[decide_eq_true hp0] at hp
 have h4:=aiP s.ll u.ll ok.ln ok2.ln
 have e:oL s u co at'=(⟨s.p,s.tl,s.cm,(vk s.ll u.ll).1,s.tp,s.fq,s.rk⟩,at',0):=by
  unfold oL
  rw[if_neg (by omega),if_neg (by omega),if_neg (fun h=>h hp0),if_neg (fun h=>h ha)]
  simp [hk]
 have hs:=yx h
 have e0:s.tl=Tl.o:=by have:=congrArg Sk.tl hs;simp only[aN,hk] at this;exact this.symm
 have e1:s.cm=Cm.o:=by have:=congrArg Sk.cm hs;simp only[aN,hk] at this;exact this.symm
 have e3:s.tp=Tp.o:=by have:=congrArg Sk.tp hs;simp only[aN,hk] at this;exact this.symm
 have e4:s.fq=Fq.o:=by have:=congrArg Sk.fq hs;simp only[aN,hk] at this;exact this.symm
 have e5:s.rk=Rk.o:=by have:=congrArg Sk.rk hs;simp only[aN,hk] at this;exact this.symm
 rw[e]
 clear hs
 rw[e0,e1,e3,e4,e5]
 generalize vk s.ll u.ll=I at *
 refine Good.fzt (vs:=[.agg (skC ⟨s.p,Tl.o,Cm.o,I.1,Tp.o,Fq.o,Rk.o⟩ nls (fzi I.1.r) nls nls nls),vi at',vi 0]) ?_ rfl ⟨iy ⟨s.p,Tl.o,Cm.o,I.1,Tp.o,Fq.o,Rk.o⟩ (aX _) (nK _) (aX _) (aX _) (aX _),aH _,aH _,trivial⟩
 clear ok ok2 h h' e e0 e1 e3 e4 e5
 obtain⟨⟨pk,pz,pd,ps⟩,⟨t1,t2,t3⟩,⟨c1,c2,c3,c4,c5⟩,⟨l1,l2,l3⟩,⟨e1,e2,e3,e4⟩,⟨f1,f2,f3,f4,f5⟩,⟨r1,r2,r3,r4,r5⟩⟩:=s
 obtain⟨⟨pk',pz',pd',ps'⟩,⟨t1',t2',t3'⟩,⟨c1',c2',c3',c4',c5'⟩,⟨l1',l2',l3'⟩,⟨e1',e2',e3',e4'⟩,⟨f1',f2',f3',f4',f5'⟩,⟨r1',r2',r3',r4',r5'⟩⟩:=u
 obtain⟨⟨i1,i2,i3⟩,i6⟩:=I
 clear hp0
 simp only at *
 subst hk
 refine gI oW Tryz.func17 Tryz.results17 ?_
 (repeat' (first|(simp (disch:=first|exact dqz|fail) only[pgz,simprocAttr])|((with_reducible show bU _ _ _ _ _ _);first|refine cU h1 ?_|refine cU h2 ?_|refine cU h3 ?_|refine cU h4 ?_|refine cU hp ?_)|(refine tS ?_ ?_<;>intro hc)|(with_reducible refine cK ?_)))
 (refine rT [] ?_;first|rfl|simp only[pgo,simprocAttr]|skip)
theorem acL(s u:Sk)(ok:s.Ok)(ok2:u.Ok)(co:List Nat)(at':Int)(hco:oct co)(h:vSk s=0)(h':vSk u=0)(hp0:samP s.p u.p)(ha:0≤at'∧at'≤1073741824)(hk:s.p.k=4):Gxx 17 [.agg (skF s),.agg (skF u),fzb co,vi at'] (.tup [.agg (skF (oL s u co at').1),vi (oL s u co at').2.1,vi (oL s u co at').2.2]):=by
 have h1:=jo s ok
 rw[h] at h1
 have h2:=jo u ok2
 rw[h'] at h2
 have h3:=abS at'
 rw[decide_eq_true ha] at h3
 have hp:=nP s u
 rw[decide_eq_true hp0] at hp
 have h4:=aiM s.tp u.tp ok.to ok2.to ok.tn ok2.tn
 have e:oL s u co at'=(⟨s.p,s.tl,s.cm,s.ll,(sZ s.tp u.tp).1,s.fq,s.rk⟩,at',0):=by
  unfold oL
  rw[if_neg (by omega),if_neg (by omega),if_neg (fun h=>h hp0),if_neg (fun h=>h ha)]
  simp [hk]
 have hs:=yx h
 have e0:s.tl=Tl.o:=by have:=congrArg Sk.tl hs;simp only[aN,hk] at this;exact this.symm
 have e1:s.cm=Cm.o:=by have:=congrArg Sk.cm hs;simp only[aN,hk] at this;exact this.symm
 have e2:s.ll=Ll.o:=by have:=congrArg Sk.ll hs;simp only[aN,hk] at this;exact this.symm
 have e4:s.fq=Fq.o:=by have:=congrArg Sk.fq hs;simp only[aN,hk] at this;exact this.symm
 have e5:s.rk=Rk.o:=by have:=congrArg Sk.rk hs;simp only[aN,hk] at this;exact this.symm
 rw[e]
 clear hs
 rw[e0,e1,e2,e4,e5]
 generalize sZ s.tp u.tp=I at *
 refine Good.fzt (vs:=[.agg (skC ⟨s.p,Tl.o,Cm.o,Ll.o,I.1,Fq.o,Rk.o⟩ nls nls (fzv I.1.e) nls nls),vi at',vi 0]) ?_ rfl ⟨iy ⟨s.p,Tl.o,Cm.o,Ll.o,I.1,Fq.o,Rk.o⟩ (aX _) (aX _) (nK _) (aX _) (aX _),aH _,aH _,trivial⟩
 clear ok ok2 h h' e e0 e1 e2 e4 e5
 obtain⟨⟨pk,pz,pd,ps⟩,⟨t1,t2,t3⟩,⟨c1,c2,c3,c4,c5⟩,⟨l1,l2,l3⟩,⟨e1,e2,e3,e4⟩,⟨f1,f2,f3,f4,f5⟩,⟨r1,r2,r3,r4,r5⟩⟩:=s
 obtain⟨⟨pk',pz',pd',ps'⟩,⟨t1',t2',t3'⟩,⟨c1',c2',c3',c4',c5'⟩,⟨l1',l2',l3'⟩,⟨e1',e2',e3',e4'⟩,⟨f1',f2',f3',f4',f5'⟩,⟨r1',r2',r3',r4',r5'⟩⟩:=u
 obtain⟨⟨i1,i2,i3,i4⟩,i6⟩:=I
 clear hp0
 simp only at *
 subst hk
 refine gI oW Tryz.func17 Tryz.results17 ?_
 (repeat' (first|(simp (disch:=first|exact dqz|fail) only[pgz,simprocAttr])|((with_reducible show bU _ _ _ _ _ _);first|refine cU h1 ?_|refine cU h2 ?_|refine cU h3 ?_|refine cU h4 ?_|refine cU hp ?_)|(refine tS ?_ ?_<;>intro hc)|(with_reducible refine cK ?_)))
 (refine rT [] ?_;first|rfl|simp only[pgo,simprocAttr]|skip)
theorem acM(s u:Sk)(ok:s.Ok)(ok2:u.Ok)(co:List Nat)(at':Int)(hco:oct co)(h:vSk s=0)(h':vSk u=0)(hp0:samP s.p u.p)(ha:0≤at'∧at'≤1073741824)(hk:s.p.k=5):Gxx 17 [.agg (skF s),.agg (skF u),fzb co,vi at'] (.tup [.agg (skF (oL s u co at').1),vi (oL s u co at').2.1,vi (oL s u co at').2.2]):=by
 have h1:=jo s ok
 rw[h] at h1
 have h2:=jo u ok2
 rw[h'] at h2
 have h3:=abS at'
 rw[decide_eq_true ha] at h3
 have hp:=nP s u
 rw[decide_eq_true hp0] at hp
 have h4:=aiL s.fq u.fq ok.fo ok2.fo ok.fn ok2.fn
 have e:oL s u co at'=(⟨s.p,s.tl,s.cm,s.ll,s.tp,(qF s.fq u.fq).1,s.rk⟩,at',0):=by
  unfold oL
  rw[if_neg (by omega),if_neg (by omega),if_neg (fun h=>h hp0),if_neg (fun h=>h ha)]
  simp [hk]
 have hs:=yx h
 have e0:s.tl=Tl.o:=by have:=congrArg Sk.tl hs;simp only[aN,hk] at this;exact this.symm
 have e1:s.cm=Cm.o:=by have:=congrArg Sk.cm hs;simp only[aN,hk] at this;exact this.symm
 have e2:s.ll=Ll.o:=by have:=congrArg Sk.ll hs;simp only[aN,hk] at this;exact this.symm
 have e3:s.tp=Tp.o:=by have:=congrArg Sk.tp hs;simp only[aN,hk] at this;exact this.symm
 have e5:s.rk=Rk.o:=by have:=congrArg Sk.rk hs;simp only[aN,hk] at this;exact this.symm
 rw[e]
 clear hs
 rw[e0,e1,e2,e3,e5]
 generalize qF s.fq u.fq=I at *
 refine Good.fzt (vs:=[.agg (skC ⟨s.p,Tl.o,Cm.o,Ll.o,Tp.o,I.1,Rk.o⟩ nls nls nls (fzv I.1.e) nls),vi at',vi 0]) ?_ rfl ⟨iy ⟨s.p,Tl.o,Cm.o,Ll.o,Tp.o,I.1,Rk.o⟩ (aX _) (aX _) (aX _) (nK _) (aX _),aH _,aH _,trivial⟩
 clear ok ok2 h h' e e0 e1 e2 e3 e5
 obtain⟨⟨pk,pz,pd,ps⟩,⟨t1,t2,t3⟩,⟨c1,c2,c3,c4,c5⟩,⟨l1,l2,l3⟩,⟨e1,e2,e3,e4⟩,⟨f1,f2,f3,f4,f5⟩,⟨r1,r2,r3,r4,r5⟩⟩:=s
 obtain⟨⟨pk',pz',pd',ps'⟩,⟨t1',t2',t3'⟩,⟨c1',c2',c3',c4',c5'⟩,⟨l1',l2',l3'⟩,⟨e1',e2',e3',e4'⟩,⟨f1',f2',f3',f4',f5'⟩,⟨r1',r2',r3',r4',r5'⟩⟩:=u
 obtain⟨⟨i1,i2,i3,i4,i5⟩,i6⟩:=I
 clear hp0
 simp only at *
 subst hk
 refine gI oW Tryz.func17 Tryz.results17 ?_
 (repeat' (first|(simp (disch:=first|exact dqz|fail) only[pgz,simprocAttr])|((with_reducible show bU _ _ _ _ _ _);first|refine cU h1 ?_|refine cU h2 ?_|refine cU h3 ?_|refine cU h4 ?_|refine cU hp ?_)|(refine tS ?_ ?_<;>intro hc)|(with_reducible refine cK ?_)))
 (refine rT [] ?_;first|rfl|simp only[pgo,simprocAttr]|skip)
theorem acN(s u:Sk)(ok:s.Ok)(ok2:u.Ok)(co:List Nat)(at':Int)(hco:oct co)(h:vSk s=0)(h':vSk u=0)(hp0:samP s.p u.p)(ha:0≤at'∧at'≤1073741824)(hk:s.p.k=6):Gxx 17 [.agg (skF s),.agg (skF u),fzb co,vi at'] (.tup [.agg (skF (oL s u co at').1),vi (oL s u co at').2.1,vi (oL s u co at').2.2]):=by
 have h1:=jo s ok
 rw[h] at h1
 have h2:=jo u ok2
 rw[h'] at h2
 have h3:=abS at'
 rw[decide_eq_true ha] at h3
 have hp:=nP s u
 rw[decide_eq_true hp0] at hp
 have h4:=ahQ s.rk u.rk co at' hco ok.ro ok.rn ok.rm ok2.ro ok2.rn ok2.rm
 have e:oL s u co at'=(⟨s.p,s.tl,s.cm,s.ll,s.tp,s.fq,(qE s.rk u.rk co at').1⟩,(qE s.rk u.rk co at').2.1,0):=by
  unfold oL
  rw[if_neg (by omega),if_neg (by omega),if_neg (fun h=>h hp0),if_neg (fun h=>h ha)]
  simp [hk]
 have hs:=yx h
 have e0:s.tl=Tl.o:=by have:=congrArg Sk.tl hs;simp only[aN,hk] at this;exact this.symm
 have e1:s.cm=Cm.o:=by have:=congrArg Sk.cm hs;simp only[aN,hk] at this;exact this.symm
 have e2:s.ll=Ll.o:=by have:=congrArg Sk.ll hs;simp only[aN,hk] at this;exact this.symm
 have e3:s.tp=Tp.o:=by have:=congrArg Sk.tp hs;simp only[aN,hk] at this;exact this.symm
 have e4:s.fq=Fq.o:=by have:=congrArg Sk.fq hs;simp only[aN,hk] at this;exact this.symm
 rw[e]
 clear hs
 rw[e0,e1,e2,e3,e4]
 generalize qE s.rk u.rk co at'=I at *
 refine Good.fzt (vs:=[.agg (skC ⟨s.p,Tl.o,Cm.o,Ll.o,Tp.o,Fq.o,I.1⟩ nls nls nls nls (fzl I.1.v)),vi I.2.1,vi 0]) ?_ rfl ⟨iy ⟨s.p,Tl.o,Cm.o,Ll.o,Tp.o,Fq.o,I.1⟩ (aX _) (aX _) (aX _) (aX _) (nK _),aH _,aH _,trivial⟩
 clear ok ok2 h h' e e0 e1 e2 e3 e4
 obtain⟨⟨pk,pz,pd,ps⟩,⟨t1,t2,t3⟩,⟨c1,c2,c3,c4,c5⟩,⟨l1,l2,l3⟩,⟨e1,e2,e3,e4⟩,⟨f1,f2,f3,f4,f5⟩,⟨r1,r2,r3,r4,r5⟩⟩:=s
 obtain⟨⟨pk',pz',pd',ps'⟩,⟨t1',t2',t3'⟩,⟨c1',c2',c3',c4',c5'⟩,⟨l1',l2',l3'⟩,⟨e1',e2',e3',e4'⟩,⟨f1',f2',f3',f4',f5'⟩,⟨r1',r2',r3',r4',r5'⟩⟩:=u
 obtain⟨⟨i1,i2,i3,i4,i5⟩,i6,i7⟩:=I
 clear hp0
 simp only at *
 subst hk
 refine gI oW Tryz.func17 Tryz.results17 ?_
 (repeat' (first|(simp (disch:=first|exact dqz|fail) only[pgz,simprocAttr])|((with_reducible show bU _ _ _ _ _ _);first|refine cU h1 ?_|refine cU h2 ?_|refine cU h3 ?_|refine cU h4 ?_|refine cU hp ?_)|(refine tS ?_ ?_<;>intro hc)|(with_reducible refine cK ?_)))
 (refine rT [] ?_;first|rfl|simp only[pgo,simprocAttr]|skip)
theorem Dv(s u:Sk)(ok:s.Ok)(ok2:u.Ok)(co:List Nat)(at':Int)(hco:oct co):Gxx 17 [.agg (skF s),.agg (skF u),fzb co,vi at'] (.tup [.agg (skF (oL s u co at').1),vi (oL s u co at').2.1,vi (oL s u co at').2.2]):=by
 have h1:=jo s ok
 have h2:=jo u ok2
 have h3:=abS at'
 by_cases q1:vSk s=0
 ·by_cases q2:vSk u=0
  ·by_cases q3:samP s.p u.p
   ·by_cases q4:0≤at'∧at'≤1073741824
    ·have q5:vp s.p.k s.p.z s.p.d s.p.s=0:=by
      have q1:=q1
      unfold vSk at q1
      split at q1
      ·rename_i h;exact absurd q1 h
      ·rename_i h;exact Classical.byContradiction h
     rcases Jd q5 with hk|hk|hk|hk|hk|hk
     ·exact acu s u ok ok2 co at' hco q1 q2 q3 q4 hk
     ·exact acJ s u ok ok2 co at' hco q1 q2 q3 q4 hk
     ·exact acK s u ok ok2 co at' hco q1 q2 q3 q4 hk
     ·exact acL s u ok ok2 co at' hco q1 q2 q3 q4 hk
     ·exact acM s u ok ok2 co at' hco q1 q2 q3 q4 hk
     ·exact acN s u ok ok2 co at' hco q1 q2 q3 q4 hk
    ·have e:oL s u co at'=(Sk.o,0,5):=by unfold oL;rw[if_neg (by omega),if_neg (by omega),if_neg (fun h=>h q3),if_pos q4]
     rw[e]
     rw[decide_eq_false q4] at h3
     rw[q1] at h1
     rw[q2] at h2
     have hp:=nP s u
     rw[decide_eq_true q3] at hp
     refine Good.fzt (vs:=[.agg (skC Sk.o nls nls nls nls nls),vi 0,vi 5]) ?_ rfl ⟨uX,aH _,aH _,trivial⟩
     refine gI oW Tryz.func17 Tryz.results17 ?_
     (repeat' (first|(simp (disch:=first|exact dqz|fail) only[pgz,simprocAttr])|((with_reducible show bU _ _ _ _ _ _);first|refine cU h1 ?_|refine cU h2 ?_|refine cU h3 ?_|refine cU hp ?_)|(refine tS ?_ ?_<;>intro hc)|(with_reducible refine cK ?_)))
     (refine rT [] ?_;first|rfl|simp only[pgo,simprocAttr]|skip)
   ·have e:oL s u co at'=(Sk.o,0,10):=by unfold oL;rw[if_neg (by omega),if_neg (by omega),if_pos q3]
    rw[e]
    rw[q1] at h1
    rw[q2] at h2
    have hp:=nP s u
    rw[decide_eq_false q3] at hp
    refine Good.fzt (vs:=[.agg (skC Sk.o nls nls nls nls nls),vi 0,vi 10]) ?_ rfl ⟨uX,aH _,aH _,trivial⟩
    refine gI oW Tryz.func17 Tryz.results17 ?_
    (repeat' (first|(simp (disch:=first|exact dqz|fail) only[pgz,simprocAttr])|((with_reducible show bU _ _ _ _ _ _);first|refine cU h1 ?_|refine cU h2 ?_|refine cU h3 ?_|refine cU hp ?_)|(refine tS ?_ ?_<;>intro hc)|(with_reducible refine cK ?_)))
    (refine rT [] ?_;first|rfl|simp only[pgo,simprocAttr]|skip)
  ·have e:oL s u co at'=(Sk.o,0,vSk u):=by unfold oL;rw[if_neg (by omega),if_pos q2]
   rw[e]
   rw[q1] at h1
   refine Good.fzt (vs:=[.agg (skC Sk.o nls nls nls nls nls),vi 0,vi (vSk u)]) ?_ rfl ⟨uX,aH _,aH _,trivial⟩
   refine gI oW Tryz.func17 Tryz.results17 ?_
   (repeat' (first|(simp (disch:=first|exact dqz|fail) only[pgz,simprocAttr])|((with_reducible show bU _ _ _ _ _ _);first|refine cU h1 ?_|refine cU h2 ?_)|(refine tS ?_ ?_<;>intro hc)|(with_reducible refine cK ?_)))
   (refine rT [] ?_;first|rfl|simp only[pgo,simprocAttr]|skip)
 ·have e:oL s u co at'=(Sk.o,0,vSk s):=by unfold oL;rw[if_pos q1]
  rw[e]
  refine Good.fzt (vs:=[.agg (skC Sk.o nls nls nls nls nls),vi 0,vi (vSk s)]) ?_ rfl ⟨uX,aH _,aH _,trivial⟩
  refine gI oW Tryz.func17 Tryz.results17 ?_
  (repeat' (first|(simp (disch:=first|exact dqz|fail) only[pgz,simprocAttr])|((with_reducible show bU _ _ _ _ _ _);refine cU h1 ?_)|(refine tS ?_ ?_<;>intro hc)|(with_reducible refine cK ?_)))
  (refine rT [] ?_;first|rfl|simp only[pgo,simprocAttr]|skip)
theorem aiD(x y:Tp)(hx:octE x.e)(hy:octE y.e):octE (sZ x y).1.e∧(sZ x y).1.e.length≤1000000:=by
 have h0:octE Tp.o.e∧Tp.o.e.length≤1000000:=⟨(fun e he=>by cases he),Nat.zero_le _⟩
 unfold sZ
 split
 ·exact h0
 ·rename_i h1
  split
  ·exact h0
  ·split
   ·exact h0
   ·have i1:=kK (Classical.byContradiction h1)
    refine⟨fun e he => ?_, ?_⟩
    ·have he:=(OO bfE e _).1 (List.mem_of_mem_take he)
     rw[←agw] at he
     obtain⟨z,hz,rfl⟩:=List.mem_map.1 he
     rw[agv]
     unfold tu at hz
     rcases List.mem_append.1 hz with hz|hz
     ·exact hx z hz
     ·exact hy z (List.mem_of_mem_take (List.mem_filter.1 hz).1)
    ·simp only[List.length_take];omega
theorem aiE(x y:Fq)(hx:octE x.e)(hy:octE y.e):octE (qF x y).1.e∧(qF x y).1.e.length≤1000000:=by
 have h0:octE Fq.o.e∧Fq.o.e.length≤1000000:=⟨(fun e he=>by cases he),Nat.zero_le _⟩
 unfold qF
 split
 ·exact h0
 ·rename_i h1
  split
  ·exact h0
  ·rename_i h2
   split
   ·exact h0
   ·obtain⟨i1,i2,i2',i3,i4⟩:=jW (Classical.byContradiction h1)
    obtain⟨j1,j2,j2',j3,j4⟩:=jW (Classical.byContradiction h2)
    have hl:(jnF x y).length≤x.e.length+y.e.length:=Ei _ _ _
    have ho:=aiK hx hy
    split
    ·have:=BF (DD x y) (jnF x y)
     exact⟨JR _ ho,by simp only;omega⟩
    ·exact⟨ho,by simp only;omega⟩
theorem aid{v u:List (List (List Nat))}(hv:yj v)(hu:yj u)(n:Nat):yj (mF v u n):=by
 intro l hl
 obtain⟨j,hj,rfl⟩:=List.mem_iff_getElem.1 hl
 have h1:=GI v u j n
 rw[List.getD_eq_getElem?_getD,List.getElem?_eq_getElem hj,Option.getD_some] at h1
 rw[h1]
 intro e he
 rcases List.mem_append.1 he with he|he
 ·exact JU hv _ e he
 ·split at he
  ·exact JU hu _ e he
  ·cases he
theorem aiF(x y:Rk)(co:List Nat)(at':Int)(hv:yj x.v)(hu:yj y.v)(hn:x.v.length≤1000000)(hm:∀l∈x.v,l.length≤1000000) :
  yj (qE x y co at').1.v∧(qE x y co at').1.v.length≤1000000∧∀l∈(qE x y co at').1.v,l.length≤1000000:=by
 have h0:yj Rk.o.v∧Rk.o.v.length≤1000000∧∀l∈Rk.o.v,l.length≤1000000:=⟨(fun l hl=>by cases hl),Nat.zero_le _,fun l hl=>by cases hl⟩
 unfold qE
 split
 ·exact h0
 ·rename_i h1
  split
  ·exact h0
  ·rename_i h2
   split
   ·exact h0
   ·split
    ·exact h0
    ·split
     ·exact⟨hv,hn,hm⟩
     ·obtain⟨i1,i2,i3,i4,i5⟩:=Na (Classical.byContradiction h1)
      obtain⟨j1,j2,j3,j4,j5⟩:=Na (Classical.byContradiction h2)
      have hpo:=aid hv hu y.v.length
      have hpl:=GY x.v y.v 63 (by omega) y.v.length (by omega)
      have hgo:=YX (mF x.v y.v y.v.length) x.z (by omega) co hpo ((mF x.v y.v y.v.length).length*(100+1)) (0,[],(aO x.l y.l).1,at',[]) ⟨(fun e he=>by cases he),(fun l hl=>by cases hl)⟩
      have hle:=abK (mF x.v y.v y.v.length) x.z co ((mF x.v y.v y.v.length).length*(100+1)) (0,[],(aO x.l y.l).1,at',[])
      have hml:(mF x.v y.v y.v.length).length*(100+1)≤63*101:=Nat.mul_le_mul_right 101 hpl
      obtain⟨t1,t2⟩:=TG (O4 x y co at').2.2.2.2.length (O4 x y co at').2.2.2.2
      have hsl:(O4 x y co at').2.2.2.2.length≤0+(mF x.v y.v y.v.length).length*(100+1):=hle
      have hsg:YW (O4 x y co at'):=hgo
      show yj (jb _ _)∧(jb _ _).length≤_∧∀l∈jb _ _,_
      exact⟨fun l hl=>(hsg.2 l (t1 l hl)).1,by omega,fun l hl=>by have:=(hsg.2 l (t1 l hl)).2;omega⟩
theorem GM(s u:Sk)(ok:s.Ok)(ok2:u.Ok)(co:List Nat)(at':Int):(oL s u co at').1.Ok:=by
 have z0:(0:Int)≤0∧(0:Int)<18446744073709551616:=⟨by decide,by decide⟩
 unfold oL
 split
 ·exact NM
 ·split
  ·exact NM
  ·split
   ·exact NM
   ·split
    ·exact NM
    ·split
     ·exact⟨ok.ps,ok.cs,ok.ls,ok.cn,ok.ln,ok.to,ok.tn,ok.fo,ok.fn,ok.ro,ok.rn,ok.rm⟩
     ·split
      ·have h:(0≤(wM s.cm u.cm).1.s∧(wM s.cm u.cm).1.s<18446744073709551616)∧(wM s.cm u.cm).1.c.length≤1000000:=by
        unfold wM
        split
        ·exact⟨z0,Nat.zero_le _⟩
        ·split
         ·exact⟨z0,Nat.zero_le _⟩
         ·split
          ·exact⟨z0,Nat.zero_le _⟩
          ·exact⟨ok.cs,by simp only[GL];exact ok.cn⟩
       exact⟨ok.ps,h.1,ok.ls,h.2,ok.ln,ok.to,ok.tn,ok.fo,ok.fn,ok.ro,ok.rn,ok.rm⟩
      ·split
       ·have h:(0≤(vk s.ll u.ll).1.s∧(vk s.ll u.ll).1.s<18446744073709551616)∧(vk s.ll u.ll).1.r.length≤1000000:=by
         unfold vk
         split
         ·exact⟨z0,Nat.zero_le _⟩
         ·split
          ·exact⟨z0,Nat.zero_le _⟩
          ·split
           ·exact⟨z0,Nat.zero_le _⟩
           ·exact⟨ok.ls,by simp only[GK];exact ok.ln⟩
        exact⟨ok.ps,ok.cs,h.1,ok.cn,h.2,ok.to,ok.tn,ok.fo,ok.fn,ok.ro,ok.rn,ok.rm⟩
       ·split
        ·have h:=aiD s.tp u.tp ok.to ok2.to
         exact⟨ok.ps,ok.cs,ok.ls,ok.cn,ok.ln,h.1,h.2,ok.fo,ok.fn,ok.ro,ok.rn,ok.rm⟩
        ·split
         ·have h:=aiE s.fq u.fq ok.fo ok2.fo
          exact⟨ok.ps,ok.cs,ok.ls,ok.cn,ok.ln,ok.to,ok.tn,h.1,h.2,ok.ro,ok.rn,ok.rm⟩
         ·have h:=aiF s.rk u.rk co at' ok.ro ok2.ro ok.rn ok.rm
          exact⟨ok.ps,ok.cs,ok.ls,ok.cn,ok.ln,ok.to,ok.tn,ok.fo,ok.fn,h.1,h.2.1,h.2.2⟩
def acO(p:Pm)(l:List Int):Sk:=(mg p (kU (l.drop (min l.length 2)) (atN l 1%8)) (lD (atN l 9)) (atN l 1%8)).1
theorem aiG(p:Pm)(hs:0≤p.s∧p.s<18446744073709551616)(hv:vp p.k p.z p.d p.s=0)(l:List Int):(acO p l).Ok:=JW _ hs hv _ (CO _ _) _ _
theorem aeM(p:Pm)(hs:0≤p.s∧p.s<18446744073709551616)(hv:vp p.k p.z p.d p.s=0)(l:List Int)(hl:l.length≤9223372036854775807):Gxx 14 [.agg (pmF p),fzi l] (.agg (skF (acO p l))):=by
 have a1:=acB l 1 hl (by omega)
 have a9:=acB l 9 hl (by omega)
 have b1:=Gx l 1
 have b9:=Gx l 9
 have h2:=acC (l.drop (min l.length 2)) (atN l 1%8) (by rw[List.length_drop];omega) (by omega)
 have h3:=OL ((atN l 9:Nat):Int)
 have h4:=afk p hs hv (kU (l.drop (min l.length 2)) (atN l 1%8)) (by rw[uY];omega) (CO _ _) (lD (atN l 9)) (D7 _).1
 rw[uY] at h4
 have e:(mg p (kU (l.drop (min l.length 2)) (atN l 1%8)) (lD (atN l 9)) (atN l 1%8)).1=acO p l:=rfl
 rw[e] at h4
 have hil:=aZ l
 have hdr:=acD l (min l.length 2)
 have hmn:=min2 l.length
 generalize acO p l=S at *
 generalize kU (l.drop (min l.length 2)) (atN l 1%8)=its at *
 generalize lD (atN l 9)=co at *
 generalize atN l 1=n1 at *
 generalize atN l 9=n9 at *
 clear e
 obtain⟨⟨pk,pz,pd,ps⟩,⟨t1,t2,t3⟩,⟨c1,c2,c3,c4,c5⟩,⟨l1,l2,l3⟩,⟨e1,e2,e3,e4⟩,⟨f1,f2,f3,f4,f5⟩,⟨r1,r2,r3,r4,r5⟩⟩:=S
 obtain⟨qk,qz,qd,qs⟩:=p
 refine gI oW Tryz.func14 Tryz.results14 ?_
 (repeat' (first|(simp (disch:=first|exact dqz|fail) only[pgz,simprocAttr,pgv,mmF,hil,hmn,hdr,anB])|((with_reducible show bU _ _ _ _ _ _);first|refine cU a1 ?_|refine cU a9 ?_|refine cU h2 ?_|refine cU h3 ?_|refine cU h4 ?_)|(refine tS ?_ ?_<;>intro hc)|(with_reducible refine cK ?_)))
 (refine rT [] ?_;first|rfl|simp only[pgo,simprocAttr]|skip)
end Go.Proofs.YtiohdbjggmmjcaaGreat
