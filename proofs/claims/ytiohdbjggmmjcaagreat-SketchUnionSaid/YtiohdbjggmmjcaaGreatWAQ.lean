/-
  Merged texts.
-/
import Derived.Test.YtiohdbjggmmjcaaGreatWAN
import Derived.Test.YtiohdbjggmmjcaaGreatWAP
import Derived.Laws.BitsLemmas
set_option linter.unusedVariables false
set_option linter.unusedSimpArgs false
set_option linter.unusedSectionVars false
set_option linter.defProp false
set_option maxRecDepth 100000
set_option maxHeartbeats 8000000
namespace Go.Proofs.YtiohdbjggmmjcaaGreat
open Go Go.Pg
theorem dqz{p:Prop}(h:p:=by first|assumption|omega|(simp only[Fits,maxLen,pgq] at *;omega)):p:=h
def pgz:=aI pgo (aI pgb (aI tyf @ae))
def agi:=aI pgo (aI pgb tyf)
theorem rT{P:Program}{rs:List ResultVar}{r r0:V}{s:St}(l:List Nat)(hr:r0.map (nz l) id=r)
  (h:nO P s rs=some r0:=by first|exact aW _ _ _|exact bD _ _ _ _|exact aS _ _ _ _ _|exact aY _ _ _ _ _ _|(simp (disch:=first|exact dqz|fail) only[pgr,pgo,tyf,simprocAttr];rfl))
  (hl:l.Nodup:=by decide) (hi:r0.any (Tag.notIn l) (fun _=>true) false=false:=by simp only[pgo,simprocAttr]):QS P rs r s:=bZ l r0 h hl hi hr
theorem rE{P:Program}{rs:List ResultVar}{r r0:V}{s:St}(l:List Nat)
  (h:nO P s rs=some r0:=by first|exact aW _ _ _|exact bD _ _ _ _|exact aS _ _ _ _ _|exact aY _ _ _ _ _ _|(simp (disch:=first|exact dqz|fail) only[pgr,pgo,tyf,simprocAttr];rfl))
  (hl:l.Nodup:=by decide) (hi:r0.any (Tag.notIn l) (fun _=>true) false=false:=by simp only[pgo,simprocAttr]) (hr:r0.map (nz l) id=r:=by first|rfl|(simp only[pgo,simprocAttr];done)):QS P rs r s:=bZ l r0 h hl hi hr
def Ids(l:List Nat):Prop:=True
theorem ids(l:List Nat):Ids l:=trivial
theorem ay:Ids []:=trivial
theorem rI{P:Program}{rs:List ResultVar}{r r0:V}{s:St}{l:List Nat}(hi0:Ids l)
  (h:nO P s rs=some r0:=by first|exact aW _ _ _|exact bD _ _ _ _|exact aS _ _ _ _ _|exact aY _ _ _ _ _ _|(simp (disch:=first|exact dqz|fail) only[pgr,pgo,tyf,simprocAttr];rfl))
  (hl:l.Nodup:=by decide) (hi:r0.any (Tag.notIn l) (fun _=>true) false=false:=by simp only[pgo,simprocAttr]) (hr:r0.map (nz l) id=r:=by first|rfl|(simp only[pgo,simprocAttr];done)):QS P rs r s:=bZ l r0 h hl hi hr
theorem cU{P:Program}[Tb P]{g:FuncId}{args:List Operand}{d:Option Nat}{s:St}{K:Kd→St→Prop}{vs:List V}{r:V}(hg:Pg.Good P g vs r)(hK:K (kc (.fn g [] []::args.map s.ev) [] r) (St.put { s with nid:=s.nid+r.idb } d (r.shift s.nid)))
  (hvs:(args.map s.ev).map V.erase=vs:=by exact rfl) (h1:noRefs (args.map s.ev)=true:=by exact rfl) (h2:r.noRef=true:=by exact rfl) (h3:(ownFree (args.map s.ev)||r.flat)=true:=by exact rfl):bU P (.fn g [] []) args d s K:=ah r hg hvs h1 h2 h3 hK
theorem cF{P:Program}[Tb P]{g:FuncId}{args:List Operand}{d:Option Nat}{s:St}{K:Kd→St→Prop}{vs:List V}{r:V}(hg:Pg.Good P g vs r)(hf:r.flat=true)(hK:K (kc (.fn g [] []::args.map s.ev) [] r) (St.put { s with nid:=s.nid+r.idb } d (r.shift s.nid)))
  (hvs:(args.map s.ev).map V.erase=vs:=by exact rfl) (h1:noRefs (args.map s.ev)=true:=by exact rfl) (h2:r.noRef=true:=by exact rfl):bU P (.fn g [] []) args d s K:=ah r hg hvs h1 h2 (by rw[Bool.or_eq_true];exact .inr hf) hK
theorem cG{P:Program}[Tb P]{g:FuncId}{args:List Operand}{d:Option Nat}{s:St}{K:Kd→St→Prop}{vs:List V}(ids:List Nat){r:V}(hg:Pg.Good P g vs r)(hK:K (kc (.fn g [] []::args.map s.ev) ids r) (St.put { s.freezeAll ids with nid:=s.nid+r.idb } d (r.shift s.nid)))
  (hvs:(args.map (s.freezeAll ids).ev).map V.erase=vs:=by exact rfl) (h1:noRefs (args.map (s.freezeAll ids).ev)=true:=by exact rfl) (h2:r.noRef=true:=by exact rfl) (h3:(ownFree (args.map (s.freezeAll ids).ev)||r.flat)=true:=by exact rfl):bU P (.fn g [] []) args d s K:=pI ids r hg hvs h1 h2 h3 hK
theorem cZ{P:Program}[Tb P]{g:FuncId}{args:List Operand}{d:Option Nat}{s s':St}{K:Kd→St→Prop}{vs:List V}{r:V}(hg:Pg.GoodZ P g vs s s' r)(hK:K .z (s'.put d r))(hvs:args.map s.ev=vs:=by exact rfl):bU P (.fn g [] []) args d s K:=dZ r hg hvs hK
theorem cY{P:Program}[Tb P]{g:FuncId}{fs cs:List V}{args:List Operand}{d:Option Nat}{s s':St}{K:Kd→St→Prop}{vs:List V}{r:V}(hg:Pg.GoodZ P g vs s s' r)(hK:K .z (s'.put d r))(hvs:fs++args.map s.ev++cs=vs:=by exact rfl):bU P (.fn g fs cs) args d s K:=wo r hg hvs hK
theorem cA{P:Program}[Tb P]{m:Nat}{g:FuncId}{fs cs:List V}{args:List Operand}{d:Option Nat}{s:St}{K:Ka→St→Prop}{vs:List V}{r:V}(hg:Pg.Good P g vs r)(hK:K .q (St.put s d (r.shift m)))(hvs:(fs++args.map s.ev++cs).map V.erase=vs:=by exact rfl)(h0:ownFree (fs++cs)=true:=by exact rfl)(h1:noRefs (fs++args.map s.ev++cs)=true:=by exact rfl)
  (h2:r.noRef=true:=by exact rfl) (h3:(ownFree (args.map s.ev)||r.flat)=true:=by exact rfl) (h5:r.idb≤1:=by exact Nat.le_of_ble_eq_true rfl):rO P m (.fn g fs cs) args d s K:=Ro r hg hvs h0 h1 h2 h3 h5 hK
theorem cAZ{P:Program}[Tb P]{m:Nat}{g:FuncId}{fs cs:List V}{args:List Operand}{d:Option Nat}{s s1:St}{K:Ka→St→Prop}{vs:List V}{r:V}(hg:Pg.GoodZ P g vs s s1 r)(hK:K .z (s1.put d r))(hvs:fs++args.map s.ev++cs=vs:=by exact rfl):rO P m (.fn g fs cs) args d s K:=abm r hg hvs hK
theorem cK{ops:List Oper}{ks:List Kd}{q:Prop}(h2:q)(h1:xC ops ks=true:=by kernel_rfl):xC ops ks=true∧q:=az h1 h2
theorem cKA{ops:List Oper}{ks:List Ka}{q:Prop}(h2:q)(h1:Fe ops ks=true:=by kernel_rfl):Fe ops ks=true∧q:=abh h1 h2
theorem gI{D:Dw}(hD:jE Tryz.prog D){f:FuncId}{fn:Func}{c:Code}{rs:List ResultVar}{args:List V}{r:V}(hf:Tryz.prog.funcs[f]?=some fn)(hrs:fn.results=rs.toArray)(h:wpS D Tryz.prog c (ZI Tryz.prog rs r) (Hy args))
  (hb:fn.body=some c:=by exact rfl) (hn:(fn.name == "runtime.NumGoroutine")=false:=by kernel_rfl) (hfit:oQ fn.ntmps c=true:=by kernel_rfl) (hlen:args.length≤fn.ntmps:=by exact Nat.le_of_ble_eq_true (by kernel_rfl)):Gxx f args r:=aK hD hf hb hrs hn hfit hlen h
theorem gZ{D:Dw}(hD:jE Tryz.prog D){f:FuncId}{fn:Func}{c:Code}{rs:List ResultVar}{args:List V}{r:V}{s s':St}(hf:Tryz.prog.funcs[f]?=some fn)(hrs:fn.results=rs.toArray)(h:wpS D Tryz.prog c (ZP Tryz.prog rs s' r) (P5 args s))
  (hb:fn.body=some c:=by exact rfl) (hn:(fn.name == "runtime.NumGoroutine")=false:=by kernel_rfl) (hfit:oQ fn.ntmps c=true:=by kernel_rfl) (hlen:args.length≤fn.ntmps:=by exact Nat.le_of_ble_eq_true (by kernel_rfl)):Gxz f args s s' r:=yT hD hf hb hrs hn hfit hlen h
theorem oW(l:List Nat:=[]):jE Tryz.prog (dC l):=rH l mix
theorem oD(l:List Nat:=[]):jE Tryz.prog (Pg.dD l):=WV l mix
theorem oG(l:List Nat:=[]):jE Tryz.prog (Pg.dG l):=Xe l mix
theorem tS{p q r:Prop}(hq:q)(hr:r)(h:q→r→p:=by
  intro hq hr
  (with_reducible first|refine aj (fun hc => ?_) (fun hc => ?_)|refine ai (fun hc => ?_) (fun hc => ?_)|refine ak (fun hc => ?_) (fun hc => ?_)|refine Xd _ _ (fun hc => ?_) (fun hc => ?_))
  ·(try simp only[hc]);(try simp only[pgd] at hc);revert hc;exact hq
  ·(try simp only[hc]);(try simp only[pgd] at hc);revert hc;exact hr):p:=h hq hr
theorem tX{F p q r:Prop}(fx:F)(hq:q)(hr:r)(h:F→q→r→p:=by
  intro fx hq hr
  (with_reducible first|refine aj (fun hc => ?_) (fun hc => ?_)|refine ai (fun hc => ?_) (fun hc => ?_)|refine ak (fun hc => ?_) (fun hc => ?_)|refine Xd _ _ (fun hc => ?_) (fun hc => ?_))
  ·(try simp only[hc]);(try simp only[pgd,fx] at hc);revert hc;exact hq
  ·(try simp only[hc]);(try simp only[pgd,fx] at hc);revert hc;exact hr):p:=h fx hq hr
theorem cS{C p q:Prop}(cx:C)(hq:q)(h:C→q→p:=by
  intro cx hq
  (first
   | ((with_reducible show bU _ _ _ _ _ _);first|refine cU cx ?_|refine cZ cx ?_|refine cU cx.1 ?_|refine cZ cx.1 ?_|refine cU cx.2 ?_|refine cZ cx.2 ?_|refine cU cx.2.1 ?_|refine cZ cx.2.1 ?_|refine cU cx.2.2 ?_|refine cZ cx.2.2 ?_|refine cU cx.2.2.1 ?_|refine cZ cx.2.2.1 ?_|refine cU cx.2.2.2 ?_|refine cZ cx.2.2.2 ?_|refine cU cx.2.2.2.1 ?_|refine cZ cx.2.2.2.1 ?_|refine cU cx.2.2.2.2 ?_|refine cZ cx.2.2.2.2 ?_|refine cU cx.2.2.2.2.1 ?_|refine cZ cx.2.2.2.2.1 ?_|refine cU cx.2.2.2.2.2 ?_|refine cZ cx.2.2.2.2.2 ?_|refine cU cx.2.2.2.2.2.1 ?_|refine cZ cx.2.2.2.2.2.1 ?_|refine cU cx.2.2.2.2.2.2 ?_|refine cZ cx.2.2.2.2.2.2 ?_|refine cU cx.2.2.2.2.2.2.1 ?_|refine cZ cx.2.2.2.2.2.2.1 ?_|refine cU cx.2.2.2.2.2.2.2 ?_|refine cZ cx.2.2.2.2.2.2.2 ?_|refine cU cx.2.2.2.2.2.2.2.1 ?_|refine cZ cx.2.2.2.2.2.2.2.1 ?_|refine cU cx.2.2.2.2.2.2.2.2 ?_|refine cZ cx.2.2.2.2.2.2.2.2 ?_|refine cU cx.2.2.2.2.2.2.2.2.1 ?_|refine cZ cx.2.2.2.2.2.2.2.2.1 ?_|refine cU cx.2.2.2.2.2.2.2.2.2 ?_|refine cZ cx.2.2.2.2.2.2.2.2.2 ?_|refine cU cx.2.2.2.2.2.2.2.2.2.1 ?_|refine cZ cx.2.2.2.2.2.2.2.2.2.1 ?_|refine cU cx.2.2.2.2.2.2.2.2.2.2 ?_|refine cZ cx.2.2.2.2.2.2.2.2.2.2 ?_|refine cU cx.2.2.2.2.2.2.2.2.2.2.1 ?_|refine cZ cx.2.2.2.2.2.2.2.2.2.2.1 ?_|refine cU cx.2.2.2.2.2.2.2.2.2.2.2 ?_|refine cZ cx.2.2.2.2.2.2.2.2.2.2.2 ?_|refine cU cx.2.2.2.2.2.2.2.2.2.2.2.1 ?_|refine cZ cx.2.2.2.2.2.2.2.2.2.2.2.1 ?_|refine cU cx.2.2.2.2.2.2.2.2.2.2.2.2 ?_|refine cZ cx.2.2.2.2.2.2.2.2.2.2.2.2 ?_|refine cU cx.2.2.2.2.2.2.2.2.2.2.2.2.1 ?_|refine cZ cx.2.2.2.2.2.2.2.2.2.2.2.2.1 ?_|refine cU cx.2.2.2.2.2.2.2.2.2.2.2.2.2 ?_|refine cZ cx.2.2.2.2.2.2.2.2.2.2.2.2.2 ?_)
   | ((with_reducible show rO _ _ _ _ _ _ _);first|refine cA cx ?_|refine cAZ cx ?_|refine cA cx.1 ?_|refine cAZ cx.1 ?_|refine cA cx.2 ?_|refine cAZ cx.2 ?_|refine cA cx.2.1 ?_|refine cAZ cx.2.1 ?_|refine cA cx.2.2 ?_|refine cAZ cx.2.2 ?_|refine cA cx.2.2.1 ?_|refine cAZ cx.2.2.1 ?_|refine cA cx.2.2.2 ?_|refine cAZ cx.2.2.2 ?_|refine cA cx.2.2.2.1 ?_|refine cAZ cx.2.2.2.1 ?_|refine cA cx.2.2.2.2 ?_|refine cAZ cx.2.2.2.2 ?_|refine cA cx.2.2.2.2.1 ?_|refine cAZ cx.2.2.2.2.1 ?_|refine cA cx.2.2.2.2.2 ?_|refine cAZ cx.2.2.2.2.2 ?_|refine cA cx.2.2.2.2.2.1 ?_|refine cAZ cx.2.2.2.2.2.1 ?_|refine cA cx.2.2.2.2.2.2 ?_|refine cAZ cx.2.2.2.2.2.2 ?_|refine cA cx.2.2.2.2.2.2.1 ?_|refine cAZ cx.2.2.2.2.2.2.1 ?_|refine cA cx.2.2.2.2.2.2.2 ?_|refine cAZ cx.2.2.2.2.2.2.2 ?_|refine cA cx.2.2.2.2.2.2.2.1 ?_|refine cAZ cx.2.2.2.2.2.2.2.1 ?_|refine cA cx.2.2.2.2.2.2.2.2 ?_|refine cAZ cx.2.2.2.2.2.2.2.2 ?_|refine cA cx.2.2.2.2.2.2.2.2.1 ?_|refine cAZ cx.2.2.2.2.2.2.2.2.1 ?_|refine cA cx.2.2.2.2.2.2.2.2.2 ?_|refine cAZ cx.2.2.2.2.2.2.2.2.2 ?_|refine cA cx.2.2.2.2.2.2.2.2.2.1 ?_|refine cAZ cx.2.2.2.2.2.2.2.2.2.1 ?_|refine cA cx.2.2.2.2.2.2.2.2.2.2 ?_|refine cAZ cx.2.2.2.2.2.2.2.2.2.2 ?_|refine cA cx.2.2.2.2.2.2.2.2.2.2.1 ?_|refine cAZ cx.2.2.2.2.2.2.2.2.2.2.1 ?_|refine cA cx.2.2.2.2.2.2.2.2.2.2.2 ?_|refine cAZ cx.2.2.2.2.2.2.2.2.2.2.2 ?_|refine cA cx.2.2.2.2.2.2.2.2.2.2.2.1 ?_|refine cAZ cx.2.2.2.2.2.2.2.2.2.2.2.1 ?_|refine cA cx.2.2.2.2.2.2.2.2.2.2.2.2 ?_|refine cAZ cx.2.2.2.2.2.2.2.2.2.2.2.2 ?_|refine cA cx.2.2.2.2.2.2.2.2.2.2.2.2.1 ?_|refine cAZ cx.2.2.2.2.2.2.2.2.2.2.2.2.1 ?_|refine cA cx.2.2.2.2.2.2.2.2.2.2.2.2.2 ?_|refine cAZ cx.2.2.2.2.2.2.2.2.2.2.2.2.2 ?_))
  exact hq):p:=h cx hq
theorem wS{F C p q:Prop}(fx:F)(cx:C)(hq:q)(h:F→C→q→p:=by intro fx cx hq;(repeat' (first|(simp (maxSteps:=2000000) (disch:=first|exact dqz|fail) only[pgz,simprocAttr,fx])|((with_reducible first|apply aj|apply ai|apply ak)<;>intro hc<;>(try simp only[hc])<;>(try simp only[pgd] at hc))|(with_reducible refine cK ?_)|(refine cS cx ?_)|fail));all_goals exact hq):p:=h fx cx hq
theorem wP{F C p q:Prop}(fx:F)(cx:C)(hq:q)(h:F→C→q→p:=by intro fx cx hq;(repeat1' (first|(simp (maxSteps:=2000000) (disch:=first|exact dqz|fail) only[pgz,simprocAttr,fx])|(with_reducible refine cK ?_)|(refine cS cx ?_)|fail));all_goals exact hq):p:=h fx cx hq
theorem wR{F C p:Prop}(fx:F)(cx:C){l:List Nat}(hi:Ids l)(h:F→C→Ids l→p:=by intro fx cx hi;(repeat' (first|(simp (maxSteps:=2000000) (disch:=first|exact dqz|fail) only[pgz,simprocAttr,fx])|((with_reducible first|apply aj|apply ai|apply ak)<;>intro hc<;>(try simp only[hc])<;>(try simp only[pgd] at hc))|(with_reducible refine cK ?_)|(refine cS cx ?_)|fail));all_goals exact rI hi):p:=h fx cx hi
theorem wP'{F C p q:Prop}(fx:F)(cx:C)(hq:q)(h:F→C→q→p:=by intro fx cx hq;(repeat1' (first|(simp (maxSteps:=2000000) (disch:=first|exact dqz|fail) only[agi,simprocAttr,fx])|(with_reducible refine cK ?_)|(refine cS cx ?_)|fail));all_goals exact hq):p:=h fx cx hq
theorem wSA{F C p q:Prop}(fx:F)(cx:C)(hq:q)(h:F→C→q→p:=by intro fx cx hq;(repeat' (first|(simp (maxSteps:=2000000) (disch:=first|exact dqz|fail) only[pgz,pga,simprocAttr,fx])|((with_reducible first|apply aj|apply ai|apply ak)<;>intro hc<;>(try simp only[hc])<;>(try simp only[pgd] at hc))|(with_reducible refine cKA ?_)|((with_reducible show wu _ _ _ _ _);first|refine zO (by decide +kernel) ?_|refine zQ (by decide +kernel) ?_)|(with_reducible refine cK ?_)|(refine cS cx ?_)|fail));all_goals exact hq):p:=h fx cx hq
theorem wPA{F C p q:Prop}(fx:F)(cx:C)(hq:q)(h:F→C→q→p:=by intro fx cx hq;(repeat1' (first|(simp (maxSteps:=2000000) (disch:=first|exact dqz|fail) only[pgz,pga,simprocAttr,fx])|(with_reducible refine cKA ?_)|((with_reducible show wu _ _ _ _ _);first|refine zO (by decide +kernel) ?_|refine zQ (by decide +kernel) ?_)|(with_reducible refine cK ?_)|(refine cS cx ?_)|fail));all_goals exact hq):p:=h fx cx hq
theorem wRA{F C p:Prop}(fx:F)(cx:C){l:List Nat}(hi:Ids l)(h:F→C→Ids l→p:=by intro fx cx hi;(repeat' (first|(simp (maxSteps:=2000000) (disch:=first|exact dqz|fail) only[pgz,pga,simprocAttr,fx])|((with_reducible first|apply aj|apply ai|apply ak)<;>intro hc<;>(try simp only[hc])<;>(try simp only[pgd] at hc))|(with_reducible refine cKA ?_)|((with_reducible show wu _ _ _ _ _);first|refine zO (by decide +kernel) ?_|refine zQ (by decide +kernel) ?_)|(with_reducible refine cK ?_)|(refine cS cx ?_)|fail));all_goals exact rI hi):p:=h fx cx hi
theorem wRG{F C p:Prop}(fx:F)(cx:C){l:List Nat}(hi:Ids l)(h:F→C→Ids l→p:=by intro fx cx hi;(repeat' (first|(simp (maxSteps:=2000000) (disch:=first|exact dqz|fail) only[pgz,pga,pgG,simprocAttr,fx])|((with_reducible first|apply aj|apply ai|apply ak)<;>intro hc<;>(try simp only[hc])<;>(try simp only[pgd] at hc))|(with_reducible refine cKA ?_)|((with_reducible show wu _ _ _ _ _);first|refine zO (by decide +kernel) ?_|refine zQ (by decide +kernel) ?_|refine abu (by decide +kernel) ?_|refine abv (by decide +kernel) ?_)|(with_reducible refine cK ?_)|(refine cS cx ?_)|fail));all_goals exact rI hi):p:=h fx cx hi
theorem gz{p:Prop}(h:p:=by first|exact trivial|exact dE (by omega)|exact eH rfl|exact bP rfl rfl|exact jq rfl|exact gG rfl):p:=h
theorem kM{l m:List Nat}{s:St}{X:List (Nat × V)}{B:List (Nat × TypeId × List V)}{n:Nat}(hX:GenA l m s.env X)(hB:GenB l m s.bx B)(hl:l.Nodup:=by decide)(hm:m.Nodup:=by decide)(hn:l.length≤n:=by decide)(hn':m.length≤n:=by decide):Keep l m s (mkA X B n (fun _ => .top)):=dN hX hB (gu _ _ _) hl hm hn hn'
def pgk:=aI pgo (aI @di (aI @dL (aI @dm (aI @dM (aI @qc (aI @iO @fO))))))
theorem kE{p:Prop}(h:p:=by refine kM ?_ ?_;(repeat' (first|exact trivial|refine dI _ _ rfl rfl ?_ ?_));all_goals (try simp only[pgk,simprocAttr]);all_goals (try (repeat' apply aI));all_goals exact gz):p:=h
theorem kL{p q:Prop}(hq:q)(h:q→p:=by intro hq;refine kM ?_ ?_;(repeat' (first|exact trivial|refine dI _ _ rfl rfl ?_ ?_));all_goals (try simp only[pgk,simprocAttr]);all_goals (try (repeat' apply aI));all_goals (first|exact gz|exact hq)):p:=h hq
theorem bE{ι:Type}{S:ι→St}{Inv:ι→Prop}{μ:ι→Nat}{i:ι}{s:St}(j:ι)(l m:List Nat)(h1:Inv j)(h2:μ j<μ i:=by first|omega|(simp only[List.length_cons];omega))(h3:Keep l m s (S j):=by exact kE):qK S Inv μ i s:=dh j l m h1 h2 h3
theorem bL{ι:Type}{S:ι→St}{Inv:ι→Prop}{μ:ι→Nat}{i:ι}{s:St}(j:ι)(l m:List Nat)(h1:Inv j)(h3:Keep l m s (S j))(h2:μ j<μ i:=by first|omega|(simp only[List.length_cons];omega)):qK S Inv μ i s:=dh j l m h1 h2 h3
abbrev vi(n:Int):V := .c (.int .i64 n)
abbrev vu(n:Int):V := .c (.int .u64 n)
abbrev vb(b:Bool):V := .c (.bool b)
abbrev vs(l:List Nat):V := .c (.string (sB l))
abbrev nls:V := .c (.slice none 0 0)
abbrev fzs(l:List (List Nat)):V := .sl .fz 1 (sv l)
abbrev fzb(l:List Nat):V := .sl .fz 1 (bv l)
def iv(l:List Int):List V:=l.map fun n=>V.c (.int .i64 n)
theorem aZ(l:List Int):(iv l).length=l.length:=by simp [iv]
theorem kF(l:List Int)(i:Nat)(h:i<l.length):(iv l)[i]?=some (.c (.int .i64 (l.getD i 0))):=by simp [iv,h,List.getD]
abbrev fzi(l:List Int):V := .sl .fz 1 (iv l)
def itv(l:List (List Nat × Int)):List V:=l.map fun x=>V.agg [vs x.1,vi x.2]
theorem OA(l:List (List Nat × Int)):(itv l).length=l.length:=by simp [itv]
theorem abw(l:List (List Nat × Int))(i:Nat)(h:i<l.length):(itv l)[i]?=some (.agg [vs (l.getD i ([],0)).1,vi (l.getD i ([],0)).2]):=by simp [itv,h,List.getD]
abbrev fzt(l:List (List Nat × Int)):V := .sl .fz 2 (itv l)
end Go.Proofs.YtiohdbjggmmjcaaGreat
section
namespace Go.Proofs.YtiohdbjggmmjcaaGreat
open Go Go.Pg
def uv(l:List Int):List V:=l.map fun n=>V.c (.int .u64 n)
theorem lX(l:List Int):(uv l).length=l.length:=by simp [uv]
theorem Bv(l:List Int)(i:Nat)(h:i<l.length):(uv l)[i]?=some (.c (.int .u64 (l.getD i 0))):=by simp [uv,h,List.getD]
theorem abx(l:List Int)(n:Int):uv l++[V.c (.int .u64 n)]=uv (l++[n]):=by simp [uv]
abbrev fzu(l:List Int):V := .sl .fz 1 (uv l)
theorem Fp(l:List Int)(n:Int):iv l++[V.c (.int .i64 n)]=iv (l++[n]):=by simp [iv]
theorem rP(l:List Int)(i:Nat)(n:Int):(iv l).set i (V.c (.int .i64 n))=iv (l.set i n):=by simp [iv,List.map_set]
abbrev En:=List Nat × Int × Int
def ev(l:List En):List V:=l.map fun x=>V.agg [vs x.1,vi x.2.1,vi x.2.2]
theorem aG(l:List En):(ev l).length=l.length:=by simp [ev]
theorem eY(l:List En)(i:Nat)(h:i<l.length):(ev l)[i]?=some (.agg [vs (l.getD i ([],0,0)).1,vi (l.getD i ([],0,0)).2.1,vi (l.getD i ([],0,0)).2.2]):=by simp [ev,h,List.getD]
theorem mr(l:List En)(k:List Nat)(c e:Int):ev l++[V.agg [vs k,vi c,vi e]]=ev (l++[(k,c,e)]):=by simp [ev]
theorem o6(l:List En)(i:Nat)(k:List Nat)(c e:Int):(ev l).set i (V.agg [vs k,vi c,vi e])=ev (l.set i (k,c,e)):=by simp [ev,List.map_set]
theorem aby(l:List En)(n:Nat):(ev l).take n=ev (l.take n):=by simp [ev,List.map_take]
abbrev fzv(l:List En):V := .sl .fz 3 (ev l)
def lv(l:List (List (List Nat))):List V:=l.map fun x=>fzs x
theorem fD(l:List (List (List Nat))):(lv l).length=l.length:=by simp [lv]
theorem nG(l:List (List (List Nat)))(i:Nat)(h:i<l.length):(lv l)[i]?=some (fzs (l.getD i [])):=by simp [lv,h,List.getD]
theorem ww(l:List (List (List Nat)))(x:List (List Nat)):lv l++[fzs x]=lv (l++[x]):=by simp [lv]
theorem aeB(l:List (List (List Nat)))(i:Nat)(x:List (List Nat)):(lv l).set i (fzs x)=lv (l.set i x):=by simp [lv,List.map_set]
theorem abz(l:List (List (List Nat)))(n:Nat):(lv l).take n=lv (l.take n):=by simp [lv,List.map_take]
abbrev fzl(l:List (List (List Nat))):V := .sl .fz 1 (lv l)
section
variable (P:Program) (t:TypeId) (k:Nat) (xs:List V) (ik ik':IntKind) (a c:Int)
theorem abA(h0:0≤c)(h1:c≤xs.length):slV P t (.sl .fz k xs) none (some (.c (.int ik c)))=if (elemT P t).bind (tsz P)=some k then some (.sl .fz k (xs.take c.toNat)) else none:=by
 rw[EU]
 simp only[bdV,Option.bind_some]
 by_cases he:(elemT P t).bind (tsz P)=some k<;>simp [he,h0,h1]
theorem abB(h0:0≤a)(h1:a≤xs.length):slV P t (.sl .fz k xs) (some (.c (.int ik a))) none=if (elemT P t).bind (tsz P)=some k then some (.sl .fz k (xs.drop a.toNat)) else none:=by
 rw[EU]
 simp only[bdV,Option.bind_some]
 by_cases he:(elemT P t).bind (tsz P)=some k<;>simp [he,h0,h1]
theorem abC(h0:0≤a)(h1:a≤c)(h2:c≤xs.length):slV P t (.sl .fz k xs) (some (.c (.int ik a))) (some (.c (.int ik' c)))=if (elemT P t).bind (tsz P)=some k then some (.sl .fz k ((xs.take c.toNat).drop a.toNat)) else none:=by
 rw[EU]
 simp only[bdV,Option.bind_some]
 by_cases he:(elemT P t).bind (tsz P)=some k<;>simp [he,h0,h1,h2]
theorem MP(e:Nat→V)(b:Bxx)(n:Nat)(h:Nat→V)(id:Nat)(lo hi:Option V):lI P ⟨e,b,n,h⟩ t id k xs lo hi=(slV P t (.sl .fz k xs) lo hi).map fun r=>(r,⟨dX (frz id) e,mapB (frz id) b,n,dX (frz id) h⟩):=rfl
theorem agj(v:Value):isC (.c v)=true:=rfl
end
def pgv:=aI abA (aI abB (aI abC (aI MP (aI agj (aI aG (aI aZ (aI lX fD)))))))
structure Tl where
 t:Int
 i:Int
 b:Bool
structure Cm where
 d:Int
 z:Int
 s:Int
 c:List Int
 b:Bool
structure Ll where
 p:Int
 s:Int
 r:List Int
structure Tp where
 z:Int
 t:Int
 e:List En
 b:Bool
structure Fq where
 z:Int
 t:Int
 l:Int
 e:List En
 b:Bool
structure Rk where
 z:Int
 t:Int
 l:Int
 v:List (List (List Nat))
 b:Bool
structure Pm where
 k:Int
 z:Int
 d:Int
 s:Int
structure Sk where
 p:Pm
 tl:Tl
 cm:Cm
 ll:Ll
 tp:Tp
 fq:Fq
 rk:Rk
abbrev pmF(p:Pm):List V:=[vi p.k,vi p.z,vi p.d,vu p.s]
abbrev tlF(t:Tl):List V:=[vi t.t,vi t.i,vb t.b]
abbrev cmF(c:Cm):List V:=[vi c.d,vi c.z,vu c.s,fzi c.c,vb c.b]
abbrev llF(l:Ll):List V:=[vi l.p,vu l.s,fzi l.r]
abbrev tpF(t:Tp):List V:=[vi t.z,vi t.t,fzv t.e,vb t.b]
abbrev fqF(f:Fq):List V:=[vi f.z,vi f.t,vi f.l,fzv f.e,vb f.b]
abbrev rkF(r:Rk):List V:=[vi r.z,vi r.t,vi r.l,fzl r.v,vb r.b]
abbrev skF(s:Sk):List V:=[vi s.p.k,vi s.p.z,vi s.p.d,vu s.p.s,vi s.tl.t,vi s.tl.i,vb s.tl.b,vi s.cm.d,vi s.cm.z,vu s.cm.s,fzi s.cm.c,vb s.cm.b,vi s.ll.p,vu s.ll.s,fzi s.ll.r,vi s.tp.z,vi s.tp.t,fzv s.tp.e,vb s.tp.b,vi s.fq.z,vi s.fq.t,vi s.fq.l,fzv s.fq.e,vb s.fq.b,vi s.rk.z,vi s.rk.t,vi s.rk.l,fzl s.rk.v,vb s.rk.b]
def Tl.o:Tl:=⟨0,0,false⟩
def Cm.o:Cm:=⟨0,0,0,[],false⟩
def Ll.o:Ll:=⟨0,0,[]⟩
def Tp.o:Tp:=⟨0,0,[],false⟩
def Fq.o:Fq:=⟨0,0,0,[],false⟩
def Rk.o:Rk:=⟨0,0,0,[],false⟩
def Pm.o:Pm:=⟨0,0,0,0⟩
def Sk.o:Sk:=⟨Pm.o,Tl.o,Cm.o,Ll.o,Tp.o,Fq.o,Rk.o⟩
end Go.Proofs.YtiohdbjggmmjcaaGreat
end
namespace Go.Proofs.YtiohdbjggmmjcaaGreat
open Go Go.Pg
theorem is9:gy Tryz.prog 9=true:=by kernel_rfl
theorem it5:qg Tryz.prog 5=some .u8:=by kernel_rfl
def bt(c a b:Nat):Bool:=decide (a≤c)&&decide (c≤b)
theorem dle(a b:Nat):decide ((a:Int)≤(b:Int))=decide (a≤b):=by
 by_cases h:a≤b
 ·rw[decide_eq_true h,decide_eq_true (by omega)]
 ·rw[decide_eq_false h,decide_eq_false (by omega)]
def iQ(l:List Nat):Bool:=decide (1≤l.length)&&decide (l.length≤32)
theorem xH(l:List Nat):Gxx 65 [.c (.string (sB l))] (.c (.bool (iQ l))):=by
 refine aK (dw mix) Tryz.func65 rfl Tryz.results65 rfl (by kernel_rfl) (Nat.le_of_ble_eq_true (by kernel_rfl)) ?_
 have e1:decide ((1:Int)≤(l.length:Int))=decide (1≤l.length):=dle 1 _
 have e2:decide ((l.length:Int)≤32)=decide (l.length≤32):=dle _ 32
 unfold iQ
 cases h:decide (1≤l.length)<;>rw[h] at e1
 all_goals
  simp only[Tryz.f65,pgs,pgl,pgx,pgf,Nat.reduceEqDiff,reduceIte,is9,mi,e1,e2]
  refine bZ [] _ (aW _ _ _) .nil ?_ ?_
  ·simp only[pgs,pgl,pgx,pgf,Nat.reduceEqDiff,reduceIte]
  ·simp only[pgs,pgl,pgx,pgf,Nat.reduceEqDiff,reduceIte]
theorem xI(l:List Nat):Gxx 100 [.c (.string (sB l))] (.c (.bool (iQ l))):=by
 refine aK (dw mix) Tryz.func100 rfl Tryz.results100 rfl (by kernel_rfl) (Nat.le_of_ble_eq_true (by kernel_rfl)) ?_
 have e1:decide ((1:Int)≤(l.length:Int))=decide (1≤l.length):=dle 1 _
 have e2:decide ((l.length:Int)≤32)=decide (l.length≤32):=dle _ 32
 unfold iQ
 cases h:decide (1≤l.length)<;>rw[h] at e1
 all_goals
  simp only[Tryz.f100,pgs,pgl,pgx,pgf,Nat.reduceEqDiff,reduceIte,is9,mi,e1,e2]
  refine bZ [] _ (aW _ _ _) .nil ?_ ?_
  ·simp only[pgs,pgl,pgx,pgf,Nat.reduceEqDiff,reduceIte]
  ·simp only[pgs,pgl,pgx,pgf,Nat.reduceEqDiff,reduceIte]
theorem zS(l:List Nat):(iQ l=true)=(1≤l.length∧l.length≤32):=by simp [iQ]
theorem OB(l:List Nat):(iQ l=false)=¬(1≤l.length∧l.length≤32):=by rw[←zS,Bool.not_eq_true]
theorem zT{l:List Nat}(h:1≤l.length∧l.length≤32):iQ l=true:=by rw[zS];exact h
def bT(l:List Nat)(n:Int):Int:=if 1≤l.length∧l.length≤32 then (if 1≤n∧n≤4294967295 then 0 else 5) else 7
theorem bz(l:List Nat)(n:Int):Gxx 23 [.agg [vs l,vi n]] (vi (bT l n)):=by
 refine gI oW Tryz.func23 Tryz.results23 ?_
 skip
 (repeat' first|refine wP trivial trivial ?_|refine cU (xH _) ?_|refine tX (aI @zS @OB) ?_ ?_<;>intro hc|fail)
 all_goals (refine rT [] ?_;first|rfl|simp only[pgo,simprocAttr]|skip)
 all_goals (unfold bT;(repeat' split)<;>first|rfl|omega)
theorem dn(l:List Nat)(n:Int):Gxx 32 [.agg [vs l,vi n]] (vi (bT l n)):=by
 refine gI oW Tryz.func32 Tryz.results32 ?_
 (repeat' first|refine wP trivial trivial ?_|refine cU (xI _) ?_|refine tX (aI @zS @OB) ?_ ?_<;>intro hc|fail)
 all_goals (refine rT [] ?_;first|rfl|simp only[pgo,simprocAttr]|skip)
 all_goals (unfold bT;(repeat' split)<;>first|rfl|omega)
def aeC(l p:List Nat):Bool:=decide (p.length≤l.length)&&decide (l.take p.length=p)
def mk5(c:Nat):Bool:=c != 95&&(c != 45&&(c != 46&&(c != 58&&c != 47)))
def plC(c:Nat):Bool:=bt c 97 122||bt c 65 90||bt c 48 57 || !mk5 c
def yY(l:List Nat):Bool:=l.all plC
def ahB:List Nat:=[48,49,50,51,52,53,54,55,56,57,97,98,99,100,101,102]
def hx(d:Nat):Nat:=ahB.getD d 0
def ahC(l:List Nat):List Nat:=l.flatMap fun c=>[hx (c / 16),hx (c%16)]
def nib(c:Nat):Int:=if bt c 48 57=true then (c:Int)-48 else if bt c 97 102=true then (c:Int)-97+10 else -1
theorem ahD:elemT Tryz.prog 48=some 5:=by kernel_rfl
theorem it9:qg Tryz.prog 9=none:=by kernel_rfl
theorem abD(l:List Nat):strOfNums (l.map fun (b:Nat)=>(b:Int))=sB l:=by
 apply ByteArray.ext
 simp [strOfNums,sB,Function.comp_def]
theorem Xi(tg:Tag)(l:List Nat):kW Tryz.prog 48 9 (.sl tg 1 (bv l))=some (.c (.string (sB l))):=by
 simp [kW,it9,ahD,it5,is9,ad4,abD]
theorem Xj(s:St)(d:Option Nat)(tg:Tag)(l:List Nat)(K:Kd→St→Prop):Bc Tryz.prog s d 48 9 (.sl tg 1 (bv l)) K=K (kq [.sl tg 1 (bv l)] (.c (.string (sB l)))) (s.put d (.c (.string (sB l)))):=by
 rw[vY,Xi]
 have h1:(jG Tryz.prog 48 9 (.sl tg 1 (bv l))).map (fun r=>(r,s))=none:=rfl
 have h3:jg Tryz.prog s 48 9 (.sl tg 1 (bv l))=none:=rfl
 have h2:mZ Tryz.prog s 48 9 (.sl tg 1 (bv l))=none:=by cases tg<;>simp [mZ]
 rw[h1,h2,h3]
 simp only[eQ,aP,bC,or_false]
def prB(l:List Nat)(t:Nat):Nat:=(16*nib (l.getD (2*t) 0)+nib (l.getD (2*t+1) 0)).toNat
def prs(l:List Nat)(j:Nat):List Nat:=(List.range j).map (prB l)
def okP(l:List Nat)(t:Nat):Bool:=decide (0≤nib (l.getD (2*t) 0))&&decide (0≤nib (l.getD (2*t+1) 0))
def okB(l:List Nat)(j:Nat):Bool:=(List.range j).all (okP l)
def W64(n:Int):Prop := -9223372036854775808≤n∧n≤9223372036854775807
def iI(n:Int):Int:=if n<0 then 0 else n
theorem jJ(n:Int):0≤iI n∧(iI n≤0∨iI n≤n):=by unfold iI;split<;>omega
theorem oh{n:Int}(h:0≤n):iI n=n:=if_neg (by omega)
theorem aeD(n:Int):max n 0=iI n:=by unfold iI;split<;>omega
theorem xJ(n:Int):Gxx 152 [vi n] (vi (iI n)):=by
 refine gI oW Tryz.func152 Tryz.results152 ?_
 (repeat' first|refine wP (aI @mmT @aeD) trivial ?_|refine tS ?_ ?_<;>intro hc|fail)
 all_goals (refine rT [] ?_;first|rfl|simp only[pgo,simprocAttr]|skip)
 all_goals first|(congr 2;unfold iI;split<;>omega)|skip
def lw(a b m:Int):Int × Bool:=if iI a > iI m∨iI b > iI m-iI a then (iI m,true) else (iI a+iI b,false)
theorem Fv(a b m:Int)(hm:m≤4611686018427387904)(ha:W64 a)(hb:W64 b):Gxx 103 [vi a,vi b,vi m] (.tup [vi (lw a b m).1,vb (lw a b m).2]):=by
 have h1:=jJ a
 have h2:=jJ b
 have h3:=jJ m
 obtain⟨a0,a1⟩:=ha
 obtain⟨b0,b1⟩:=hb
 have e:lw a b m=if iI a > iI m∨iI b > iI m-iI a then (iI m,true) else (iI a+iI b,false):=rfl
 refine gI oW Tryz.func103 Tryz.results103 ?_
 by_cases c1:iI a > iI m
 ·rw[if_pos (.inl c1)] at e
  rw[e]
  (repeat' first|refine wP trivial trivial ?_|refine cU (xJ _) ?_|refine tS ?_ ?_<;>intro hc|fail)
  exact rE []
 ·by_cases c2:iI b > iI m-iI a
  ·rw[if_pos (.inr c2)] at e
   rw[e]
   (repeat' first|refine wP trivial trivial ?_|refine cU (xJ _) ?_|refine tS ?_ ?_<;>intro hc|fail)
   exact rE []
  ·rw[if_neg (by omega)] at e
   rw[e]
   (repeat' first|refine wP trivial trivial ?_|refine cU (xJ _) ?_|refine tS ?_ ?_<;>intro hc|fail)
   exact rE []
theorem aeE(a b:Int)(ha:W64 a)(hb:W64 b):Gxx 105 [vi a,vi b] (.tup [vi (lw a b 1099511627776).1,vb (lw a b 1099511627776).2]):=by
 refine gI oW Tryz.func105 Tryz.results105 ?_
 (repeat' (first|(simp (disch:=first|exact dqz|fail) only[pgz,simprocAttr,Tryz.f105])|((with_reducible show bU _ _ _ _ _ _);first|refine ah _ (Fv _ _ _ (by decide) ha hb) rfl rfl rfl rfl ?_)|((with_reducible first|apply aj|apply ai|apply ak)<;>intro hc<;>(try simp only[hc])<;>(try simp only[pgd] at hc))|(with_reducible refine cK ?_)))
 all_goals exact rE []
def al1(x:Int):Int :=
 bits .xor .u64 (IntKind.u64.wrap (bits .xor .u64 (IntKind.u64.wrap (bits .xor .u64 x (x.fdiv (2^min 30 IntKind.u64.bits))*13787848793156543929)) ((IntKind.u64.wrap (bits .xor .u64 x (x.fdiv (2^min 30 IntKind.u64.bits))*13787848793156543929)).fdiv (2^min 27 IntKind.u64.bits))*10723151780598845931))
  ((IntKind.u64.wrap (bits .xor .u64 (IntKind.u64.wrap (bits .xor .u64 x (x.fdiv (2^min 30 IntKind.u64.bits))*13787848793156543929)) ((IntKind.u64.wrap (bits .xor .u64 x (x.fdiv (2^min 30 IntKind.u64.bits))*13787848793156543929)).fdiv (2^min 27 IntKind.u64.bits))*10723151780598845931)).fdiv (2^min 31 IntKind.u64.bits))
theorem MQ(x:Int):Gxx 171 [vu x] (vu (al1 x)):=by
 unfold al1
 refine gI oW Tryz.func171 Tryz.results171 ?_
 exact wR trivial trivial ay
def Dn(s row:Int):Int:=al1 (bits .xor .u64 s (IntKind.u64.wrap ((row+1)*15074714826142052245)))
theorem aeF(s row:Int)(hr:0≤row∧row≤7):Gxx 170 [vu s,vi row] (vu (Dn s row)):=by
 refine gI oW Tryz.func170 Tryz.results170 ?_
 (repeat' first|refine wP trivial trivial ?_|refine cU (MQ _) ?_|refine tS ?_ ?_<;>intro hc|fail)
 exact rE []
def jy(s:Int)(n:Nat):List Int:=(List.range n).map fun (i:Nat)=>al1 (IntKind.u64.wrap (s+IntKind.u64.wrap (((i:Int)+1)*11400714819323198485)))
theorem lK(s:Int)(n:Nat):(jy s n).length=n:=by simp [jy]
theorem D5(s:Int)(n:Nat):jy s n++[al1 (IntKind.u64.wrap (s+IntKind.u64.wrap (((n:Int)+1)*11400714819323198485)))]=jy s (n+1):=by simp [jy,List.range_succ]
theorem Jb(s:Int):Gxx 154 [vu s] (fzu (jy s 256)):=by
 refine Good.fzr (r := .sl (.own 0 23) 1 (uv (jy s 256))) ?_ rfl (.inl (.inl rfl))
 refine gI oW Tryz.func154 Tryz.results154 ?_
 refine wS trivial trivial ?_
 refine df (fun i:Nat=>mkA [(0,vu s),(3,.sl (.own 0 23) 1 (uv (jy s i))),(4,vu ((i:Int)+1))] [] 1 (fun _ => .top)) (fun i=>i≤256) (fun i=>256-i) 0 [] [] ?_ (Nat.zero_le _) ?_
 ·exact kE
  all_goals first|exact gG rfl|exact dE (by omega)|skip
 ·intro i hi
  replace hi:i≤256:=hi
  have hl:=lK s i
  have hul:=lX (jy s i)
  rcases Nat.lt_or_ge i 256 with hlt|hge
  ·have hn:=D5 s i
   (repeat' first|refine wP (aI @abx (aI @hn (aI @lX @hl))) trivial ?_|refine cU (MQ _) ?_|refine tS ?_ ?_<;>intro hc|fail)
   exact bE (i+1) [0] [] hlt
  ·have:i=256:=by omega
   subst this
   exact wR trivial trivial (ids [0])
def jZ(t:List Int)(h:Int)(c i:Nat):Int:=IntKind.u64.wrap (bits .xor .u64 (bits .or .u64 (IntKind.u64.wrap (h*2^min 5 IntKind.u64.bits)) (h.fdiv (2^min 59 IntKind.u64.bits))) (t.getD ((c+i)%256) 0)*1099511628211)
def OC(t:List Int):Int→Nat→List Nat→Int
 | h,_,[]=>h
 | h,i,c::cs=>OC t (jZ t h c i) (i+1) cs
def lL(t:List Int)(k:List Nat):Int:=al1 (OC t (t.getD (k.length%256) 0) 0 k)
theorem OD(l:List Nat)(i:Nat)(h:i<l.length):l.drop i=l.getD i 0::l.drop (i+1):=by rw[List.drop_eq_getElem_cons h];simp [List.getD,h]
theorem ac1(a b:Nat):Int.tmod ((a:Int)+(b:Int)) 256=(((a+b)%256:Nat):Int):=rfl
theorem Xk(a:Nat):Int.tmod (a:Int) 256=((a%256:Nat):Int):=rfl
theorem OE(t:List Int)(ht:t.length=256)(k:List Nat)(ho:oct k)(hk:k.length≤1000000):Gxx 153 [fzu t,vs k] (.tup [vu (lL t k),vi 0]):=by
 have hul:=lX t
 have h0:=Bv t (k.length%256) (by omega)
 have hb0:k.length%256<256:=Nat.mod_lt _ (by omega)
 refine gI oW Tryz.func153 Tryz.results153 ?_
 refine wS (aI @lX (aI @ht (aI @Xk @h0))) trivial ?_
 refine df (fun x:Int × Nat=>mkA [(0,fzu t),(1,vs k),(6,vu x.1),(7,vi x.2)] [] 0 (fun _ => .top)) (fun x=>x.2≤k.length∧lL t k=al1 (OC t x.1 x.2 (k.drop x.2))) (fun x=>k.length-x.2) (t.getD (k.length%256) 0,0) [] [] ?_ ⟨Nat.zero_le _,rfl⟩ ?_
 ·exact kE
 ·rintro⟨h,i⟩ ⟨hi,he⟩
  simp only at hi he
  rcases Nat.lt_or_ge i k.length with hlt|hge
  ·rw[OD k i hlt] at he
   have hc:=zM ho i
   generalize hcc:k.getD i 0=c at he hc
   have h1:=Bv t ((c+i)%256) (by omega)
   have hb1:(c+i)%256<256:=Nat.mod_lt _ (by omega)
   refine wS (aI @lX (aI @ht (aI @hcc (aI @ac1 @h1)))) trivial ?_
   refine dh (jZ t h c i,i+1) [] [] ⟨hlt,he⟩ (by show k.length-(i+1)<k.length-i;omega) ?_
   exact kE
  ·have:i=k.length:=by omega
   subst this
   rw[List.drop_length] at he
   rw[he]
   (repeat' first|refine wP trivial trivial ?_|refine cU (MQ _) ?_|refine tS ?_ ?_<;>intro hc|fail)
   exact rE []
def Jc(n:Int)(i:Nat):Bool:=bits .and .i64 (n.fdiv (2^min i IntKind.i64.bits)) 1 == 1
def gY(n:Int)(i:Nat):List Int:=((List.range i).filter (Jc n)).map fun (j:Nat)=>(j:Int)
theorem Xl(n:Int)(i:Nat)(h:Jc n i=true):gY n i++[(i:Int)]=gY n (i+1):=by simp [gY,List.range_succ,List.filter_append,h]
theorem MR(n:Int)(i:Nat)(h:Jc n i=false):gY n i=gY n (i+1):=by simp [gY,List.range_succ,List.filter_append,h]
theorem wz(n:Int)(i:Nat):(gY n i).length≤i:=by
 have:=List.length_filter_le (Jc n) (List.range i)
 simp only[gY,List.length_map]
 simpa using this
theorem Rx(n:Int)(hn:0<n):Gxx 112 [vi n] (fzi (gY n 63)):=by
 refine Good.fzr (r := .sl (.own 0 3) 1 (iv (gY n 63))) ?_ rfl (.inl (.inl rfl))
 refine gI oW Tryz.func112 Tryz.results112 ?_
 refine wS trivial trivial ?_
 refine df (fun i:Nat=>mkA [(0,vi n),(3,.sl (.own 0 3) 1 (iv (gY n i))),(4,vi i)] [] 1 (fun _ => .top)) (fun i=>i≤63) (fun i=>63-i) 0 [] [] ?_ (Nat.zero_le _) ?_
 ·exact kE
  all_goals first|exact gG rfl|skip
 ·intro i hi
  replace hi:i≤63:=hi
  have hl:=wz n i
  have hil:=aZ (gY n i)
  rcases Nat.lt_or_ge i 63 with hlt|hge
  ·cases hp:Jc n i
   ·have hf:=MR n i hp
    unfold Jc at hp
    refine wS @hp trivial ?_
    (refine bL (i+1) [0] [] hlt ?_;refine kL ?_)
    all_goals exact bP rfl (by rw[hf])
   ·have hf:=Xl n i hp
    unfold Jc at hp
    refine wS (aI @hp (aI @Fp @hf)) trivial ?_
    exact bE (i+1) [0] [] hlt
  ·have:i=63:=by omega
   subst this
   exact wR trivial trivial (ids [0])
def wC(co:List Nat)(i:Int):Int:=if i<0∨i.tdiv 8≥co.length then 0 else bits .and .i64 (((co.getD (i.tdiv 8).toNat 0:Nat):Int).fdiv (2^min (7-i.tmod 8).toNat IntKind.i64.bits)) 1
theorem Xm(co:List Nat)(hco:oct co)(i:Int)(hi:i≤9223372036854775807):Gxx 156 [fzb co,vi i] (vi (wC co i)):=by
 unfold wC
 have hbl:=rJ co
 refine gI oW Tryz.func156 Tryz.results156 ?_
 by_cases c1:i<0
 ·rw[if_pos (.inl c1)]
  exact wR trivial trivial ay
 ·have e1:i.tdiv 8=i / 8:=Int.tdiv_eq_ediv_of_nonneg (by omega)
  have e2:i.tmod 8=i%8:=Int.tmod_eq_emod_of_nonneg (by omega)
  rw[e1,e2]
  by_cases c2:i / 8≥co.length
  ·rw[if_pos (.inr c2)]
   exact wR (aI @e1 @rJ) trivial ay
  ·rw[if_neg (by omega)]
   have hg:=Wl co (i / 8).toNat (by omega)
   have hc:=zM hco (i / 8).toNat
   exact wR (aI @e1 (aI @e2 (aI @rJ @hg))) trivial ay
def inb(n a b:Int):Bool:=decide (a≤n)&&decide (n≤b)
theorem kX(n a b:Int):(inb n a b=true)=(a≤n∧n≤b):=by simp [inb]
theorem lM(n a b:Int):(inb n a b=false)=¬(a≤n∧n≤b):=by
 rw[←kX,Bool.not_eq_true]
theorem D6{n a b:Int}(h:a≤n∧n≤b):inb n a b=true:=by rw[kX];exact h
theorem kG{n a b:Int}(h:¬(a≤n∧n≤b)):inb n a b=false:=by rw[lM];exact h
theorem Xn(n a b:Int):Gxx 127 [vi n,vi a,vi b] (vb (inb n a b)):=by
 refine gI oW Tryz.func127 Tryz.results127 ?_
 by_cases h1:a≤n<;>by_cases h2:n≤b
 all_goals
  refine wS trivial trivial ?_
  (refine rT [] ?_;first|rfl|simp only[pgo,simprocAttr]|skip)
  try (rw[show inb n a b=_ from by first|exact D6 ⟨h1,h2⟩|exact kG (by omega)])
theorem MS(n a b:Int):Gxx 148 [vi n,vi a,vi b] (vb (inb n a b)):=by
 refine gI oW Tryz.func148 Tryz.results148 ?_
 by_cases h1:a≤n<;>by_cases h2:n≤b
 all_goals
  refine wS trivial trivial ?_
  (refine rT [] ?_;first|rfl|simp only[pgo,simprocAttr]|skip)
  try (rw[show inb n a b=_ from by first|exact D6 ⟨h1,h2⟩|exact kG (by omega)])
theorem eU(n a b:Int):Gxx 149 [vi n,vi a,vi b] (vb (inb n a b)):=by
 refine gI oW Tryz.func149 Tryz.results149 ?_
 by_cases h1:a≤n<;>by_cases h2:n≤b
 all_goals
  refine wS trivial trivial ?_
  (refine rT [] ?_;first|rfl|simp only[pgo,simprocAttr]|skip)
  try (rw[show inb n a b=_ from by first|exact D6 ⟨h1,h2⟩|exact kG (by omega)])
def vp(k z d s:Int):Int :=
 if k=1 then (if z=0∧d=0∧s=0 then 0 else 10)
 else if k=2 then (if 1≤d∧d≤8∧1≤z∧z≤64 then 0 else 5)
 else if k=3 then (if 2≤z∧z≤8 then (if d=0 then 0 else 10) else 5)
 else if k=4∨k=5 then (if 1≤z∧z≤32 then (if d=0∧s=0 then 0 else 10) else 5)
 else if k=6 then (if 2≤z∧z≤32∧z%2=0 then (if d=0∧s=0 then 0 else 10) else 5)
 else 8
theorem zU(a b:Int)(h:0≤a):a.tmod b=a%b:=Int.tmod_eq_emod_of_nonneg h
abbrev pV(k z d s:Int):List V:=[vi k,vi z,vi d,vu s]
theorem lC(k z d s:Int):Gxx 60 [.agg (pV k z d s)] (vi (vp k z d s)):=by
 refine gI oW Tryz.func60 Tryz.results60 ?_
 skip
 (repeat' first|refine wP @zU trivial ?_|refine cU (Xn _ _ _) ?_|refine tX (aI @kX @lM) ?_ ?_<;>intro hc|fail)
 all_goals (refine rT [] ?_;first|rfl|simp only[pgo,simprocAttr]|skip)
 (all_goals (unfold vp;(repeat' split)<;>first|rfl|(exfalso;omega)))
theorem bQ(k z d s:Int):Gxx 92 [.agg (pV k z d s)] (vi (vp k z d s)):=by
 refine gI oW Tryz.func92 Tryz.results92 ?_
 (repeat' first|refine wP @zU trivial ?_|refine cU (MS _ _ _) ?_|refine tX (aI @kX @lM) ?_ ?_<;>intro hc|fail)
 all_goals (refine rT [] ?_;first|rfl|simp only[pgo,simprocAttr]|skip)
 (all_goals (unfold vp;(repeat' split)<;>first|rfl|(exfalso;omega)))
def pk(l:List Nat):List Nat × Nat :=
 if (iQ l&&yY l)=true then (l,0) else
 if l.length=0 then ([],1) else
 if l.getD 0 0≠37 then ([],1) else
 if okB (l.drop 1) ((l.drop 1).length / 2)=false then ([],1) else
 if (l.drop 1).length%2≠0 then ([],1) else
 if iQ (prs (l.drop 1) ((l.drop 1).length / 2))=false then ([],1) else
 if yY (prs (l.drop 1) ((l.drop 1).length / 2))=true then ([],1) else (prs (l.drop 1) ((l.drop 1).length / 2),0)
def dig(l:List Nat):Nat:=l.foldl (fun x c=>10*x+(c-48)) 0
def OG(l:List Nat):List Nat:=if aeC l [45]=true then l.drop 1 else l
def ahE(b:List Nat)(neg:Bool):Bool:=decide (b.length<1)||decide (12<b.length)||(b.getD 0 0 == 48&&(decide (1<b.length)||neg))
def aeG(l:List Nat):Int × Nat :=
 if ahE (OG l) (aeC l [45])=true then (0,1) else
 if (OG l).all (fun c=>bt c 48 57)=false then (0,1) else
 (if aeC l [45]=true then-(dig (OG l):Int) else (dig (OG l):Int),0)
end Go.Proofs.YtiohdbjggmmjcaaGreat
