/-
  Texts of this claim, merged; own names are short.
-/
import Derived.Lib.Join
import Derived.Test.YtjiolbcdfgclaaaGreatDoorWAJ
import Derived.Test.YtjiolbcdfgclaaaGreatDoorWAH
import Derived.Test.YtjiolbcdfgclaaaGreatDoorWAI
set_option linter.unusedVariables false
set_option linter.unusedSimpArgs false
set_option linter.unusedSectionVars false
set_option linter.defProp false
set_option maxRecDepth 100000
set_option maxHeartbeats 8000000
namespace Go.Pg
open Go
def jt(l:List (List Nat)):List Nat:=(l.map (32::·)).flatten
def jn:List (List Nat)→List Nat
 | []=>[]
 | a::l=>a++jt l
theorem ZA:jt []=[]:=rfl
theorem sQ(w:List Nat)(l:List (List Nat)):jt (w::l)=32::(w++jt l):=by simp [jt]
theorem aiD(a b:List (List Nat)):jt (a++b)=jt a++jt b:=by simp [jt]
theorem yl(w:List Nat)(l:List (List Nat)):jn (w::l)=w++jt l:=rfl
theorem Ii{a:List (List Nat)}(h:a≠[])(b:List (List Nat)):jn (a++b)=jn a++jt b:=by
 cases a with
 | nil=>exact absurd rfl h
 | cons x xs=>simp [jn,aiD]
theorem aeM{a:List (List Nat)}(h:a≠[])(w:List Nat):jn (a++[w])=jn a++32::w:=by rw[Ii h,sQ];simp [jt]
theorem ag7{a:List (List Nat)}(h:a≠[])(b:List (List Nat)):jn (jn a::b)=jn (a++b):=by rw[Ii h];rfl
def tot(l:List (List Nat)):Nat:=(l.map fun w=>w.length+1).sum
theorem dL:tot []=0:=rfl
theorem bz(w:List Nat)(l:List (List Nat)):tot (w::l)=w.length+1+tot l:=by simp [tot]
theorem yw(a b:List (List Nat)):tot (a++b)=tot a+tot b:=by simp [tot]
theorem Q9(l:List (List Nat)):l.length≤tot l:=by
 induction l with
 | nil=>exact Nat.le_refl _
 | cons w l ih=>rw[bz,List.length_cons];omega
theorem aiE(l:List (List Nat)):(jt l).length=tot l:=by
 induction l with
 | nil=>rfl
 | cons w l ih=>rw[sQ,bz,←ih];simp;omega
theorem xg(l:List (List Nat)):(jn l).length≤tot l:=by
 cases l with
 | nil=>exact Nat.le_refl _
 | cons w l=>rw[yl,bz,←aiE];simp<;>omega
theorem KH(l:List (List Nat))(i:Nat):tot (l.take i)≤tot l:=by
 have:=congrArg tot (List.take_append_drop i l)
 rw[yw] at this
 omega
theorem KI(l:List (List Nat))(i:Nat):(l.getD i []).length≤tot l:=by
 induction l generalizing i with
 | nil=>simp [List.getD]
 | cons w l ih =>
  cases i with
  | zero=>rw[bz];show w.length≤_;omega
  | succ i=>have:=ih i;simp only[List.getD_cons_succ,bz];omega
theorem FX{l:List (List Nat)}{n:Nat}(h:∀w∈l,w.length≤n):tot l≤l.length*(n+1):=by
 induction l with
 | nil=>simp [dL]
 | cons w l ih =>
  have h1:=h w (by simp)
  have h2:=ih fun x hx=>h x (by simp [hx])
  rw[bz,List.length_cons,Nat.add_mul]
  omega
theorem aiF{l:List (List Nat)}(h:∀w∈l,oct w):oct (jt l):=by
 induction l with
 | nil=>exact dV
 | cons w l ih=>rw[sQ];exact pM (by omega) (bM (h w (by simp)) (ih fun x hx=>h x (by simp [hx])))
theorem aiG{l:List (List Nat)}(h:∀w∈l,oct w):oct (jn l):=by
 cases l with
 | nil=>exact dV
 | cons w l=>exact bM (h w (by simp)) (aiF fun x hx=>h x (by simp [hx]))
theorem U6(l:List (List Nat))(i:Nat)(h:i<l.length):l.take (i+1)=l.take i++[l.getD i []]:=by
 rw[List.take_succ_eq_append_getElem h];simp [List.getD,h]
theorem aeN{l:List (List Nat)}{i:Nat}(h:i<l.length)(h0:0<i):jn (l.take (i+1))=jn (l.take i)++32::l.getD i []:=by
 rw[U6 l i h,aeM]
 intro e
 have h2:(l.take i).length=0:=by rw[e];rfl
 rw[List.length_take] at h2
 omega
theorem ZB{l:List (List Nat)}(h:0<l.length):jn (l.take 1)=l.getD 0 []:=by
 cases l with
 | nil=>simp at h
 | cons w l=>simp [jn,jt,List.getD]
theorem Rf(l:List (List Nat)):(⟨(Lib.join ((l.map sB).map (·.data.toList)) (sB [32]).data.toList).toArray⟩:ByteArray)=sB (jn l):=by
 have hd:∀w:List Nat,(sB w).data.toList=w.map UInt8.ofNat:=fun w=>by simp [sB]
 have ht:∀l:List (List Nat),Lib.joinTail [32] ((l.map sB).map (·.data.toList))=(jt l).map UInt8.ofNat:=by
  intro l
  induction l with
  | nil=>rfl
  | cons w l ih =>
   simp only[Lib.joinTail,List.map_cons,List.flatten_cons,sQ,List.map_append] at ih ⊢
   rw[ih,hd]
   rfl
 have h32:(sB [32]).data.toList=[32]:=rfl
 rw[h32]
 apply ByteArray.ext
 apply Array.ext'
 cases l with
 | nil=>rfl
 | cons w l =>
  simp only[List.map_cons,Lib.join_cons]
  have:=ht l
  simp only[List.map_map] at this
  simp only[List.map_map,this,hd]
  simp [sB,jn]
theorem aiH{l:List (List Nat)}(hl:l≠[])(h:∀w∈l,∀x∈w,x≠32):spl 32 (jn l)=l:=by
 induction l with
 | nil=>exact absurd rfl hl
 | cons w l ih =>
  cases l with
  | nil=>rw[yl,ZA,List.append_nil];exact yh _ _ (h w (by simp))
  | cons v l =>
   have:jn (w::v::l)=w++32::jn (v::l):=by rw[yl,sQ,yl]
   rw[this,OV _ _ _ (h w (by simp)),ih (by simp) fun x hx=>h x (by simp [hx])]
end Go.Pg
namespace Go.Proofs.YtjiolbcdfgclaaaGreatDoor
open Go Go.Pg
theorem dqz{p:Prop}(h:p:=by first|assumption|omega|(simp only[Fits,maxLen,pgq] at *;omega)):p:=h
def pgz:=aI pgo (aI pgb (aI tyf @eG))
def aiI:=aI pgo (aI pgb tyf)
theorem rT{P:Program}{rs:List ResultVar}{r r0:V}{s:St}(l:List Nat)(hr:r0.map (sF l) id=r)
  (h:pJ P s rs=some r0:=by first|exact aG _ _ _|exact jq _ _ _ _|exact wZ _ _ _ _ _|exact zL _ _ _ _ _ _|(simp (disch:=first|exact dqz|fail) only[pgr,pgo,tyf,simprocAttr];rfl))
  (hl:l.Nodup:=by decide) (hi:r0.any (Tag.notIn l) (fun _=>true) false=false:=by simp only[pgo,simprocAttr]):UG P rs r s:=eU l r0 h hl hi hr
theorem rE{P:Program}{rs:List ResultVar}{r r0:V}{s:St}(l:List Nat)
  (h:pJ P s rs=some r0:=by first|exact aG _ _ _|exact jq _ _ _ _|exact wZ _ _ _ _ _|exact zL _ _ _ _ _ _|(simp (disch:=first|exact dqz|fail) only[pgr,pgo,tyf,simprocAttr];rfl))
  (hl:l.Nodup:=by decide) (hi:r0.any (Tag.notIn l) (fun _=>true) false=false:=by simp only[pgo,simprocAttr]) (hr:r0.map (sF l) id=r:=by first|rfl|(simp only[pgo,simprocAttr];done)):UG P rs r s:=eU l r0 h hl hi hr
def Ids(l:List Nat):Prop:=True
theorem ids(l:List Nat):Ids l:=trivial
theorem ah:Ids []:=trivial
theorem rI{P:Program}{rs:List ResultVar}{r r0:V}{s:St}{l:List Nat}(hi0:Ids l)
  (h:pJ P s rs=some r0:=by first|exact aG _ _ _|exact jq _ _ _ _|exact wZ _ _ _ _ _|exact zL _ _ _ _ _ _|(simp (disch:=first|exact dqz|fail) only[pgr,pgo,tyf,simprocAttr];rfl))
  (hl:l.Nodup:=by decide) (hi:r0.any (Tag.notIn l) (fun _=>true) false=false:=by simp only[pgo,simprocAttr]) (hr:r0.map (sF l) id=r:=by first|rfl|(simp only[pgo,simprocAttr];done)):UG P rs r s:=eU l r0 h hl hi hr
theorem cU{P:Program}[Tb P]{g:FuncId}{args:List Operand}{d:Option Nat}{s:St}{K:Kd→St→Prop}{vs:List V}{r:V}(hg:Pg.Good P g vs r)(hK:K (kc (.fn g [] []::args.map s.ev) [] r) (St.put { s with nid:=s.nid+r.idb } d (r.shift s.nid)))
  (hvs:(args.map s.ev).map V.erase=vs:=by exact rfl) (h1:noRefs (args.map s.ev)=true:=by exact rfl) (h2:r.noRef=true:=by exact rfl) (h3:(ownFree (args.map s.ev)||r.flat)=true:=by exact rfl):gU P (.fn g [] []) args d s K:=aP r hg hvs h1 h2 h3 hK
theorem cF{P:Program}[Tb P]{g:FuncId}{args:List Operand}{d:Option Nat}{s:St}{K:Kd→St→Prop}{vs:List V}{r:V}(hg:Pg.Good P g vs r)(hf:r.flat=true)(hK:K (kc (.fn g [] []::args.map s.ev) [] r) (St.put { s with nid:=s.nid+r.idb } d (r.shift s.nid)))
  (hvs:(args.map s.ev).map V.erase=vs:=by exact rfl) (h1:noRefs (args.map s.ev)=true:=by exact rfl) (h2:r.noRef=true:=by exact rfl):gU P (.fn g [] []) args d s K:=aP r hg hvs h1 h2 (by rw[Bool.or_eq_true];exact .inr hf) hK
theorem cG{P:Program}[Tb P]{g:FuncId}{args:List Operand}{d:Option Nat}{s:St}{K:Kd→St→Prop}{vs:List V}(ids:List Nat){r:V}(hg:Pg.Good P g vs r)(hK:K (kc (.fn g [] []::args.map s.ev) ids r) (St.put { s.freezeAll ids with nid:=s.nid+r.idb } d (r.shift s.nid)))
  (hvs:(args.map (s.freezeAll ids).ev).map V.erase=vs:=by exact rfl) (h1:noRefs (args.map (s.freezeAll ids).ev)=true:=by exact rfl) (h2:r.noRef=true:=by exact rfl) (h3:(ownFree (args.map (s.freezeAll ids).ev)||r.flat)=true:=by exact rfl):gU P (.fn g [] []) args d s K:=U1 ids r hg hvs h1 h2 h3 hK
theorem cZ{P:Program}[Tb P]{g:FuncId}{args:List Operand}{d:Option Nat}{s s':St}{K:Kd→St→Prop}{vs:List V}{r:V}(hg:Pg.GoodZ P g vs s s' r)(hK:K .z (s'.put d r))(hvs:args.map s.ev=vs:=by exact rfl):gU P (.fn g [] []) args d s K:=nT r hg hvs hK
theorem cY{P:Program}[Tb P]{g:FuncId}{fs cs:List V}{args:List Operand}{d:Option Nat}{s s':St}{K:Kd→St→Prop}{vs:List V}{r:V}(hg:Pg.GoodZ P g vs s s' r)(hK:K .z (s'.put d r))(hvs:fs++args.map s.ev++cs=vs:=by exact rfl):gU P (.fn g fs cs) args d s K:=yg r hg hvs hK
theorem cA{P:Program}[Tb P]{m:Nat}{g:FuncId}{fs cs:List V}{args:List Operand}{d:Option Nat}{s:St}{K:Ka→St→Prop}{vs:List V}{r:V}(hg:Pg.Good P g vs r)(hK:K .q (St.put s d (r.shift m)))(hvs:(fs++args.map s.ev++cs).map V.erase=vs:=by exact rfl)(h0:ownFree (fs++cs)=true:=by exact rfl)(h1:noRefs (fs++args.map s.ev++cs)=true:=by exact rfl)
  (h2:r.noRef=true:=by exact rfl) (h3:(ownFree (args.map s.ev)||r.flat)=true:=by exact rfl) (h5:r.idb≤1:=by exact Nat.le_of_ble_eq_true rfl):nz P m (.fn g fs cs) args d s K:=dZ r hg hvs h0 h1 h2 h3 h5 hK
theorem cAZ{P:Program}[Tb P]{m:Nat}{g:FuncId}{fs cs:List V}{args:List Operand}{d:Option Nat}{s s1:St}{K:Ka→St→Prop}{vs:List V}{r:V}(hg:Pg.GoodZ P g vs s s1 r)(hK:K .z (s1.put d r))(hvs:fs++args.map s.ev++cs=vs:=by exact rfl):nz P m (.fn g fs cs) args d s K:=oO r hg hvs hK
theorem cK{ops:List Oper}{ks:List Kd}{q:Prop}(h2:q)(h1:zI ops ks=true:=by kernel_rfl):zI ops ks=true∧q:=aig h1 h2
theorem cKA{ops:List Oper}{ks:List Ka}{q:Prop}(h2:q)(h1:Ia ops ks=true:=by kernel_rfl):Ia ops ks=true∧q:=vP h1 h2
theorem gI{D:Dw}(hD:mZ Tryz.prog D){f:FuncId}{fn:Func}{c:Code}{rs:List ResultVar}{args:List V}{r:V}(hf:Tryz.prog.funcs[f]?=some fn)(hrs:fn.results=rs.toArray)(h:wpS D Tryz.prog c (ac6 Tryz.prog rs r) (Jr args))
  (hb:fn.body=some c:=by exact rfl) (hn:(fn.name == "runtime.NumGoroutine")=false:=by kernel_rfl) (hfit:xK fn.ntmps c=true:=by kernel_rfl) (hlen:args.length≤fn.ntmps:=by exact Nat.le_of_ble_eq_true (by kernel_rfl)):Gxx f args r:=dE hD hf hb hrs hn hfit hlen h
theorem gZ{D:Dw}(hD:mZ Tryz.prog D){f:FuncId}{fn:Func}{c:Code}{rs:List ResultVar}{args:List V}{r:V}{s s':St}(hf:Tryz.prog.funcs[f]?=some fn)(hrs:fn.results=rs.toArray)(h:wpS D Tryz.prog c (XC Tryz.prog rs s' r) (XB args s))
  (hb:fn.body=some c:=by exact rfl) (hn:(fn.name == "runtime.NumGoroutine")=false:=by kernel_rfl) (hfit:xK fn.ntmps c=true:=by kernel_rfl) (hlen:args.length≤fn.ntmps:=by exact Nat.le_of_ble_eq_true (by kernel_rfl)):Gxz f args s s' r:=AV hD hf hb hrs hn hfit hlen h
theorem oW(l:List Nat:=[]):mZ Tryz.prog (dC l):=GH l mix
theorem oD(l:List Nat:=[]):mZ Tryz.prog (Pg.dD l):=Zj l mix
theorem oG(l:List Nat:=[]):mZ Tryz.prog (Pg.dG l):=Zv l mix
theorem tS{p q r:Prop}(hq:q)(hr:r)(h:q→r→p:=by
  intro hq hr
  (with_reducible first|refine di (fun hc => ?_) (fun hc => ?_)|refine bK (fun hc => ?_) (fun hc => ?_)|refine dw (fun hc => ?_) (fun hc => ?_)|refine Zu _ _ (fun hc => ?_) (fun hc => ?_))
  ·(try simp only[hc]);(try simp only[pgd] at hc);revert hc;exact hq
  ·(try simp only[hc]);(try simp only[pgd] at hc);revert hc;exact hr):p:=h hq hr
theorem tX{F p q r:Prop}(fx:F)(hq:q)(hr:r)(h:F→q→r→p:=by
  intro fx hq hr
  (with_reducible first|refine di (fun hc => ?_) (fun hc => ?_)|refine bK (fun hc => ?_) (fun hc => ?_)|refine dw (fun hc => ?_) (fun hc => ?_)|refine Zu _ _ (fun hc => ?_) (fun hc => ?_))
  ·(try simp only[hc]);(try simp only[pgd,fx] at hc);revert hc;exact hq
  ·(try simp only[hc]);(try simp only[pgd,fx] at hc);revert hc;exact hr):p:=h fx hq hr
theorem cS{C p q:Prop}(cx:C)(hq:q)(h:C→q→p:=by
  intro cx hq
  (first
   | ((with_reducible show gU _ _ _ _ _ _);first|refine cU cx ?_|refine cZ cx ?_|refine cU cx.1 ?_|refine cZ cx.1 ?_|refine cU cx.2 ?_|refine cZ cx.2 ?_|refine cU cx.2.1 ?_|refine cZ cx.2.1 ?_|refine cU cx.2.2 ?_|refine cZ cx.2.2 ?_|refine cU cx.2.2.1 ?_|refine cZ cx.2.2.1 ?_|refine cU cx.2.2.2 ?_|refine cZ cx.2.2.2 ?_|refine cU cx.2.2.2.1 ?_|refine cZ cx.2.2.2.1 ?_|refine cU cx.2.2.2.2 ?_|refine cZ cx.2.2.2.2 ?_|refine cU cx.2.2.2.2.1 ?_|refine cZ cx.2.2.2.2.1 ?_|refine cU cx.2.2.2.2.2 ?_|refine cZ cx.2.2.2.2.2 ?_|refine cU cx.2.2.2.2.2.1 ?_|refine cZ cx.2.2.2.2.2.1 ?_|refine cU cx.2.2.2.2.2.2 ?_|refine cZ cx.2.2.2.2.2.2 ?_|refine cU cx.2.2.2.2.2.2.1 ?_|refine cZ cx.2.2.2.2.2.2.1 ?_|refine cU cx.2.2.2.2.2.2.2 ?_|refine cZ cx.2.2.2.2.2.2.2 ?_|refine cU cx.2.2.2.2.2.2.2.1 ?_|refine cZ cx.2.2.2.2.2.2.2.1 ?_|refine cU cx.2.2.2.2.2.2.2.2 ?_|refine cZ cx.2.2.2.2.2.2.2.2 ?_|refine cU cx.2.2.2.2.2.2.2.2.1 ?_|refine cZ cx.2.2.2.2.2.2.2.2.1 ?_|refine cU cx.2.2.2.2.2.2.2.2.2 ?_|refine cZ cx.2.2.2.2.2.2.2.2.2 ?_|refine cU cx.2.2.2.2.2.2.2.2.2.1 ?_|refine cZ cx.2.2.2.2.2.2.2.2.2.1 ?_|refine cU cx.2.2.2.2.2.2.2.2.2.2 ?_|refine cZ cx.2.2.2.2.2.2.2.2.2.2 ?_|refine cU cx.2.2.2.2.2.2.2.2.2.2.1 ?_|refine cZ cx.2.2.2.2.2.2.2.2.2.2.1 ?_|refine cU cx.2.2.2.2.2.2.2.2.2.2.2 ?_|refine cZ cx.2.2.2.2.2.2.2.2.2.2.2 ?_|refine cU cx.2.2.2.2.2.2.2.2.2.2.2.1 ?_|refine cZ cx.2.2.2.2.2.2.2.2.2.2.2.1 ?_|refine cU cx.2.2.2.2.2.2.2.2.2.2.2.2 ?_|refine cZ cx.2.2.2.2.2.2.2.2.2.2.2.2 ?_|refine cU cx.2.2.2.2.2.2.2.2.2.2.2.2.1 ?_|refine cZ cx.2.2.2.2.2.2.2.2.2.2.2.2.1 ?_|refine cU cx.2.2.2.2.2.2.2.2.2.2.2.2.2 ?_|refine cZ cx.2.2.2.2.2.2.2.2.2.2.2.2.2 ?_)
   | ((with_reducible show nz _ _ _ _ _ _ _);first|refine cA cx ?_|refine cAZ cx ?_|refine cA cx.1 ?_|refine cAZ cx.1 ?_|refine cA cx.2 ?_|refine cAZ cx.2 ?_|refine cA cx.2.1 ?_|refine cAZ cx.2.1 ?_|refine cA cx.2.2 ?_|refine cAZ cx.2.2 ?_|refine cA cx.2.2.1 ?_|refine cAZ cx.2.2.1 ?_|refine cA cx.2.2.2 ?_|refine cAZ cx.2.2.2 ?_|refine cA cx.2.2.2.1 ?_|refine cAZ cx.2.2.2.1 ?_|refine cA cx.2.2.2.2 ?_|refine cAZ cx.2.2.2.2 ?_|refine cA cx.2.2.2.2.1 ?_|refine cAZ cx.2.2.2.2.1 ?_|refine cA cx.2.2.2.2.2 ?_|refine cAZ cx.2.2.2.2.2 ?_|refine cA cx.2.2.2.2.2.1 ?_|refine cAZ cx.2.2.2.2.2.1 ?_|refine cA cx.2.2.2.2.2.2 ?_|refine cAZ cx.2.2.2.2.2.2 ?_|refine cA cx.2.2.2.2.2.2.1 ?_|refine cAZ cx.2.2.2.2.2.2.1 ?_|refine cA cx.2.2.2.2.2.2.2 ?_|refine cAZ cx.2.2.2.2.2.2.2 ?_|refine cA cx.2.2.2.2.2.2.2.1 ?_|refine cAZ cx.2.2.2.2.2.2.2.1 ?_|refine cA cx.2.2.2.2.2.2.2.2 ?_|refine cAZ cx.2.2.2.2.2.2.2.2 ?_|refine cA cx.2.2.2.2.2.2.2.2.1 ?_|refine cAZ cx.2.2.2.2.2.2.2.2.1 ?_|refine cA cx.2.2.2.2.2.2.2.2.2 ?_|refine cAZ cx.2.2.2.2.2.2.2.2.2 ?_|refine cA cx.2.2.2.2.2.2.2.2.2.1 ?_|refine cAZ cx.2.2.2.2.2.2.2.2.2.1 ?_|refine cA cx.2.2.2.2.2.2.2.2.2.2 ?_|refine cAZ cx.2.2.2.2.2.2.2.2.2.2 ?_|refine cA cx.2.2.2.2.2.2.2.2.2.2.1 ?_|refine cAZ cx.2.2.2.2.2.2.2.2.2.2.1 ?_|refine cA cx.2.2.2.2.2.2.2.2.2.2.2 ?_|refine cAZ cx.2.2.2.2.2.2.2.2.2.2.2 ?_|refine cA cx.2.2.2.2.2.2.2.2.2.2.2.1 ?_|refine cAZ cx.2.2.2.2.2.2.2.2.2.2.2.1 ?_|refine cA cx.2.2.2.2.2.2.2.2.2.2.2.2 ?_|refine cAZ cx.2.2.2.2.2.2.2.2.2.2.2.2 ?_|refine cA cx.2.2.2.2.2.2.2.2.2.2.2.2.1 ?_|refine cAZ cx.2.2.2.2.2.2.2.2.2.2.2.2.1 ?_|refine cA cx.2.2.2.2.2.2.2.2.2.2.2.2.2 ?_|refine cAZ cx.2.2.2.2.2.2.2.2.2.2.2.2.2 ?_))
  exact hq):p:=h cx hq
theorem wS{F C p q:Prop}(fx:F)(cx:C)(hq:q)(h:F→C→q→p:=by intro fx cx hq;(repeat' (first|(simp (maxSteps:=2000000) (disch:=first|exact dqz|fail) only[pgz,simprocAttr,fx])|((with_reducible first|apply di|apply bK|apply dw)<;>intro hc<;>(try simp only[hc])<;>(try simp only[pgd] at hc))|(with_reducible refine cK ?_)|(refine cS cx ?_)|fail));all_goals exact hq):p:=h fx cx hq
theorem wP{F C p q:Prop}(fx:F)(cx:C)(hq:q)(h:F→C→q→p:=by intro fx cx hq;(repeat1' (first|(simp (maxSteps:=2000000) (disch:=first|exact dqz|fail) only[pgz,simprocAttr,fx])|(with_reducible refine cK ?_)|(refine cS cx ?_)|fail));all_goals exact hq):p:=h fx cx hq
theorem wR{F C p:Prop}(fx:F)(cx:C){l:List Nat}(hi:Ids l)(h:F→C→Ids l→p:=by intro fx cx hi;(repeat' (first|(simp (maxSteps:=2000000) (disch:=first|exact dqz|fail) only[pgz,simprocAttr,fx])|((with_reducible first|apply di|apply bK|apply dw)<;>intro hc<;>(try simp only[hc])<;>(try simp only[pgd] at hc))|(with_reducible refine cK ?_)|(refine cS cx ?_)|fail));all_goals exact rI hi):p:=h fx cx hi
theorem wP'{F C p q:Prop}(fx:F)(cx:C)(hq:q)(h:F→C→q→p:=by intro fx cx hq;(repeat1' (first|(simp (maxSteps:=2000000) (disch:=first|exact dqz|fail) only[aiI,simprocAttr,fx])|(with_reducible refine cK ?_)|(refine cS cx ?_)|fail));all_goals exact hq):p:=h fx cx hq
theorem wR'{F C p:Prop}(fx:F)(cx:C){l:List Nat}(hi:Ids l)(h:F→C→Ids l→p:=by intro fx cx hi;(repeat' (first|(simp (maxSteps:=2000000) (disch:=first|exact dqz|fail) only[aiI,simprocAttr,fx])|((with_reducible first|apply di|apply bK|apply dw)<;>intro hc<;>(try simp only[hc])<;>(try simp only[pgd] at hc))|(with_reducible refine cK ?_)|(refine cS cx ?_)|fail));all_goals exact rI hi):p:=h fx cx hi
theorem wSA{F C p q:Prop}(fx:F)(cx:C)(hq:q)(h:F→C→q→p:=by intro fx cx hq;(repeat' (first|(simp (maxSteps:=2000000) (disch:=first|exact dqz|fail) only[pgz,pga,simprocAttr,fx])|((with_reducible first|apply di|apply bK|apply dw)<;>intro hc<;>(try simp only[hc])<;>(try simp only[pgd] at hc))|(with_reducible refine cKA ?_)|((with_reducible show sN _ _ _ _ _);first|refine oP (by decide +kernel) ?_|refine oQ (by decide +kernel) ?_)|(with_reducible refine cK ?_)|(refine cS cx ?_)|fail));all_goals exact hq):p:=h fx cx hq
theorem wPA{F C p q:Prop}(fx:F)(cx:C)(hq:q)(h:F→C→q→p:=by intro fx cx hq;(repeat1' (first|(simp (maxSteps:=2000000) (disch:=first|exact dqz|fail) only[pgz,pga,simprocAttr,fx])|(with_reducible refine cKA ?_)|((with_reducible show sN _ _ _ _ _);first|refine oP (by decide +kernel) ?_|refine oQ (by decide +kernel) ?_)|(with_reducible refine cK ?_)|(refine cS cx ?_)|fail));all_goals exact hq):p:=h fx cx hq
theorem wRA{F C p:Prop}(fx:F)(cx:C){l:List Nat}(hi:Ids l)(h:F→C→Ids l→p:=by intro fx cx hi;(repeat' (first|(simp (maxSteps:=2000000) (disch:=first|exact dqz|fail) only[pgz,pga,simprocAttr,fx])|((with_reducible first|apply di|apply bK|apply dw)<;>intro hc<;>(try simp only[hc])<;>(try simp only[pgd] at hc))|(with_reducible refine cKA ?_)|((with_reducible show sN _ _ _ _ _);first|refine oP (by decide +kernel) ?_|refine oQ (by decide +kernel) ?_)|(with_reducible refine cK ?_)|(refine cS cx ?_)|fail));all_goals exact rI hi):p:=h fx cx hi
theorem wRG{F C p:Prop}(fx:F)(cx:C){l:List Nat}(hi:Ids l)(h:F→C→Ids l→p:=by intro fx cx hi;(repeat' (first|(simp (maxSteps:=2000000) (disch:=first|exact dqz|fail) only[pgz,pga,pgG,simprocAttr,fx])|((with_reducible first|apply di|apply bK|apply dw)<;>intro hc<;>(try simp only[hc])<;>(try simp only[pgd] at hc))|(with_reducible refine cKA ?_)|((with_reducible show sN _ _ _ _ _);first|refine oP (by decide +kernel) ?_|refine oQ (by decide +kernel) ?_|refine aeE (by decide +kernel) ?_|refine aeF (by decide +kernel) ?_)|(with_reducible refine cK ?_)|(refine cS cx ?_)|fail));all_goals exact rI hi):p:=h fx cx hi
theorem gz{p:Prop}(h:p:=by first|exact trivial|exact gB (by omega)|exact gq rfl|exact aW rfl rfl|exact je rfl|exact gK rfl):p:=h
theorem kM{l m:List Nat}{s:St}{X:List (Nat × V)}{B:List (Nat × TypeId × List V)}{n:Nat}(hX:GenA l m s.env X)(hB:GenB l m s.bx B)(hl:l.Nodup:=by decide)(hm:m.Nodup:=by decide)(hn:l.length≤n:=by decide)(hn':m.length≤n:=by decide):Keep l m s (mkA X B n (fun _ => .top)):=iy hX hB (kD _ _ _) hl hm hn hn'
def pgk:=aI pgo (aI @fQ (aI @ig (aI @fU (aI @iq (aI @dB (aI @eY @fJ))))))
theorem kE{p:Prop}(h:p:=by refine kM ?_ ?_;(repeat' (first|exact trivial|refine gJ _ _ rfl rfl ?_ ?_));all_goals (try simp only[pgk,simprocAttr]);all_goals (try (repeat' apply aI));all_goals exact gz):p:=h
theorem kL{p q:Prop}(hq:q)(h:q→p:=by intro hq;refine kM ?_ ?_;(repeat' (first|exact trivial|refine gJ _ _ rfl rfl ?_ ?_));all_goals (try simp only[pgk,simprocAttr]);all_goals (try (repeat' apply aI));all_goals (first|exact gz|exact hq)):p:=h hq
theorem bE{ι:Type}{S:ι→St}{Inv:ι→Prop}{μ:ι→Nat}{i:ι}{s:St}(j:ι)(l m:List Nat)(h1:Inv j)(h2:μ j<μ i:=by first|omega|(simp only[List.length_cons];omega))(h3:Keep l m s (S j):=by exact kE):AZ S Inv μ i s:=bC j l m h1 h2 h3
theorem bL{ι:Type}{S:ι→St}{Inv:ι→Prop}{μ:ι→Nat}{i:ι}{s:St}(j:ι)(l m:List Nat)(h1:Inv j)(h3:Keep l m s (S j))(h2:μ j<μ i:=by first|omega|(simp only[List.length_cons];omega)):AZ S Inv μ i s:=bC j l m h1 h2 h3
abbrev vi(n:Int):V := .c (.int .i64 n)
abbrev vu(n:Int):V := .c (.int .u64 n)
abbrev vb(b:Bool):V := .c (.bool b)
abbrev vs(l:List Nat):V := .c (.string (sB l))
abbrev nls:V := .c (.slice none 0 0)
abbrev fzs(l:List (List Nat)):V := .sl .fz 1 (sv l)
abbrev fzb(l:List Nat):V := .sl .fz 1 (bv l)
def iv(l:List Int):List V:=l.map fun n=>V.c (.int .i64 n)
theorem bP(l:List Int):(iv l).length=l.length:=by simp [iv]
theorem mg(l:List Int)(i:Nat)(h:i<l.length):(iv l)[i]?=some (.c (.int .i64 (l.getD i 0))):=by simp [iv,h,List.getD]
abbrev fzi(l:List Int):V := .sl .fz 1 (iv l)
def itv(l:List (List Nat × Int)):List V:=l.map fun x=>V.agg [vs x.1,vi x.2]
theorem aB(l:List (List Nat × Int)):(itv l).length=l.length:=by simp [itv]
theorem sS(l:List (List Nat × Int))(i:Nat)(h:i<l.length):(itv l)[i]?=some (.agg [vs (l.getD i ([],0)).1,vi (l.getD i ([],0)).2]):=by simp [itv,h,List.getD]
abbrev fzt(l:List (List Nat × Int)):V := .sl .fz 2 (itv l)
theorem ai:(⟨#[]⟩:ByteArray)=sB []:=rfl
theorem Rh(l:List Nat):decide (sB l=sB [])=decide (l.length=0):=by
 have:sB l=sB []↔l.length=0:=by
  constructor
  ·intro h
   have:=congrArg ByteArray.size h
   rw[bD,bD] at this
   simpa using this
  ·intro h;rw[List.eq_nil_of_length_eq_zero h]
 exact decide_eq_decide.2 this
theorem kG(l:List Nat):decide (sB l=⟨#[]⟩)=decide (l.length=0):=Rh l
structure O where
 kind:Int
 name:List Nat
 other:List Nat
 names:List (List Nat)
 pk:Int
 pz:Int
 pd:Int
 ps:Int
 items:List (List Nat × Int)
 coins:List Nat
 exp:Int
 src:Int
 hnd:Int
 idx:Int
 cur:Int
 cnt:Int
 qk:Int
 qkey:List Nat
 qc:Int
 qn:Int
 qd:Int
 data:List Nat
abbrev opC(o:O)(nm it co da:V):List V:=[vi o.kind,vs o.name,vs o.other,nm,vi o.pk,vi o.pz,vi o.pd,vu o.ps,it,co,vi o.exp,vi o.src,vi o.hnd,vi o.idx,vi o.cur,vi o.cnt,vi o.qk,vs o.qkey,vi o.qc,vi o.qn,vi o.qd,da]
abbrev opF(o:O):List V:=opC o (fzs o.names) (fzt o.items) (fzb o.coins) (fzb o.data)
theorem is9:ji Tryz.prog 9=true:=by kernel_rfl
theorem it5:rY Tryz.prog 5=some .u8:=by kernel_rfl
theorem it3:rY Tryz.prog 3=some .i64:=by kernel_rfl
theorem un3:(Tryz.prog.underlying 3).isSome=true:=by kernel_rfl
theorem un5:(Tryz.prog.underlying 5).isSome=true:=by kernel_rfl
theorem ixs(l:List Nat)(k:IntKind)(n:Int)(ho:oct l)(h0:0≤n)(h:n<l.length):ixV Tryz.prog 9 (.c (.string (sB l))) (.c (.int k n))=some (.c (.int .u8 (l.getD n.toNat 0:Nat))):=by
 unfold ixV
 simp only
 rw[if_pos ⟨is9,h0,by rw[bD];exact h⟩,H5 ho]
theorem ou(n:Int)(h : -9223372036854775808≤n∧n≤9223372036854775807):IntKind.i64.wrap n=n:=IntWalk.i64_in n h
theorem QQ(b:Bool):unV .not (.c (.bool b))=some (.c (.bool (!b))):=rfl
def bt(c a b:Nat):Bool:=decide (a≤c)&&decide (c≤b)
theorem dle(a b:Nat):decide ((a:Int)≤(b:Int))=decide (a≤b):=by
 by_cases h:a≤b
 ·rw[decide_eq_true h,decide_eq_true (by omega)]
 ·rw[decide_eq_false h,decide_eq_false (by omega)]
theorem zQ(c a b:Nat):Gxx 137 [.c (.int .u8 (c:Int)),.c (.int .u8 (a:Int)),.c (.int .u8 (b:Int))] (.c (.bool (bt c a b))):=by
 refine dE (gY mix) Tryz.func137 rfl Tryz.results137 rfl (by kernel_rfl) (Nat.le_of_ble_eq_true (by kernel_rfl)) ?_
 have e1:=dle a c
 have e2:=dle c b
 unfold bt
 cases h:decide (a≤c)<;>rw[h] at e1
 all_goals
  simp only[Tryz.f137,pgs,pgl,pgx,pgf,Nat.reduceEqDiff,reduceIte,e1,e2]
  refine eU [] _ (aG _ _ _) .nil ?_ ?_
  ·simp only[pgs,pgl,pgx,pgf,Nat.reduceEqDiff,reduceIte]
  ·simp only[pgs,pgl,pgx,pgf,Nat.reduceEqDiff,reduceIte]
theorem OX(c:Nat):Gxx 186 [.c (.int .u8 (c:Int))] (.c (.bool (bt c 97 122))):=by
 refine dE (gY mix) Tryz.func186 rfl Tryz.results186 rfl (by kernel_rfl) (Nat.le_of_ble_eq_true (by kernel_rfl)) ?_
 have e1:decide ((97:Int)≤(c:Int))=decide (97≤c):=dle 97 c
 have e2:decide ((c:Int)≤122)=decide (c≤122):=dle c 122
 unfold bt
 cases h:decide (97≤c)<;>rw[h] at e1
 all_goals
  simp only[Tryz.f186,pgs,pgl,pgx,pgf,Nat.reduceEqDiff,reduceIte,e1,e2]
  refine eU [] _ (aG _ _ _) .nil ?_ ?_
  ·simp only[pgs,pgl,pgx,pgf,Nat.reduceEqDiff,reduceIte]
  ·simp only[pgs,pgl,pgx,pgf,Nat.reduceEqDiff,reduceIte]
theorem Ij(c:Nat):Gxx 188 [.c (.int .u8 (c:Int))] (.c (.bool (bt c 48 57))):=by
 refine dE (gY mix) Tryz.func188 rfl Tryz.results188 rfl (by kernel_rfl) (Nat.le_of_ble_eq_true (by kernel_rfl)) ?_
 have e1:decide ((48:Int)≤(c:Int))=decide (48≤c):=dle 48 c
 have e2:decide ((c:Int)≤57)=decide (c≤57):=dle c 57
 unfold bt
 cases h:decide (48≤c)<;>rw[h] at e1
 all_goals
  simp only[Tryz.f188,pgs,pgl,pgx,pgf,Nat.reduceEqDiff,reduceIte,e1,e2]
  refine eU [] _ (aG _ _ _) .nil ?_ ?_
  ·simp only[pgs,pgl,pgx,pgf,Nat.reduceEqDiff,reduceIte]
  ·simp only[pgs,pgl,pgx,pgf,Nat.reduceEqDiff,reduceIte]
theorem aiJ(c:Nat):Gxx 187 [.c (.int .u8 (c:Int))] (.c (.bool (bt c 65 90))):=by
 refine dE (gY mix) Tryz.func187 rfl Tryz.results187 rfl (by kernel_rfl) (Nat.le_of_ble_eq_true (by kernel_rfl)) ?_
 have e1:decide ((65:Int)≤(c:Int))=decide (65≤c):=dle 65 c
 have e2:decide ((c:Int)≤90)=decide (c≤90):=dle c 90
 unfold bt
 cases h:decide (65≤c)<;>rw[h] at e1
 all_goals
  simp only[Tryz.f187,pgs,pgl,pgx,pgf,Nat.reduceEqDiff,reduceIte,e1,e2]
  refine eU [] _ (aG _ _ _) .nil ?_ ?_
  ·simp only[pgs,pgl,pgx,pgf,Nat.reduceEqDiff,reduceIte]
  ·simp only[pgs,pgl,pgx,pgf,Nat.reduceEqDiff,reduceIte]
def fH(l:List Nat):Bool:=decide (1≤l.length)&&decide (l.length≤32)
theorem OY(l:List Nat):Gxx 133 [.c (.string (sB l))] (.c (.bool (fH l))):=by
 refine dE (gY mix) Tryz.func133 rfl Tryz.results133 rfl (by kernel_rfl) (Nat.le_of_ble_eq_true (by kernel_rfl)) ?_
 have e1:decide ((1:Int)≤(l.length:Int))=decide (1≤l.length):=dle 1 _
 have e2:decide ((l.length:Int)≤32)=decide (l.length≤32):=dle _ 32
 unfold fH
 cases h:decide (1≤l.length)<;>rw[h] at e1
 all_goals
  simp only[Tryz.f133,pgs,pgl,pgx,pgf,Nat.reduceEqDiff,reduceIte,is9,bD,e1,e2]
  refine eU [] _ (aG _ _ _) .nil ?_ ?_
  ·simp only[pgs,pgl,pgx,pgf,Nat.reduceEqDiff,reduceIte]
  ·simp only[pgs,pgl,pgx,pgf,Nat.reduceEqDiff,reduceIte]
theorem uH(l:List Nat):Gxx 140 [.c (.string (sB l))] (.c (.bool (fH l))):=by
 refine dE (gY mix) Tryz.func140 rfl Tryz.results140 rfl (by kernel_rfl) (Nat.le_of_ble_eq_true (by kernel_rfl)) ?_
 have e1:decide ((1:Int)≤(l.length:Int))=decide (1≤l.length):=dle 1 _
 have e2:decide ((l.length:Int)≤32)=decide (l.length≤32):=dle _ 32
 unfold fH
 cases h:decide (1≤l.length)<;>rw[h] at e1
 all_goals
  simp only[Tryz.f140,pgs,pgl,pgx,pgf,Nat.reduceEqDiff,reduceIte,is9,bD,e1,e2]
  refine eU [] _ (aG _ _ _) .nil ?_ ?_
  ·simp only[pgs,pgl,pgx,pgf,Nat.reduceEqDiff,reduceIte]
  ·simp only[pgs,pgl,pgx,pgf,Nat.reduceEqDiff,reduceIte]
def nmC(c:Nat):Bool:=bt c 97 122||bt c 48 57||c == 45||c == 46
def jW(l:List Nat):Bool:=decide (1≤l.length)&&decide (l.length≤16)&&bt (l.getD 0 0) 97 122&&l.all nmC
theorem neI(c k:Nat):((c:Int) != (k:Int))=(c != k):=by
 rw[Bool.eq_iff_iff,bne_iff_ne,bne_iff_ne]
 omega
theorem jQ{p:Nat→Bool}{l:List Nat}{i:Nat}(h:i<l.length)(ha:(l.take i).all p=true)(hp:p (l.getD i 0)=true):(l.take (i+1)).all p=true:=by
 rw[List.take_succ_eq_append_getElem h,List.all_append,ha]
 have:l.getD i 0=l[i]:=by simp [List.getD,h]
 rw[this] at hp
 simp [hp]
theorem vS{p:Nat→Bool}{l:List Nat}{i:Nat}(h:i<l.length)(hp:p (l.getD i 0)=false):l.all p=false:=by
 have:l.getD i 0=l[i]:=by simp [List.getD,h]
 rw[this] at hp
 rw[←Bool.not_eq_true,List.all_eq_true]
 intro hx
 have:=hx _ (List.getElem_mem h)
 rw[hp] at this
 cases this
theorem aiK(l:List Nat)(ho:oct l):Gxx 178 [.c (.string (sB l))] (.c (.bool (jW l))):=by
 refine dE (gY mix) Tryz.func178 rfl Tryz.results178 rfl (by kernel_rfl) (Nat.le_of_ble_eq_true (by kernel_rfl)) ?_
 unfold jW
 rcases Nat.lt_or_ge l.length 1 with h1|h1
 ·have e1:decide ((l.length:Int)<1)=true:=decide_eq_true (by omega)
  rw[decide_eq_false (show ¬1≤l.length by omega)]
  simp only[Tryz.f178,pgs,pgl,pgx,pgf,Nat.reduceEqDiff,reduceIte,is9,bD,e1]
  refine eU [] _ (aG _ _ _) .nil ?_ ?_
  ·simp only[pgs,pgl,pgx,pgf,Nat.reduceEqDiff,reduceIte]
  ·simp only[pgs,pgl,pgx,pgf,Nat.reduceEqDiff,reduceIte]
 have e1:decide ((l.length:Int)<1)=false:=decide_eq_false (by omega)
 rw[decide_eq_true h1]
 rcases Nat.lt_or_ge 16 l.length with h2|h2
 ·have e2:decide ((16:Int)<(l.length:Int))=true:=decide_eq_true (by omega)
  rw[decide_eq_false (show ¬l.length≤16 by omega)]
  simp only[Tryz.f178,pgs,pgl,pgx,pgf,Nat.reduceEqDiff,reduceIte,is9,bD,e1,e2]
  refine eU [] _ (aG _ _ _) .nil ?_ ?_
  ·simp only[pgs,pgl,pgx,pgf,Nat.reduceEqDiff,reduceIte]
  ·simp only[pgs,pgl,pgx,pgf,Nat.reduceEqDiff,reduceIte]
 have e2:decide ((16:Int)<(l.length:Int))=false:=decide_eq_false (by omega)
 rw[decide_eq_true h2]
 simp (disch:=first|assumption|omega) only[Tryz.f178,pgs,pgl,pgx,pgf,Nat.reduceEqDiff,reduceIte,is9,bD,e1,e2,ixs,Int.reduceToNat]
 have g0:=OX (l.getD 0 0)
 cases h3:bt (l.getD 0 0) 97 122<;>rw[h3] at g0
 ·refine aP _ g0 rfl rfl rfl rfl ?_
  simp only[pgs,pgl,pgx,pgf,Nat.reduceEqDiff,reduceIte,QQ]
  refine eU [] _ (aG _ _ _) .nil ?_ ?_
  ·simp only[pgs,pgl,pgx,pgf,Nat.reduceEqDiff,reduceIte]
  ·simp only[pgs,pgl,pgx,pgf,Nat.reduceEqDiff,reduceIte]
 refine aP _ g0 rfl rfl rfl rfl ?_
 simp only[pgs,pgl,pgx,pgf,Nat.reduceEqDiff,reduceIte,QQ,is9,bD]
 refine vO (fun i=>mkS [.c (.string (sB l)),.top,.top,.top,.top,.top,.top,.top,.top,.top,.top,.top,.top,.top,.top,.top,.top,.top,.top,.top,.c (.int .i64 l.length),.c (.int .i64 (i:Nat))] 0) (fun i=>i≤l.length∧(l.take i).all nmC=true) (fun i=>l.length-i) 0 [] [] ?_ ⟨Nat.zero_le _,rfl⟩ ?_
 ·refine jm ?_ .nil (Nat.le_refl _)
  simp only[pgs,pgl,pgx,pgf,gy,iL,dB,eY,fJ,Nat.reduceEqDiff,reduceIte,Nat.reduceAdd]
  exact of_eq_true (eY _ _ _)
 ·rintro i ⟨hi,hall⟩ s hs
  simp only[Dn,pgs,pgl,Nat.reduceAdd] at hs
  subst hs
  rcases Nat.lt_or_ge i l.length with hlt|hge
  ·have e4:decide ((i:Int)<(l.length:Int))=true:=decide_eq_true (by omega)
   simp (disch:=first|assumption|omega) only[pgs,pgl,pgx,pgf,Nat.reduceEqDiff,reduceIte,Nat.reduceAdd,e4,ixs,Int.toNat_natCast]
   generalize hcd:l.getD i 0=c
   have g1:=OX c
   have g2:=Ij c
   have e5:((c:Int) != 45)=(c != 45):=neI c 45
   have e6:((c:Int) != 46)=(c != 46):=neI c 46
   cases b1:bt c 97 122<;>rw[b1] at g1
   ·refine aP _ g1 rfl rfl rfl rfl ?_
    simp only[pgs,pgl,pgx,pgf,Nat.reduceEqDiff,reduceIte,QQ]
    cases b2:bt c 48 57<;>rw[b2] at g2
    ·refine aP _ g2 rfl rfl rfl rfl ?_
     cases b3:(c != 45)<;>rw[b3] at e5
     ·have hn:nmC (l.getD i 0)=true:=by
       rw[hcd];unfold nmC;rw[bne_eq_false_iff_eq] at b3;subst b3;rfl
      simp (disch:=omega) only[pgs,pgl,pgx,pgf,Nat.reduceEqDiff,reduceIte,QQ,e5,ou,bu]
      refine bC (i+1) [] [] ⟨by omega,jQ hlt hall hn⟩ (by omega) (jm ?_ .nil (Nat.le_refl _))
      simp only[pgs,pgl,pgx,pgf,gy,iL,dB,eY,fJ,Nat.reduceEqDiff,reduceIte,Nat.reduceAdd,Int.natCast_add,Int.cast_ofNat_Int]
     ·cases b4:(c != 46)<;>rw[b4] at e6
      ·have hn:nmC (l.getD i 0)=true:=by
        rw[hcd];unfold nmC;rw[bne_eq_false_iff_eq] at b4;subst b4;rfl
       simp (disch:=omega) only[pgs,pgl,pgx,pgf,Nat.reduceEqDiff,reduceIte,QQ,e5,e6,ou,bu]
       refine bC (i+1) [] [] ⟨by omega,jQ hlt hall hn⟩ (by omega) (jm ?_ .nil (Nat.le_refl _))
       simp only[pgs,pgl,pgx,pgf,gy,iL,dB,eY,fJ,Nat.reduceEqDiff,reduceIte,Nat.reduceAdd,Int.natCast_add,Int.cast_ofNat_Int]
      ·have hn:nmC (l.getD i 0)=false:=by
        rw[hcd];unfold nmC
        rw[bne_iff_ne] at b3 b4
        simp [b1,b2,b3,b4]
       rw[vS hlt hn]
       simp (disch:=omega) only[pgs,pgl,pgx,pgf,Nat.reduceEqDiff,reduceIte,QQ,e5,e6,ou,rF]
       refine eU [] _ (aG _ _ _) .nil ?_ ?_
       ·simp only[pgs,pgl,pgx,pgf,Nat.reduceEqDiff,reduceIte]
       ·simp only[pgs,pgl,pgx,pgf,Nat.reduceEqDiff,reduceIte]
    ·have hn:nmC (l.getD i 0)=true:=by rw[hcd];unfold nmC;simp [b2]
     refine aP _ g2 rfl rfl rfl rfl ?_
     simp (disch:=omega) only[pgs,pgl,pgx,pgf,Nat.reduceEqDiff,reduceIte,QQ,ou,bu]
     refine bC (i+1) [] [] ⟨by omega,jQ hlt hall hn⟩ (by omega) (jm ?_ .nil (Nat.le_refl _))
     simp only[pgs,pgl,pgx,pgf,gy,iL,dB,eY,fJ,Nat.reduceEqDiff,reduceIte,Nat.reduceAdd,Int.natCast_add,Int.cast_ofNat_Int]
   ·have hn:nmC (l.getD i 0)=true:=by rw[hcd];unfold nmC;simp [b1]
    refine aP _ g1 rfl rfl rfl rfl ?_
    simp (disch:=omega) only[pgs,pgl,pgx,pgf,Nat.reduceEqDiff,reduceIte,QQ,ou,bu]
    refine bC (i+1) [] [] ⟨by omega,jQ hlt hall hn⟩ (by omega) (jm ?_ .nil (Nat.le_refl _))
    simp only[pgs,pgl,pgx,pgf,gy,iL,dB,eY,fJ,Nat.reduceEqDiff,reduceIte,Nat.reduceAdd,Int.natCast_add,Int.cast_ofNat_Int]
  ·have hil:i=l.length:=by omega
   subst hil
   rw[List.take_length] at hall
   rw[hall]
   have e4:decide ((l.length:Int)<(l.length:Int))=false:=decide_eq_false (by omega)
   simp only[pgs,pgl,pgx,pgf,Nat.reduceEqDiff,reduceIte,Nat.reduceAdd,e4,ny]
   refine eU [] _ (aG _ _ _) .nil ?_ ?_
   ·simp only[pgs,pgl,pgx,pgf,Nat.reduceEqDiff,reduceIte]
   ·simp only[pgs,pgl,pgx,pgf,Nat.reduceEqDiff,reduceIte]
theorem oz(l:List Nat)(ho:oct l):Gxx 84 [.c (.string (sB l))] (.c (.bool (jW l))):=by
 refine dE (gY mix) Tryz.func84 rfl Tryz.results84 rfl (by kernel_rfl) (Nat.le_of_ble_eq_true (by kernel_rfl)) ?_
 unfold jW
 rcases Nat.lt_or_ge l.length 1 with h1|h1
 ·have e1:decide ((l.length:Int)<1)=true:=decide_eq_true (by omega)
  rw[decide_eq_false (show ¬1≤l.length by omega)]
  simp only[Tryz.f84,pgs,pgl,pgx,pgf,Nat.reduceEqDiff,reduceIte,is9,bD,e1]
  refine eU [] _ (aG _ _ _) .nil ?_ ?_
  ·simp only[pgs,pgl,pgx,pgf,Nat.reduceEqDiff,reduceIte]
  ·simp only[pgs,pgl,pgx,pgf,Nat.reduceEqDiff,reduceIte]
 have e1:decide ((l.length:Int)<1)=false:=decide_eq_false (by omega)
 rw[decide_eq_true h1]
 rcases Nat.lt_or_ge 16 l.length with h2|h2
 ·have e2:decide ((16:Int)<(l.length:Int))=true:=decide_eq_true (by omega)
  rw[decide_eq_false (show ¬l.length≤16 by omega)]
  simp only[Tryz.f84,pgs,pgl,pgx,pgf,Nat.reduceEqDiff,reduceIte,is9,bD,e1,e2]
  refine eU [] _ (aG _ _ _) .nil ?_ ?_
  ·simp only[pgs,pgl,pgx,pgf,Nat.reduceEqDiff,reduceIte]
  ·simp only[pgs,pgl,pgx,pgf,Nat.reduceEqDiff,reduceIte]
 have e2:decide ((16:Int)<(l.length:Int))=false:=decide_eq_false (by omega)
 rw[decide_eq_true h2]
 simp (disch:=first|assumption|omega) only[Tryz.f84,pgs,pgl,pgx,pgf,Nat.reduceEqDiff,reduceIte,is9,bD,e1,e2,ixs,Int.reduceToNat]
 have g0:=zQ (l.getD 0 0) 97 122
 cases h3:bt (l.getD 0 0) 97 122<;>rw[h3] at g0
 ·refine aP _ g0 rfl rfl rfl rfl ?_
  simp only[pgs,pgl,pgx,pgf,Nat.reduceEqDiff,reduceIte,QQ]
  refine eU [] _ (aG _ _ _) .nil ?_ ?_
  ·simp only[pgs,pgl,pgx,pgf,Nat.reduceEqDiff,reduceIte]
  ·simp only[pgs,pgl,pgx,pgf,Nat.reduceEqDiff,reduceIte]
 refine aP _ g0 rfl rfl rfl rfl ?_
 simp only[pgs,pgl,pgx,pgf,Nat.reduceEqDiff,reduceIte,QQ,is9,bD]
 refine vO (fun i=>mkS [.c (.string (sB l)),.top,.top,.c (.int .i64 (i:Nat))] 0) (fun i=>i≤l.length∧(l.take i).all nmC=true) (fun i=>l.length-i) 0 [] [] ?_ ⟨Nat.zero_le _,rfl⟩ ?_
 ·refine jm ?_ .nil (Nat.le_refl _)
  simp only[pgs,pgl,pgx,pgf,gy,iL,dB,eY,fJ,Nat.reduceEqDiff,reduceIte,Nat.reduceAdd]
  exact of_eq_true (eY _ _ _)
 ·rintro i ⟨hi,hall⟩ s hs
  simp only[Dn,pgs,pgl,Nat.reduceAdd] at hs
  subst hs
  rcases Nat.lt_or_ge i l.length with hlt|hge
  ·have e4:decide ((i:Int)<(l.length:Int))=true:=decide_eq_true (by omega)
   simp (disch:=first|assumption|omega) only[pgs,pgl,pgx,pgf,Nat.reduceEqDiff,reduceIte,Nat.reduceAdd,is9,bD,e4,ixs,Int.toNat_natCast]
   generalize hcd:l.getD i 0=c
   have g1:=zQ c 97 122
   have g2:=zQ c 48 57
   have e5:((c:Int) != 45)=(c != 45):=neI c 45
   have e6:((c:Int) != 46)=(c != 46):=neI c 46
   cases b1:bt c 97 122<;>rw[b1] at g1
   ·refine aP _ g1 rfl rfl rfl rfl ?_
    simp (disch:=first|assumption|omega) only[pgs,pgl,pgx,pgf,Nat.reduceEqDiff,reduceIte,QQ,ixs,Int.toNat_natCast,hcd]
    cases b2:bt c 48 57<;>rw[b2] at g2
    ·refine aP _ g2 rfl rfl rfl rfl ?_
     cases b3:(c != 45)<;>rw[b3] at e5
     ·have hn:nmC (l.getD i 0)=true:=by
       rw[hcd];unfold nmC;rw[bne_eq_false_iff_eq] at b3;subst b3;rfl
      simp (disch:=first|assumption|omega) only[pgs,pgl,pgx,pgf,Nat.reduceEqDiff,reduceIte,QQ,ixs,Int.toNat_natCast,hcd,e5,ou,bu]
      refine bC (i+1) [] [] ⟨by omega,jQ hlt hall hn⟩ (by omega) (jm ?_ .nil (Nat.le_refl _))
      simp only[pgs,pgl,pgx,pgf,gy,iL,dB,eY,fJ,Nat.reduceEqDiff,reduceIte,Nat.reduceAdd,Int.natCast_add,Int.cast_ofNat_Int]
     ·cases b4:(c != 46)<;>rw[b4] at e6
      ·have hn:nmC (l.getD i 0)=true:=by
        rw[hcd];unfold nmC;rw[bne_eq_false_iff_eq] at b4;subst b4;rfl
       simp (disch:=first|assumption|omega) only[pgs,pgl,pgx,pgf,Nat.reduceEqDiff,reduceIte,QQ,ixs,Int.toNat_natCast,hcd,e5,e6,ou,bu]
       refine bC (i+1) [] [] ⟨by omega,jQ hlt hall hn⟩ (by omega) (jm ?_ .nil (Nat.le_refl _))
       simp only[pgs,pgl,pgx,pgf,gy,iL,dB,eY,fJ,Nat.reduceEqDiff,reduceIte,Nat.reduceAdd,Int.natCast_add,Int.cast_ofNat_Int]
      ·have hn:nmC (l.getD i 0)=false:=by
        rw[hcd];unfold nmC
        rw[bne_iff_ne] at b3 b4
        simp [b1,b2,b3,b4]
       rw[vS hlt hn]
       simp (disch:=first|assumption|omega) only[pgs,pgl,pgx,pgf,Nat.reduceEqDiff,reduceIte,QQ,ixs,Int.toNat_natCast,hcd,e5,e6,ou,rF]
       refine eU [] _ (aG _ _ _) .nil ?_ ?_
       ·simp only[pgs,pgl,pgx,pgf,Nat.reduceEqDiff,reduceIte]
       ·simp only[pgs,pgl,pgx,pgf,Nat.reduceEqDiff,reduceIte]
    ·have hn:nmC (l.getD i 0)=true:=by rw[hcd];unfold nmC;simp [b2]
     refine aP _ g2 rfl rfl rfl rfl ?_
     simp (disch:=first|assumption|omega) only[pgs,pgl,pgx,pgf,Nat.reduceEqDiff,reduceIte,QQ,ixs,Int.toNat_natCast,hcd,ou,bu]
     refine bC (i+1) [] [] ⟨by omega,jQ hlt hall hn⟩ (by omega) (jm ?_ .nil (Nat.le_refl _))
     simp only[pgs,pgl,pgx,pgf,gy,iL,dB,eY,fJ,Nat.reduceEqDiff,reduceIte,Nat.reduceAdd,Int.natCast_add,Int.cast_ofNat_Int]
   ·have hn:nmC (l.getD i 0)=true:=by rw[hcd];unfold nmC;simp [b1]
    refine aP _ g1 rfl rfl rfl rfl ?_
    simp (disch:=first|assumption|omega) only[pgs,pgl,pgx,pgf,Nat.reduceEqDiff,reduceIte,QQ,ixs,Int.toNat_natCast,hcd,ou,bu]
    refine bC (i+1) [] [] ⟨by omega,jQ hlt hall hn⟩ (by omega) (jm ?_ .nil (Nat.le_refl _))
    simp only[pgs,pgl,pgx,pgf,gy,iL,dB,eY,fJ,Nat.reduceEqDiff,reduceIte,Nat.reduceAdd,Int.natCast_add,Int.cast_ofNat_Int]
  ·have hil:i=l.length:=by omega
   subst hil
   rw[List.take_length] at hall
   rw[hall]
   have e4:decide ((l.length:Int)<(l.length:Int))=false:=decide_eq_false (by omega)
   simp only[pgs,pgl,pgx,pgf,Nat.reduceEqDiff,reduceIte,Nat.reduceAdd,is9,bD,e4,ny]
   refine eU [] _ (aG _ _ _) .nil ?_ ?_
   ·simp only[pgs,pgl,pgx,pgf,Nat.reduceEqDiff,reduceIte]
   ·simp only[pgs,pgl,pgx,pgf,Nat.reduceEqDiff,reduceIte]
theorem kV(l:List Nat):(fH l=true)=(1≤l.length∧l.length≤32):=by simp [fH]
theorem yx(l:List Nat):(fH l=false)=¬(1≤l.length∧l.length≤32):=by rw[←kV,Bool.not_eq_true]
theorem Ik{l:List Nat}(h:1≤l.length∧l.length≤32):fH l=true:=by rw[kV];exact h
def eF(l:List Nat)(n:Int):Int:=if 1≤l.length∧l.length≤32 then (if 1≤n∧n≤4294967295 then 0 else 5) else 7
theorem DD(l:List Nat)(n:Int):Gxx 180 [.agg [vs l,vi n]] (vi (eF l n)):=by
 refine gI oW Tryz.func180 Tryz.results180 ?_
 skip
 (repeat' first|refine wP trivial trivial ?_|refine cU (OY _) ?_|refine tX (aI @kV @yx) ?_ ?_<;>intro hc|fail)
 all_goals (refine rT [] ?_;first|rfl|simp only[pgo,simprocAttr]|skip)
 all_goals (unfold eF;(repeat' split)<;>first|rfl|omega)
theorem bZ(l:List Nat)(n:Int):Gxx 138 [.agg [vs l,vi n]] (vi (eF l n)):=by
 refine gI oW Tryz.func138 Tryz.results138 ?_
 (repeat' first|refine wP trivial trivial ?_|refine cU (uH _) ?_|refine tX (aI @kV @yx) ?_ ?_<;>intro hc|fail)
 all_goals (refine rT [] ?_;first|rfl|simp only[pgo,simprocAttr]|skip)
 all_goals (unfold eF;(repeat' split)<;>first|rfl|omega)
def inb(n a b:Int):Bool:=decide (a≤n)&&decide (n≤b)
theorem lS(n a b:Int):(inb n a b=true)=(a≤n∧n≤b):=by simp [inb]
theorem mi(n a b:Int):(inb n a b=false)=¬(a≤n∧n≤b):=by
 rw[←lS,Bool.not_eq_true]
theorem uI{n a b:Int}(h:a≤n∧n≤b):inb n a b=true:=by rw[lS];exact h
theorem jY{n a b:Int}(h:¬(a≤n∧n≤b)):inb n a b=false:=by rw[mi];exact h
theorem ZC(n a b:Int):Gxx 179 [vi n,vi a,vi b] (vb (inb n a b)):=by
 refine gI oW Tryz.func179 Tryz.results179 ?_
 by_cases h1:a≤n<;>by_cases h2:n≤b
 all_goals
  refine wS trivial trivial ?_
  (refine rT [] ?_;first|rfl|simp only[pgo,simprocAttr]|skip)
  try (rw[show inb n a b=_ from by first|exact uI ⟨h1,h2⟩|exact jY (by omega)])
theorem DF(n a b:Int):Gxx 139 [vi n,vi a,vi b] (vb (inb n a b)):=by
 refine gI oW Tryz.func139 Tryz.results139 ?_
 by_cases h1:a≤n<;>by_cases h2:n≤b
 all_goals
  refine wS trivial trivial ?_
  (refine rT [] ?_;first|rfl|simp only[pgo,simprocAttr]|skip)
  try (rw[show inb n a b=_ from by first|exact uI ⟨h1,h2⟩|exact jY (by omega)])
theorem fC(n a b:Int):Gxx 200 [vi n,vi a,vi b] (vb (inb n a b)):=by
 refine gI oW Tryz.func200 Tryz.results200 ?_
 by_cases h1:a≤n<;>by_cases h2:n≤b
 all_goals
  refine wS trivial trivial ?_
  (refine rT [] ?_;first|rfl|simp only[pgo,simprocAttr]|skip)
  try (rw[show inb n a b=_ from by first|exact uI ⟨h1,h2⟩|exact jY (by omega)])
def vp(k z d s:Int):Int :=
 if k=1 then (if z=0∧d=0∧s=0 then 0 else 10)
 else if k=2 then (if 1≤d∧d≤8∧1≤z∧z≤64 then 0 else 5)
 else if k=3 then (if 2≤z∧z≤8 then (if d=0 then 0 else 10) else 5)
 else if k=4∨k=5 then (if 1≤z∧z≤32 then (if d=0∧s=0 then 0 else 10) else 5)
 else if k=6 then (if 2≤z∧z≤32∧z%2=0 then (if d=0∧s=0 then 0 else 10) else 5)
 else 8
theorem Ri(a b:Int)(h:0≤a):a.tmod b=a%b:=Int.tmod_eq_emod_of_nonneg h
abbrev pV(k z d s:Int):List V:=[vi k,vi z,vi d,vu s]
theorem zS(k z d s:Int):Gxx 126 [.agg (pV k z d s)] (vi (vp k z d s)):=by
 refine gI oW Tryz.func126 Tryz.results126 ?_
 skip
 (repeat' first|refine wP @Ri trivial ?_|refine cU (ZC _ _ _) ?_|refine tX (aI @lS @mi) ?_ ?_<;>intro hc|fail)
 all_goals (refine rT [] ?_;first|rfl|simp only[pgo,simprocAttr]|skip)
 (all_goals (unfold vp;(repeat' split)<;>first|rfl|(exfalso;omega)))
theorem bg(k z d s:Int):Gxx 86 [.agg (pV k z d s)] (vi (vp k z d s)):=by
 refine gI oW Tryz.func86 Tryz.results86 ?_
 (repeat' first|refine wP @Ri trivial ?_|refine cU (DF _ _ _) ?_|refine tX (aI @lS @mi) ?_ ?_<;>intro hc|fail)
 all_goals (refine rT [] ?_;first|rfl|simp only[pgo,simprocAttr]|skip)
 (all_goals (unfold vp;(repeat' split)<;>first|rfl|(exfalso;omega)))
def bwE(n a b:Int):Int:=if n<a∨b<n then 5 else 0
theorem lT(n a b:Int):Gxx 129 [vi n,vi a,vi b] (vi (bwE n a b)):=by
 refine gI oW Tryz.func129 Tryz.results129 ?_
 (repeat' first|refine wP trivial trivial ?_|refine tS ?_ ?_<;>intro hc|fail)
 all_goals (refine rT [] ?_;first|rfl|simp only[pgo,simprocAttr]|skip)
 (all_goals (unfold bwE;(repeat' split)<;>first|rfl|(exfalso;omega)))
def nmE(l:List Nat):Int:=if jW l=true then 0 else 6
theorem OZ(l:List Nat)(ho:oct l):Gxx 124 [vs l] (vi (nmE l)):=by
 have h:=aiK l ho
 unfold nmE
 refine gI oW Tryz.func124 Tryz.results124 ?_
 cases hn:jW l<;>rw[hn] at h
 ·exact wR trivial h ah
 ·exact wR trivial h ah
def shE(l:List Nat)(m:Int):Int:=if m<l.length then 11 else 0
theorem Rj(l:List Nat)(m:Int):Gxx 128 [fzb l,vi m] (vi (shE l m)):=by
 refine gI oW Tryz.func128 Tryz.results128 ?_
 (repeat' first|refine wP @ax trivial ?_|refine tS ?_ ?_<;>intro hc|fail)
 all_goals (refine rT [] ?_;first|rfl|simp only[pgo,simprocAttr]|skip)
 (all_goals (unfold shE;(repeat' split)<;>first|rfl|(exfalso;omega)))
def sU{α:Type}(f:α→Int):List α→Int
 | []=>0
 | x::l=>if f x≠0 then f x else sU f l
theorem KJ{α:Type}(f:α→Int)(a b:List α)(h:sU f a=0):sU f (a++b)=sU f b:=by
 induction a with
 | nil=>rfl
 | cons x a ih =>
  simp only[sU,List.cons_append] at h ⊢
  by_cases hx:f x=0
  ·rw[if_neg (by omega)] at h ⊢;exact ih h
  ·rw[if_pos hx] at h;exact absurd h hx
theorem BN{α:Type}(f:α→Int)(l:List α)(i:Nat)(x:α)(hx:l[i]?=some x)(h:sU f (l.take i)=0)(hf:f x≠0):sU f l=f x:=by
 have hi:=(List.getElem?_eq_some_iff.1 hx).1
 have e:l=l.take i++x::l.drop (i+1):=by
  have h1:l.drop i=x::l.drop (i+1):=by rw[List.drop_eq_getElem_cons hi];simp [(List.getElem?_eq_some_iff.1 hx).2]
  rw[←h1,List.take_append_drop]
 rw[e,KJ f _ _ h]
 simp [sU,hf]
theorem vT{α:Type}(f:α→Int)(l:List α)(i:Nat)(x:α)(hx:l[i]?=some x)(h:sU f (l.take i)=0)(hf:f x=0):sU f (l.take (i+1))=0:=by
 have hi:=(List.getElem?_eq_some_iff.1 hx).1
 rw[List.take_succ_eq_append_getElem hi,KJ f _ _ h,(List.getElem?_eq_some_iff.1 hx).2]
 simp [sU,hf]
theorem getD_some{α:Type}(l:List α)(i:Nat)(d:α)(h:i<l.length):l[i]?=some (l.getD i d):=by simp [List.getD,h]
def lsE(l:List (List Nat)):Int:=if l.length<1∨16<l.length then 5 else sU nmE l
theorem aiL(l:List (List Nat))(ho:∀x∈l,oct x):Gxx 125 [fzs l] (vi (lsE l)):=by
 refine gI oW Tryz.func125 Tryz.results125 ?_
 have hb:=lT (l.length:Int) 1 16
 have hl:=au l
 unfold lsE
 by_cases hs:l.length<1∨16<l.length
 ·rw[show bwE (l.length:Int) 1 16=5 from if_pos (by omega)] at hb
  rw[if_pos hs]
  exact wR @au hb ah
 ·rw[show bwE (l.length:Int) 1 16=0 from if_neg (by omega)] at hb
  rw[if_neg hs]
  refine wS @au hb ?_
  refine aK (fun i:Nat=>mkA [(13,fzs l),(14,vi l.length),(15,vi i)] [] 0 (fun _ => .top)) (fun i=>i≤l.length∧sU nmE (l.take i)=0) (fun i=>l.length-i) 0 [] [] ?_ ⟨Nat.zero_le _,rfl⟩ ?_
  ·exact kE
  ·rintro i ⟨hi,he⟩
   rcases Nat.lt_or_ge i l.length with hlt|hge
   ·have hg:=iK l i hlt
    have hx:=getD_some l i [] hlt
    have hn:=OZ (l.getD i []) (ho _ (by rw[List.getD_eq_getElem?_getD,List.getElem?_eq_getElem hlt];exact List.getElem_mem hlt))
    have h1:=BN nmE l i _ hx he
    have h2:=vT nmE l i _ hx he
    generalize l.getD i []=x at hg hn h1 h2
    by_cases hn0:nmE x=0
    ·refine wS (aI @hg (aI @au @hn0)) hn ?_
     exact bE (i+1) [] [] ⟨hlt,h2 hn0⟩
    ·rw[h1 hn0]
     exact wR (aI @hg (aI @au @hn0)) hn ah
   ·have:i=l.length:=by omega
    subst this
    rw[List.take_length] at he
    rw[he]
    exact wR @au trivial ah
def EU(x:List Nat × Int):Int:=eF x.1 x.2
def itE(l:List (List Nat × Int)):Int:=if l.length<1∨64<l.length then 5 else sU EU l
theorem aeO(l:List (List Nat × Int)):Gxx 127 [fzt l] (vi (itE l)):=by
 refine gI oW Tryz.func127 Tryz.results127 ?_
 have hb:=lT (l.length:Int) 1 64
 have hl:=aB l
 unfold itE
 by_cases hs:l.length<1∨64<l.length
 ·rw[show bwE (l.length:Int) 1 64=5 from if_pos (by omega)] at hb
  rw[if_pos hs]
  exact wR @aB hb ah
 ·rw[show bwE (l.length:Int) 1 64=0 from if_neg (by omega)] at hb
  rw[if_neg hs]
  refine wS @aB hb ?_
  refine aK (fun i:Nat=>mkA [(13,fzt l),(14,vi l.length),(15,vi i)] [] 0 (fun _ => .top)) (fun i=>i≤l.length∧sU EU (l.take i)=0) (fun i=>l.length-i) 0 [] [] ?_ ⟨Nat.zero_le _,rfl⟩ ?_
  ·exact kE
  ·rintro i ⟨hi,he⟩
   rcases Nat.lt_or_ge i l.length with hlt|hge
   ·have hg:=sS l i hlt
    have hx:=getD_some l i ([],0) hlt
    have h1:=BN EU l i _ hx he
    have h2:=vT EU l i _ hx he
    generalize l.getD i ([],0)=x at hg h1 h2
    obtain⟨k,n⟩:=x
    have hn:=DD k n
    have hv:EU (k,n)=eF k n:=rfl
    rw[hv] at h1 h2
    by_cases hn0:eF k n=0
    ·refine wS (aI @hg (aI @aB @hn0)) hn ?_
     exact bE (i+1) [] [] ⟨hlt,h2 hn0⟩
    ·rw[h1 hn0]
     exact wR (aI @hg (aI @aB @hn0)) hn ah
   ·have:i=l.length:=by omega
    subst this
    rw[List.take_length] at he
    rw[he]
    exact wR @aB trivial ah
def vq(k:Int)(key:List Nat)(c n d:Int):Int :=
 if k<1∨7<k then 8 else
 if (k=2∨k=6)∧¬(1≤key.length∧key.length≤32) then 7 else
 if k=5∧(c<0∨32<c) then 5 else
 if k=7∧(d<1∨1000000<d∨n<0∨d<n) then 5 else
 if (¬(k=2∨k=6)∧0<key.length)∨(k≠5∧c≠0)∨(k≠7∧(n≠0∨d≠0)) then 18 else 0
def bJ(k:Int):List Int :=
 if k=1 then [0,3] else if k=2 then [0] else if k=3 then [0,1] else if k=5 then [0,12] else if k=6 then [0,4,5] else if k=7 then [0,1,5] else if k=8 then [0,1,5,6,7] else if k=9 then [2]
 else if k=10 then [8,9,12] else if k=11 then [8] else if k=12∨k=15 then [8,9] else if k=13 then [10,11] else if k=14 then [10] else if k=16 then [0,13] else []
def aot(k:Int):V:=if k=4∨k=17 then .sl .nn 1 [] else if k<1∨17<k then nls else .sl (.own 0 3) 1 (iv (bJ k))
theorem aiM(k:Int):Gxx 72 [vi k] (aot k):=by
 refine gI oW Tryz.func72 Tryz.results72 ?_
 (repeat' first|refine wP trivial trivial ?_|refine tS ?_ ?_<;>intro hc|fail)
 all_goals (refine rT [0] ?_;first|rfl|simp only[pgo,simprocAttr]|skip)
 all_goals first|(subst_vars;rfl)|(rw[aot,if_neg (by omega),if_pos (by omega)])
def chk(o:O):Nat→Int
 | 0=>nmE o.name
 | 1=>nmE o.other
 | 2=>lsE o.names
 | 3=>vp o.pk o.pz o.pd o.ps
 | 4=>itE o.items
 | 5=>shE o.coins 64
 | 6=>bwE o.exp 1 1048576
 | 7=>bwE o.src 1 1048576
 | 8=>bwE o.hnd 0 3
 | 9=>bwE o.idx 0 15
 | 10=>bwE o.cur 0 3
 | 11=>bwE o.cnt 0 32
 | 12=>vq o.qk o.qkey o.qc o.qn o.qd
 | _=>shE o.data 65536
def O.Oct(o:O):Prop:=oct o.name∧oct o.other∧(∀x∈o.names,oct x)∧(∀x∈o.items,oct x.1)∧oct o.coins∧oct o.qkey∧oct o.data
theorem aeP(k:Int)(key:List Nat)(c n d:Int):Gxx 130 [.agg [vi k,vs key,vi c,vi n,vi d]] (vi (vq k key c n d)):=by
 refine gI oW Tryz.func130 Tryz.results130 ?_
 skip
 (repeat' first|refine wP @kG trivial ?_|refine cU (OY _) ?_|refine tX (aI @kV @yx) ?_ ?_<;>intro hc|fail)
 all_goals (refine rT [] ?_;first|rfl|simp only[pgo,simprocAttr]|skip)
 (all_goals (unfold vq;(repeat' split)<;>first|rfl|(exfalso;omega)))
theorem ZE(o:O)(ho:o.Oct):Gxx 73 [.agg (opF o),vi 0] (vi (chk o 0)):=by
 refine gI oW Tryz.func73 Tryz.results73 ?_
 (repeat' first|refine wP trivial trivial ?_|refine cU (OZ _ ho.1) ?_|refine tS ?_ ?_<;>intro hc|fail)
 exact rE []
theorem ZF(o:O)(ho:o.Oct):Gxx 73 [.agg (opF o),vi 1] (vi (chk o 1)):=by
 refine gI oW Tryz.func73 Tryz.results73 ?_
 (repeat' first|refine wP trivial trivial ?_|refine cU (OZ _ ho.2.1) ?_|refine tS ?_ ?_<;>intro hc|fail)
 exact rE []
theorem ZG(o:O)(ho:o.Oct):Gxx 73 [.agg (opF o),vi 2] (vi (chk o 2)):=by
 refine gI oW Tryz.func73 Tryz.results73 ?_
 (repeat' first|refine wP trivial trivial ?_|refine cU (aiL _ ho.2.2.1) ?_|refine tS ?_ ?_<;>intro hc|fail)
 exact rE []
theorem ZH(o:O)(ho:o.Oct):Gxx 73 [.agg (opF o),vi 3] (vi (chk o 3)):=by
 refine gI oW Tryz.func73 Tryz.results73 ?_
 (repeat' first|refine wP trivial trivial ?_|refine cU (zS _ _ _ _) ?_|refine tS ?_ ?_<;>intro hc|fail)
 exact rE []
theorem ZI(o:O)(ho:o.Oct):Gxx 73 [.agg (opF o),vi 4] (vi (chk o 4)):=by
 refine gI oW Tryz.func73 Tryz.results73 ?_
 (repeat' first|refine wP trivial trivial ?_|refine cU (aeO _) ?_|refine tS ?_ ?_<;>intro hc|fail)
 exact rE []
theorem ZJ(o:O)(ho:o.Oct):Gxx 73 [.agg (opF o),vi 5] (vi (chk o 5)):=by
 refine gI oW Tryz.func73 Tryz.results73 ?_
 (repeat' first|refine wP trivial trivial ?_|refine cU (Rj _ _) ?_|refine tS ?_ ?_<;>intro hc|fail)
 exact rE []
theorem ZK(o:O)(ho:o.Oct):Gxx 73 [.agg (opF o),vi 6] (vi (chk o 6)):=by
 refine gI oW Tryz.func73 Tryz.results73 ?_
 (repeat' first|refine wP trivial trivial ?_|refine cU (lT _ _ _) ?_|refine tS ?_ ?_<;>intro hc|fail)
 exact rE []
theorem ZL(o:O)(ho:o.Oct):Gxx 73 [.agg (opF o),vi 7] (vi (chk o 7)):=by
 refine gI oW Tryz.func73 Tryz.results73 ?_
 (repeat' first|refine wP trivial trivial ?_|refine cU (lT _ _ _) ?_|refine tS ?_ ?_<;>intro hc|fail)
 exact rE []
theorem ZM(o:O)(ho:o.Oct):Gxx 73 [.agg (opF o),vi 8] (vi (chk o 8)):=by
 refine gI oW Tryz.func73 Tryz.results73 ?_
 (repeat' first|refine wP trivial trivial ?_|refine cU (lT _ _ _) ?_|refine tS ?_ ?_<;>intro hc|fail)
 exact rE []
theorem ZN(o:O)(ho:o.Oct):Gxx 73 [.agg (opF o),vi 9] (vi (chk o 9)):=by
 refine gI oW Tryz.func73 Tryz.results73 ?_
 (repeat' first|refine wP trivial trivial ?_|refine cU (lT _ _ _) ?_|refine tS ?_ ?_<;>intro hc|fail)
 exact rE []
theorem U7(o:O)(ho:o.Oct):Gxx 73 [.agg (opF o),vi 10] (vi (chk o 10)):=by
 refine gI oW Tryz.func73 Tryz.results73 ?_
 (repeat' first|refine wP trivial trivial ?_|refine cU (lT _ _ _) ?_|refine tS ?_ ?_<;>intro hc|fail)
 exact rE []
theorem U8(o:O)(ho:o.Oct):Gxx 73 [.agg (opF o),vi 11] (vi (chk o 11)):=by
 refine gI oW Tryz.func73 Tryz.results73 ?_
 (repeat' first|refine wP trivial trivial ?_|refine cU (lT _ _ _) ?_|refine tS ?_ ?_<;>intro hc|fail)
 exact rE []
theorem U9(o:O)(ho:o.Oct):Gxx 73 [.agg (opF o),vi 12] (vi (chk o 12)):=by
 refine gI oW Tryz.func73 Tryz.results73 ?_
 (repeat' first|refine wP trivial trivial ?_|refine cU (aeP _ _ _ _ _) ?_|refine tS ?_ ?_<;>intro hc|fail)
 exact rE []
theorem Va(o:O)(ho:o.Oct):Gxx 73 [.agg (opF o),vi 13] (vi (chk o 13)):=by
 refine gI oW Tryz.func73 Tryz.results73 ?_
 (repeat' first|refine wP trivial trivial ?_|refine cU (Rj _ _) ?_|refine tS ?_ ?_<;>intro hc|fail)
 exact rE []
theorem Rl(o:O)(ho:o.Oct)(f:Nat)(hf:f<14):Gxx 73 [.agg (opF o),vi f] (vi (chk o f)):=by
 match f,hf with
 | 0,_=>exact ZE o ho
 | 1,_=>exact ZF o ho
 | 2,_=>exact ZG o ho
 | 3,_=>exact ZH o ho
 | 4,_=>exact ZI o ho
 | 5,_=>exact ZJ o ho
 | 6,_=>exact ZK o ho
 | 7,_=>exact ZL o ho
 | 8,_=>exact ZM o ho
 | 9,_=>exact ZN o ho
 | 10,_=>exact U7 o ho
 | 11,_=>exact U8 o ho
 | 12,_=>exact U9 o ho
 | 13,_=>exact Va o ho
end Go.Proofs.YtjiolbcdfgclaaaGreatDoor
