/-
  Texts of this claim, merged; own names are short.
-/
import Derived.Test.YtjiolbcdfgclaaaGreatDoorWAV
import Derived.Test.YtjiolbcdfgclaaaGreatDoorWAU
import Derived.Shelf.LaysC
import Derived.Shelf.Strconv.ToError
import Derived.Shelf.Strconv.ToErrorRange
import Derived.Test.YtjiolbcdfgclaaaGreatDoorProg
import Derived.Laws.BitsLemmas
import Derived.Test.YtjiolbcdfgclaaaGreatDoorWAR
set_option linter.unusedVariables false
set_option linter.unusedSimpArgs false
set_option linter.unusedSectionVars false
set_option linter.defProp false
set_option maxRecDepth 100000
set_option maxHeartbeats 8000000
section
namespace Go.Proofs.YtjiolbcdfgclaaaGreatDoor
open Go Go.ChangeShapes Go.WideShapes Go.ChangeAt Go.RowKit
section
variable {H:Type} {enc:TypeId × Value→H} {w:World} {base:Nat} {spare:Nat→Bool} {held:Bool}
theorem ao2:Pg.Elem enc Tryz.prog w base spare held 3 1 Wt (fun n=>Pg.V.c (.int .i64 n)) (fun n=>[Value.int .i64 n]) where
 pos:=by decide
 cells:=by kernel_rfl
 len:=fun _=>rfl
 get:=fun n cs x h=>by
  obtain⟨m,rfl,_,hw⟩:=DataW.trod_int Tryz.underlying3 h
  exact⟨m,aox hw,rfl⟩
 rep:=fun n L w'=>⟨.int .i64 n,by simp [Value.cells],rfl,⟨rfl,rfl⟩,rfl⟩
theorem ci:Tryz.prog.cellsOf 3=1:=by kernel_rfl
abbrev LW(w:World):Pg.Lay:=⟨fun g=>g<w.heap.size,fun _=>none,fun _=>none⟩
theorem aoS{n:Nat}{v:Value}{a:Option Addr}{len cap:Nat}{x:DataW H × List MemPlace}(hv:v = .slice a len cap)(h:DataW.trod enc Tryz.prog w base spare held n 22 v.cells.toList=some x):∃l:List Int,l.length≤9223372036854775807∧Pg.Rep (LW w) w (fzi l) v:=by
 subst hv
 obtain⟨l,hl,u,e,r⟩:=Pg.ao9 ao2 Tryz.underlying22 h
 have hu:u = .slice a len cap:=by simp [Value.cells] at e;exact e.symm
 subst hu
 refine⟨l, ?_,r⟩
 obtain⟨b,c,row,h1,_,h2,_⟩:=r
 injection h1 with h1 h3 h4
 have hll:(List.map (fun n=>Pg.V.c (.int .i64 n)) l).length=l.length:=List.length_map ..
 rcases DataW.trod_slice Tryz.underlying22 h with ⟨g,_⟩|⟨a',len',cap',_,_,_,_,g,_,_,g2,g3,_⟩
 ·simp [Value.cells] at g
  omega
 ·simp [Value.cells] at g
  have:maxLen=9223372036854775807:=rfl
  omega
end
end Go.Proofs.YtjiolbcdfgclaaaGreatDoor
end
section
namespace Go.Proofs.YtjiolbcdfgclaaaGreatDoor
open Go Go.Pg
variable {e:Nat→V} {bx:Nat→Option (TypeId × List V)} {n:Nat} {h:Nat→V}
def PV(w:List Nat):List (List Nat)→Nat→Nat
 | [],_=>0
 | x::r,s=>if x=w then s else PV w r (s+1)
def wix(L:List (List Nat))(w:List Nat):Nat:=PV w L.tail 1
theorem agr(w:List Nat):∀(l:List (List Nat)) (s i:Nat),i<l.length→l.getD i []=w→(∀j,j<i→l.getD j []≠w)→PV w l s=s+i:=by
 intro l
 induction l with
 | nil=>intro s i h;simp at h
 | cons x r ih =>
  intro s i h1 h2 h3
  unfold PV
  cases i with
  | zero=>rw[if_pos (by simpa using h2)];rfl
  | succ i =>
   rw[if_neg (by have:=h3 0 (by omega);simpa using this),ih (s+1) i (by simpa using h1) (by simpa using h2) (fun j hj=>by have:=h3 (j+1) (by omega);simpa using this)]
   omega
theorem ags(w:List Nat):∀(l:List (List Nat)) (s:Nat),(∀j,j<l.length→l.getD j []≠w)→PV w l s=0:=by
 intro l
 induction l with
 | nil=>intro s _;rfl
 | cons x r ih =>
  intro s h
  unfold PV
  rw[if_neg (by have:=h 0 (by simp);simpa using this),ih (s+1) (fun j hj=>by have:=h (j+1) (by simpa using hj);simpa using this)]
theorem Wn(w:List Nat):∀(l:List (List Nat)) (s:Nat),PV w l s=0∨(s≤PV w l s∧PV w l s<s+l.length∧l.getD (PV w l s-s) []=w):=by
 intro l
 induction l with
 | nil=>intro s;exact .inl rfl
 | cons x r ih =>
  intro s
  unfold PV
  split
  ·rename_i hx
   refine .inr ⟨Nat.le_refl _,by simp,by rw[Nat.sub_self];simpa using hx⟩
  ·rcases ih (s+1) with h|⟨h1,h2,h3⟩
   ·exact .inl h
   ·refine .inr ⟨by omega,by simp only[List.length_cons];omega, ?_⟩
    have:PV w r (s+1)-s=(PV w r (s+1)-(s+1))+1:=by omega
    rw[this,List.getD_cons_succ]
    exact h3
theorem MK(L:List (List Nat))(j:Nat):L.tail.getD j []=L.getD (j+1) []:=by cases L<;>simp
theorem amc{L:List (List Nat)}{w:List Nat}{i:Nat}(h1:1≤i)(h2:i<L.length)(h3:L.getD i []=w)(h4:∀j,j<i→1≤j→L.getD j []≠w):wix L w=i:=by
 have:=agr w L.tail 1 (i-1) (by simp only[List.length_tail];omega) (by rw[MK];rw[show i-1+1=i by omega];exact h3) (fun j hj=>by rw[MK];exact h4 (j+1) (by omega) (by omega))
 unfold wix
 omega
theorem amd{L:List (List Nat)}{w:List Nat}(h4:∀j,j<L.length→1≤j→L.getD j []≠w):wix L w=0 :=
 ags w L.tail 1 (fun j hj=>by rw[MK];exact h4 (j+1) (by simp only[List.length_tail] at hj;omega) (by omega))
theorem GK{L:List (List Nat)}(w:List Nat)(h:1≤L.length):wix L w<L.length:=by
 rcases Wn w L.tail 1 with h1|h1
 ·unfold wix;omega
 ·have:=h1.2.1;simp only[List.length_tail] at this;unfold wix;omega
theorem Wp{L:List (List Nat)}{w:List Nat}{k:Nat}(hk:wix L w=k)(h:1≤k):L.getD k []=w:=by
 subst hk
 unfold wix at h ⊢
 rcases Wn w L.tail 1 with h1|⟨h1,_,h3⟩
 ·omega
 ·rw[MK] at h3
  rwa [show PV w L.tail 1-1+1=PV w L.tail 1 by omega] at h3
theorem Wq(b:Nat){l:List (List Nat)}{bad:Bool}(L:List (List Nat)){tg:Tag}(hb:bx b=some (108,rdC l bad))(hl:l.length≤1000000)(ho:oct (hdW l))(hLo:∀x∈L,oct x)(hLl:1≤L.length∧L.length≤1000) :
  Gxz 92 [.ref b 0,.sl tg 1 (sv L)] ⟨e,bx,n,h⟩ ⟨e,upd bx b (some (108,rdC l.tail ((bad||l.isEmpty)||decide (wix L (hdW l)=0)))),n,h⟩ (vi (wix L (hdW l):Nat)):=by
 have hx:=au L
 have hw:=Ec e bx n h b l bad hb hl
 refine gZ oW Tryz.func92 Tryz.results92 ?_
 (repeat' first|refine wP (aI @iQ (aI @dm (aI @bI @hb))) trivial ?_|refine cZ (Ec _ _ _ _ b l bad hb hl) ?_|refine tS ?_ ?_<;>intro hc|fail)
 generalize (bad||l.isEmpty)=d
 generalize hdW l=w at ho ⊢
 clear hw
 refine OM (fun i:Nat=>[(0,.ref b 0),(1,.sl tg 1 (sv L)),(5,vs w),(6,vi i)]) (fun _=>upd bx b (some (108,rdC l.tail d))) (fun _=>n) (fun i=>1≤i∧i≤L.length∧∀j,j<i→1≤j→L.getD j []≠w) (fun i=>L.length-i) 1 ?_ (fun _ => .inl rfl) (Nat.le_refl _) ⟨Nat.le_refl _,hLl.1,fun j h1 h2=>by omega⟩ ?_
 ·((try simp only[kF,lQ,lD,mf,pgo,simprocAttr,and_true,true_and]);try (repeat' (first|exact trivial|rfl|apply aI)))
 ·rintro i ⟨h1,h2,h3⟩
  rcases Nat.lt_or_ge i L.length with hlt|hge
  ·have hg:=iK L i hlt
   have hoi:oct (L.getD i []):=hLo _ (by rw[List.getD_eq_getElem?_getD,List.getElem?_eq_getElem hlt];exact List.getElem_mem hlt)
   by_cases hik:L.getD i []=w
   ·have hwi:=amc h1 hlt hik h3
    have hz:decide (i=0)=false:=decide_eq_false (by omega)
    rw[hwi,hz,Bool.or_false]
    rw[hik] at hg
    refine wS (aI @hg (aI @hx (aI @DY @dm))) trivial ?_
    refine lh (aG _ _ _) ?_
    rw[dJ,dK]
   ·have hni:=ajr hoi ho hik
    have hnx:∀j,j<i+1→1≤j→L.getD j []≠w:=fun j hj h1=>by
     by_cases hji:j=i
     ·rw[hji];exact hik
     ·exact h3 j (by omega) h1
    generalize L.getD i []=v at hg hoi hni
    refine wS (aI @hg (aI @hx @hni)) trivial ?_
    refine Dz (i+1) ⟨by omega,by omega,hnx⟩ (by omega) ?_ (fun _ => .inl rfl) (Nat.le_refl _)
    ((try simp only[kF,lQ,lD,mf,pgo,simprocAttr,and_true,true_and]);try (repeat' (first|exact trivial|rfl|apply aI)))
  ·have hwi:wix L w=0:=amd (fun j hj hj1=>h3 j (by omega) hj1)
   have hz:(d||decide ((0:Nat)=0))=true:=by simp
   rw[hwi,hz]
   refine wS (aI @hx @dm) trivial ?_
   refine lh (aG _ _ _) ?_
   rw[dJ,dK,jG]
theorem fV(L:List (List Nat))(b k:Nat){l:List (List Nat)}{bad:Bool}{tg:Tag}(hj:wix L (hdW l)=k)(hb:bx b=some (108,rdC l bad):=by exact hQ)(hl:l.length≤1000000:=by exact hT)(ho:oct (hdW l):=by exact hO)(hLo:∀x∈L,oct x:=by first|exact Pq|exact aj0|exact ajE)(hLl:1≤L.length∧L.length≤1000:=by decide)(hk:1≤k:=by decide) :
  Gxz 92 [.ref b 0,.sl tg 1 (sv L)] ⟨e,bx,n,h⟩ ⟨e,upd bx b (some (108,rdC l.tail (bad||l.isEmpty))),n,h⟩ (vi k):=by
 have:=Wq (e:=e) (n:=n) (h:=h) b L (tg:=tg) hb hl ho hLo hLl
 rw[hj] at this
 rwa [decide_eq_false (show ¬k=0 by omega),Bool.or_false] at this
theorem fV0(L:List (List Nat))(b:Nat){l:List (List Nat)}{bad:Bool}{tg:Tag}(hj:wix L (hdW l)=0)(hb:bx b=some (108,rdC l bad):=by exact hQ)(hl:l.length≤1000000:=by exact hT)(ho:oct (hdW l):=by exact hO)(hLo:∀x∈L,oct x:=by first|exact Pq|exact aj0|exact ajE)(hLl:1≤L.length∧L.length≤1000:=by decide) :
  Gxz 92 [.ref b 0,.sl tg 1 (sv L)] ⟨e,bx,n,h⟩ ⟨e,upd bx b (some (108,rdC l.tail true)),n,h⟩ (vi 0):=by
 have:=Wq (e:=e) (n:=n) (h:=h) b L (tg:=tg) hb hl ho hLo hLl
 rw[hj] at this
 rwa [decide_eq_true rfl,Bool.or_true] at this
end Go.Proofs.YtjiolbcdfgclaaaGreatDoor
end
section
namespace Go.Proofs
open Go.Shelf
def Tryz.laysC245_ren:Go.Shelf.Ren:=⟨fun|245=>226|279=>247|280=>248|281=>249|282=>250|316=>256|171=>75|205=>257|243=>131|246=>181|283=>182|284=>183|285=>184|286=>185|129=>221|317=>220|318=>222|319=>223|320=>224|337=>243|338=>244|n=>n,fun|9=>9|3=>3|75=>117|167=>273|4=>4|168=>275|210=>285|37=>28|0=>0|127=>152|145=>293|143=>291|2=>2|171=>219|53=>24|5=>5|173=>222|212=>256|51=>197|20=>20|213=>257|46=>45|232=>282|233=>283|80=>121|n=>n,fun|15=>4|16=>5|17=>0|18=>2|19=>3|n=>n⟩
theorem Tryz.laysC245:Go.Proofs.LaysC.n245 Tryz.prog Tryz.laysC245_ren:={
 mixed:=by kernel_rfl
 f129:=Tryz.func221.trans (congrArg some (by kernel_rfl))
 f171:=Tryz.func75.trans (congrArg some (by kernel_rfl))
 f205:=Tryz.func257.trans (congrArg some (by kernel_rfl))
 f243:=Tryz.func131.trans (congrArg some (by kernel_rfl))
 f245:=Tryz.func226.trans (congrArg some (by kernel_rfl))
 f246:=Tryz.func181.trans (congrArg some (by kernel_rfl))
 f279:=Tryz.func247.trans (congrArg some (by kernel_rfl))
 f280:=Tryz.func248.trans (congrArg some (by kernel_rfl))
 f281:=Tryz.func249.trans (congrArg some (by kernel_rfl))
 f282:=Tryz.func250.trans (congrArg some (by kernel_rfl))
 f283:=Tryz.func182.trans (congrArg some (by kernel_rfl))
 f284:=Tryz.func183.trans (congrArg some (by kernel_rfl))
 f285:=Tryz.func184.trans (congrArg some (by kernel_rfl))
 f286:=Tryz.func185.trans (congrArg some (by kernel_rfl))
 f316:=Tryz.func256.trans (congrArg some (by kernel_rfl))
 f317:=Tryz.func220.trans (congrArg some (by kernel_rfl))
 f318:=Tryz.func222.trans (congrArg some (by kernel_rfl))
 f319:=Tryz.func223.trans (congrArg some (by kernel_rfl))
 f320:=Tryz.func224.trans (congrArg some (by kernel_rfl))
 f337:=Tryz.func243.trans (congrArg some (by kernel_rfl))
 f338:=Tryz.func244.trans (congrArg some (by kernel_rfl))
 t0:=Tryz.underlying0
 a0:=Tryz.isAgg0
 z0:=Tryz.sizeOf0
 v0:=Tryz.zeroValue0
 t2:=Tryz.underlying2
 a2:=Tryz.isAgg2
 z2:=Tryz.sizeOf2
 v2:=Tryz.zeroValue2
 t3:=Tryz.underlying3
 a3:=Tryz.isAgg3
 z3:=Tryz.sizeOf3
 v3:=Tryz.zeroValue3
 t4:=Tryz.underlying4
 a4:=Tryz.isAgg4
 z4:=Tryz.sizeOf4
 v4:=Tryz.zeroValue4
 t5:=Tryz.underlying5
 a5:=Tryz.isAgg5
 z5:=Tryz.sizeOf5
 v5:=Tryz.zeroValue5
 t9:=Tryz.underlying9
 a9:=Tryz.isAgg9
 z9:=Tryz.sizeOf9
 v9:=Tryz.zeroValue9
 t20:=Tryz.underlying20
 a20:=Tryz.isAgg20
 z20:=Tryz.sizeOf20
 v20:=Tryz.zeroValue20
 t37:=Tryz.underlying28
 a37:=Tryz.isAgg28
 z37:=Tryz.sizeOf28
 v37:=Tryz.zeroValue28
 t46:=Tryz.underlying45
 a46:=Tryz.isAgg45
 z46:=Tryz.sizeOf45
 v46:=Tryz.zeroValue45
 t51:=Tryz.underlying197
 a51:=Tryz.isAgg197
 z51:=Tryz.sizeOf197
 v51:=Tryz.zeroValue197
 t53:=Tryz.underlying24
 a53:=Tryz.isAgg24
 z53:=Tryz.sizeOf24
 v53:=Tryz.zeroValue24
 t75:=Tryz.underlying117
 a75:=Tryz.isAgg117
 z75:=Tryz.sizeOf117
 v75:=Tryz.zeroValue117
 t127:=Tryz.underlying152
 a127:=Tryz.isAgg152
 z127:=Tryz.sizeOf152
 v127:=Tryz.zeroValue152
 t143:=Tryz.underlying291
 a143:=Tryz.isAgg291
 z143:=Tryz.sizeOf291
 v143:=Tryz.zeroValue291
 t145:=Tryz.underlying293
 a145:=Tryz.isAgg293
 z145:=Tryz.sizeOf293
 v145:=Tryz.zeroValue293
 t167:=Tryz.underlying273
 a167:=Tryz.isAgg273
 z167:=Tryz.sizeOf273
 v167:=Tryz.zeroValue273
 t168:=Tryz.underlying275
 a168:=Tryz.isAgg275
 z168:=Tryz.sizeOf275
 v168:=Tryz.zeroValue275
 t171:=Tryz.underlying219
 a171:=Tryz.isAgg219
 z171:=Tryz.sizeOf219
 v171:=Tryz.zeroValue219
 t173:=Tryz.underlying222
 a173:=Tryz.isAgg222
 z173:=Tryz.sizeOf222
 v173:=Tryz.zeroValue222
 t210:=Tryz.underlying285
 a210:=Tryz.isAgg285
 z210:=Tryz.sizeOf285
 v210:=Tryz.zeroValue285
 t212:=Tryz.underlying256
 a212:=Tryz.isAgg256
 z212:=Tryz.sizeOf256
 v212:=Tryz.zeroValue256
 t213:=Tryz.underlying257
 a213:=Tryz.isAgg257
 z213:=Tryz.sizeOf257
 t232:=Tryz.underlying282
 a232:=Tryz.isAgg282
 z232:=Tryz.sizeOf282
 v232:=Tryz.zeroValue282
 t233:=Tryz.underlying283
 a233:=Tryz.isAgg283
 z233:=Tryz.sizeOf283
 v233:=Tryz.zeroValue283
 g15:=by kernel_rfl
 g16:=by kernel_rfl
 g17:=by kernel_rfl
 g18:=by kernel_rfl
 g19:=by kernel_rfl
 t80:=Tryz.underlying121
 a80:=Tryz.isAgg121
 z80:=Tryz.sizeOf121
 v80:=Tryz.zeroValue121
 i0:=by kernel_rfl
 i2:=by kernel_rfl
 i3:=by kernel_rfl
 i4:=by kernel_rfl
 i5:=by kernel_rfl
 i9:=by kernel_rfl
 i20:=by kernel_rfl
 i37:=by kernel_rfl
 i46:=by kernel_rfl
 i51:=by kernel_rfl
 i53:=by kernel_rfl
 i75:=by kernel_rfl
 i80:=by kernel_rfl
 i127:=by kernel_rfl
 i143:=by kernel_rfl
 i145:=by kernel_rfl
 i167:=by kernel_rfl
 i168:=by kernel_rfl
 i171:=by kernel_rfl
 i173:=by kernel_rfl
 i210:=by kernel_rfl
 i212:=by kernel_rfl
 i232:=by kernel_rfl
 i233:=by kernel_rfl
 m15:=by kernel_rfl
 m16:=by kernel_rfl
 m17:=by kernel_rfl
 m18:=by kernel_rfl
 m19:=by kernel_rfl
 c0:=by kernel_rfl
 c2:=by kernel_rfl
 c3:=by kernel_rfl
 c4:=by kernel_rfl
 c5:=by kernel_rfl
 c9:=by kernel_rfl
 c20:=by kernel_rfl
 c37:=by kernel_rfl
 c46:=by kernel_rfl
 c51:=by kernel_rfl
 c53:=by kernel_rfl
 c75:=by kernel_rfl
 c80:=by kernel_rfl
 c127:=by kernel_rfl
 c143:=by kernel_rfl
 c145:=by kernel_rfl
 c167:=by kernel_rfl
 c168:=by kernel_rfl
 c171:=by kernel_rfl
 c173:=by kernel_rfl
 c210:=by kernel_rfl
 c212:=by kernel_rfl
 c213:=by kernel_rfl
 c232:=by kernel_rfl
 c233:=by kernel_rfl }
open Go.RowKit in
theorem Tryz.strconv_toError_syntax(fn s:ByteArray)(base bits:Int)(ev:Value)(w:World)(hlim:s.size≤281474976710656)(hv:w.cell? ⟨4,0,none⟩=some ev)(hev:ev = .nilIface∨∃te pe,ev = .iface te pe) :
  Calls Tryz.prog 226 #[.string fn,.string s,.int .i64 base,.int .i64 bits,.iface 273 (.int .i64 2)] w fun e w'=>∃N,e = .returned (.iface 275 (.pointer (some ⟨N,0,none⟩)))∧w.heap.size≤N∧w'.heap[N]?=some (.cells #[.string fn,.string s,ev] 285 (0,0))∧Below w.heap.size w w':=Any.strconv_toError_syntax Tryz.laysC245 fn s base bits ev w hlim hv hev
open Go.RowKit in
theorem Tryz.strconv_toError_range(fn s:ByteArray)(base bits:Int)(ev:Value)(w:World)(hlim:s.size≤281474976710656)(hv:w.cell? ⟨5,0,none⟩=some ev)(hev:ev = .nilIface∨∃te pe,ev = .iface te pe) :
  Calls Tryz.prog 226 #[.string fn,.string s,.int .i64 base,.int .i64 bits,.iface 273 (.int .i64 1)] w fun e w'=>∃N,e = .returned (.iface 275 (.pointer (some ⟨N,0,none⟩)))∧w.heap.size≤N∧w'.heap[N]?=some (.cells #[.string fn,.string s,ev] 285 (0,0))∧Below w.heap.size w w':=Any.strconv_toError_range Tryz.laysC245 fn s base bits ev w hlim hv hev
end Go.Proofs
end
namespace Go.Proofs.YtjiolbcdfgclaaaGreatDoor
open Go Go.Pg
def lwc(c:Nat):Nat:=c ||| 32
def dvx(c:Nat):Nat:=if 48≤c∧c≤57 then c-48 else if 97≤lwc c∧lwc c≤122 then lwc c-87 else 99
def puA:List Nat→Nat→Nat × Nat
 | [],n=>(n,0)
 | c::r,n=>if 16≤dvx c then (0,2) else if 1152921504606846976≤n then (18446744073709551615,1) else puA r (n*16+dvx c)
def pu(w:List Nat):Nat × Nat:=if w=[] then (0,2) else puA w 0
theorem ame:∀(w:List Nat) (n:Nat),n<18446744073709551616→(puA w n).1<18446744073709551616:=by
 intro w
 induction w with
 | nil=>intro n h;exact h
 | cons c r ih =>
  intro n h
  unfold puA
  split
  ·decide
  ·split
   ·decide
   ·exact ih _ (by omega)
theorem ach(w:List Nat):(pu w).1<18446744073709551616:=by
 unfold pu
 split
 ·decide
 ·exact ame w 0 (by decide)
theorem VQ{w:List Nat}{i n:Nat}(h:i<w.length):puA (w.drop i) n=if 16≤dvx (w.getD i 0) then (0,2) else if 1152921504606846976≤n then (18446744073709551615,1) else puA (w.drop (i+1)) (n*16+dvx (w.getD i 0)):=by
 rw[List.drop_eq_getElem_cons h]
 simp [puA,List.getD,h]
theorem aqu(c:Nat)(h:c<256):bits .or .u8 ((c:Nat):Int) 32=((c ||| 32:Nat):Int):=(bits_nat .u8 8 (by decide) wraps_u8 c 32 h (by decide)).2
theorem amf(c:Nat)(h:c<256):lwc c<256:=Nat.or_lt_two_pow (n:=8) h (by decide)
theorem aci(c:Nat)(h:c<256):Gxx 245 [.c (.int .u8 (c:Int))] (.c (.int .u8 ((lwc c:Nat):Int))):=by
 have h1:=aqu c h
 refine gI oW Tryz.func245 Tryz.results245 ?_
 exact wR @h1 trivial ah
def abm(e:Nat):V:=if e=0 then .c .nilIface else .c (.iface 273 (.int .i64 (e:Int)))
theorem amg:ap3 Tryz.prog 273=true:=by kernel_rfl
theorem mkE(n:Int):miV Tryz.prog 273 (.c (.int .i64 n))=some (.c (.iface 273 (.int .i64 n))):=aqn _ _ _ amg
def puV(p:Nat × Nat):V := .tup [vu p.1,abm p.2]
theorem aqv(w:List Nat)(ho:oct w)(hl:w.length≤1000000):Gxx 225 [vs w,vi 16,vi 64] (puV (pu w)):=by
 have hbl:=ax w
 by_cases hne:w=[]
 ·subst hne
  refine gI oW Tryz.func225 Tryz.results225 ?_
  refine wS (aI @ai (aI @DY (aI @lw @mkE))) trivial ?_
  exact rE []
 ·have e0:pu w=puA (w.drop 0) 0:=by unfold pu;rw[if_neg hne];rfl
  rw[e0]
  generalize hF:puA (w.drop 0) 0=F
  have hnil:=aaw ho dV hne
  have hby:=Gg ho
  refine gI oW Tryz.func225 Tryz.results225 ?_
  refine wS (aI @ai (aI @hnil (aI @hby (aI @aav (aI @alI @wm1))))) trivial ?_
  refine aK (fun i:Nat × Nat=>mkA [(0,vs w),(1,vi 16),(8,vb false),(9,vs w),(10,vu 1152921504606846976),(11,vu 18446744073709551615),(12,vb false),(13,vu (i.2:Nat)),(99,.sl .fz 1 (bv w)),(100,vi (w.length:Nat)),(101,vi (i.1:Nat))] [] 0 (fun _ => .top)) (fun i=>i.1≤w.length∧i.2<18446744073709551616∧puA (w.drop i.1) i.2=F) (fun i=>w.length-i.1) (0,0) [] [] ?_ ⟨Nat.zero_le _,by decide,hF⟩ ?_
  ·(refine iy ?_ ?_ (kD _ _ _) (by decide) (by decide) (by decide) (by decide);(repeat' (first|exact trivial|refine gJ _ _ rfl rfl ?_ ?_));all_goals (try simp only[pgs,pgl,pgx,pgf,pgw,fQ,ig,fU,iq,dB,eY,fJ,pgn,simprocAttr]);all_goals (try (repeat' (first|apply aI)));all_goals (try (first|exact trivial|exact gB (by omega)|exact gq rfl|exact aW rfl rfl|exact je rfl)))
  ·rintro⟨i,n⟩ ⟨hi,hn,hp⟩
   simp only at hi hn hp
   rcases Nat.lt_or_ge i w.length with hlt|hge
   ·have hg:=HY w i hlt
    have hc:=gW ho i
    rw[VQ hlt] at hp
    have hlo:=aci (w.getD i 0) hc
    have hll:=amf (w.getD i 0) hc
    have h95:w.getD i 0=95→lwc (w.getD i 0)=127:=fun h=>by rw[h];rfl
    unfold dvx at hp
    generalize lwc (w.getD i 0)=m at *
    generalize w.getD i 0=c at *
    by_cases hd:48≤c∧c≤57
    ·simp only[if_pos hd] at hp
     rw[if_neg (by omega)] at hp
     obtain⟨hd1,hd2⟩:=hd
     by_cases hb:1152921504606846976≤n
     ·rw[if_pos hb] at hp
      subst hp
      refine wS (aI @hg (aI @hbl (aI @lw @mkE))) trivial ?_
      exact rE []
     ·rw[if_neg hb] at hp
      refine wS (aI @hg (aI @hbl (aI @lw @mkE))) trivial ?_
      (refine bC ((i+1,n*16+(c-48))) [] [] (⟨hlt,by simp only;omega,hp⟩) (by first|omega|(simp only[List.length_cons];omega)) ?_;(refine iy ?_ ?_ (kD _ _ _) (by decide) (by decide) (by decide) (by decide);(repeat' (first|exact trivial|refine gJ _ _ rfl rfl ?_ ?_));all_goals (try simp only[pgs,pgl,pgx,pgf,pgw,fQ,ig,fU,iq,dB,eY,fJ,pgn,simprocAttr]);all_goals (try (repeat' (first|apply aI)));all_goals (try (first|exact trivial|exact gB (by omega)|exact gq rfl|exact aW rfl rfl|exact je rfl))))
      all_goals exact gq (by congr 1;simp only;omega)
    ·simp only[if_neg hd] at hp
     by_cases ha:97≤m∧m≤122
     ·simp only[if_pos ha] at hp
      obtain⟨ha1,ha2⟩:=ha
      have hne:c≠95:=fun h=>by have:=h95 h;omega
      by_cases hs:16≤m-87
      ·rw[if_pos hs] at hp
       subst hp
       rcases (by omega:c<48∨57<c) with hd|hd
       ·refine wS (aI @hg (aI @hbl (aI @lw @mkE))) hlo ?_
        exact rE []
       ·refine wS (aI @hg (aI @hbl (aI @lw @mkE))) hlo ?_
        exact rE []
      ·rw[if_neg hs] at hp
       by_cases hb:1152921504606846976≤n
       ·rw[if_pos hb] at hp
        subst hp
        rcases (by omega:c<48∨57<c) with hd|hd
        ·refine wS (aI @hg (aI @hbl (aI @lw @mkE))) hlo ?_
         exact rE []
        ·refine wS (aI @hg (aI @hbl (aI @lw @mkE))) hlo ?_
         exact rE []
       ·rw[if_neg hb] at hp
        rcases (by omega:c<48∨57<c) with hd|hd
        ·refine wS (aI @hg (aI @hbl (aI @lw @mkE))) hlo ?_
         (refine bC ((i+1,n*16+(m-87))) [] [] (⟨hlt,by simp only;omega,hp⟩) (by first|omega|(simp only[List.length_cons];omega)) ?_;(refine iy ?_ ?_ (kD _ _ _) (by decide) (by decide) (by decide) (by decide);(repeat' (first|exact trivial|refine gJ _ _ rfl rfl ?_ ?_));all_goals (try simp only[pgs,pgl,pgx,pgf,pgw,fQ,ig,fU,iq,dB,eY,fJ,pgn,simprocAttr]);all_goals (try (repeat' (first|apply aI)));all_goals (try (first|exact trivial|exact gB (by omega)|exact gq rfl|exact aW rfl rfl|exact je rfl))))
         all_goals exact gq (by congr 1;simp only;omega)
        ·refine wS (aI @hg (aI @hbl (aI @lw @mkE))) hlo ?_
         (refine bC ((i+1,n*16+(m-87))) [] [] (⟨hlt,by simp only;omega,hp⟩) (by first|omega|(simp only[List.length_cons];omega)) ?_;(refine iy ?_ ?_ (kD _ _ _) (by decide) (by decide) (by decide) (by decide);(repeat' (first|exact trivial|refine gJ _ _ rfl rfl ?_ ?_));all_goals (try simp only[pgs,pgl,pgx,pgf,pgw,fQ,ig,fU,iq,dB,eY,fJ,pgn,simprocAttr]);all_goals (try (repeat' (first|apply aI)));all_goals (try (first|exact trivial|exact gB (by omega)|exact gq rfl|exact aW rfl rfl|exact je rfl))))
         all_goals exact gq (by congr 1;simp only;omega)
     ·simp only[if_neg ha] at hp
      rw[if_pos (by decide)] at hp
      subst hp
      rcases (by omega:c<48∨(57<c∧c<95)∨c=95∨95<c) with hd|⟨hd,hd2⟩|rfl|hd<;>rcases (by omega:m<97∨122<m) with ha|ha
      all_goals first
       | (refine wS (aI @hg (aI @hbl (aI @lw @mkE))) hlo ?_;(refine rT [] ?_;first|rfl|simp only[pgo,simprocAttr]|skip))
   ·have:i=w.length:=by omega
    subst this
    rw[List.drop_length] at hp
    have hp:(n,0)=F:=hp
    subst hp
    refine wS @hbl trivial ?_
    exact rE []
theorem acj{f:FuncId}{args:List V}{vals:List Value}{b:Nat→World→Prop}(hen:zA Tryz.prog f=true)(hr:∀L w us,Reps L w args us→us=vals)(hc:∀w,Pg.Tb.T Tryz.prog w→Calls Tryz.prog f vals.toArray w fun e w'=>∃t v,e = .returned (.iface t v)∧RowKit.Below w.heap.size w w'):Gxx f args .nif:=by
 refine⟨hen,fun A w us hT hA hargs => ?_⟩
 have:=hr _ _ _ hargs
 subst this
 refine (hc w hT).mono ?_
 rintro e w' ⟨t,v,rfl,hb⟩
 exact⟨_,⟨fun _=>False,fun _=>none,fun _=>none⟩,rfl,⟨t,v,rfl⟩,⟨hb.os,hb.tape,hb.output,hb.size,fun k hk _=>hb.block k hk⟩,fun g h=>h.elim,fun _ _ h=>(by cases h),fun _ _ _ h=>(by cases h)⟩
theorem agt(fn s:List Nat)(hl:s.length≤1000000)(a b:Int)(e:Nat)(he:e=1∨e=2):Gxx 226 [vs fn,vs s,vi a,vi b,abm e] .nif:=by
 have hz:(sB s).size≤281474976710656:=by rw[bD];omega
 have hr:∀L w us,Reps L w [vs fn,vs s,vi a,vi b,.c (.iface 273 (.int .i64 (e:Int)))] us→us=[.string (sB fn),.string (sB s),.int .i64 a,.int .i64 b,.iface 273 (.int .i64 (e:Int))]:=by
  intro L w us h
  simp only[Reps,Rep] at h
  obtain⟨_,_,rfl,rfl,_,_,rfl,rfl,_,_,rfl,rfl,_,_,rfl,rfl,_,_,rfl,rfl,rfl⟩:=h
  rfl
 have hi:abm e = .c (.iface 273 (.int .i64 (e:Int))):=by unfold abm;rw[if_neg (by omega)]
 rw[hi]
 refine acj (b:=fun _ _=>True) (by kernel_rfl) hr (fun w hT => ?_)
 rcases he with rfl|rfl
 ·obtain⟨t,v,hv⟩:=hT.2.2.2.2
  refine (Tryz.strconv_toError_range (sB fn) (sB s) a b _ w hz hv (.inr ⟨t,v,rfl⟩)).mono ?_
  rintro e w' ⟨N,rfl,_,_,h4⟩
  exact⟨_,_,rfl,h4⟩
 ·obtain⟨t,v,hv⟩:=hT.2.2.2.1
  refine (Tryz.strconv_toError_syntax (sB fn) (sB s) a b _ w hz hv (.inr ⟨t,v,rfl⟩)).mono ?_
  rintro e w' ⟨N,rfl,_,_,h4⟩
  exact⟨_,_,rfl,h4⟩
theorem agu:∀(w:List Nat) (n:Nat),(puA w n).2=0∨(puA w n).2=1∨(puA w n).2=2:=by
 intro w
 induction w with
 | nil=>intro n;exact .inl rfl
 | cons c r ih =>
  intro n
  unfold puA
  split
  ·exact .inr (.inr rfl)
  ·split
   ·exact .inr (.inl rfl)
   ·exact ih _
theorem amh(w:List Nat):(pu w).2=0∨(pu w).2=1∨(pu w).2=2:=by
 unfold pu
 split
 ·exact .inr (.inr rfl)
 ·exact agu w 0
def erV(e:Nat):V:=if e=0 then .c .nilIface else .nif
theorem aqX(w:List Nat)(ho:oct w)(hl:w.length≤1000000):Gxx 190 [vs w,vi 16,vi 64] (.tup [vu ((pu w).1:Nat),erV (pu w).2]):=by
 have hif:=aau
 have h1:=aqv w ho hl
 unfold puV at h1
 have he:=amh w
 generalize pu w=p at *
 obtain⟨x,e⟩:=p
 simp only at *
 by_cases h0:e=0
 ·subst h0
  have e1:abm 0 = .c .nilIface:=rfl
  have e2:erV 0 = .c .nilIface:=rfl
  rw[e1] at h1
  rw[e2]
  refine gI oW Tryz.func190 Tryz.results190 ?_
  exact wR trivial h1 ah
 ·have h2:=agt [80,97,114,115,101,85,105,110,116] w hl 16 64 e (by omega)
  have e1:abm e = .c (.iface 273 (.int .i64 (e:Int))):=if_neg h0
  have e2:erV e = .nif:=if_neg h0
  rw[e1] at h1 h2
  rw[e2]
  have e3:(⟨#[80,97,114,115,101,85,105,110,116]⟩:ByteArray)=sB [80,97,114,115,101,85,105,110,116]:=rfl
  refine gI oW Tryz.func190 Tryz.results190 ?_
  exact wR @e3 (aI h1 h2) ah
def sdP(w:List Nat):Nat:=(pu w).1
def sbW(w:List Nat):Bool := !decide ((pu w).2=0) || !decide (jy (pu w).1=w)
def PZ(l:List (List Nat)):Bool:=l.isEmpty||sbW (hdW l)
theorem Ws{e:Nat→V}{bx:Nat→Option (TypeId × List V)}{n:Nat}{h:Nat→V}(b:Nat){l:List (List Nat)}{bad:Bool}(hb:bx b=some (108,rdC l bad):=by exact hQ)(hl:l.length≤100000:=by exact hT)(ho:oct (hdW l):=by exact hO)(hw:(hdW l).length≤1000000:=by exact hL) :
  Gxz 143 [.ref b 0] ⟨e,bx,n,h⟩ ⟨e,upd bx b (some (108,rdC l.tail (bad||PZ l))),n,h⟩ (vu ((sdP (hdW l):Nat):Int)):=by
 have hif:=aau
 have h1:=aqX (hdW l) ho hw
 have h2:=tu (pu (hdW l)).1 (ach _)
 have h3:=fun e h=>Ec e bx n h b l bad hb (by omega)
 have hq:decide (sB (jy (pu (hdW l)).1)=sB (hdW l))=decide (jy (pu (hdW l)).1=hdW l):=sJ (KT _) ho
 have e1:(bad||PZ l)=((bad||l.isEmpty)||sbW (hdW l)):=by unfold PZ;rw[Bool.or_assoc]
 rw[e1]
 unfold sdP sbW
 generalize (bad||l.isEmpty)=d at *
 generalize jy (pu (hdW l)).1=hx at *
 generalize hdW l=w at *
 generalize pu w=p at *
 obtain⟨x,er⟩:=p
 simp only at *
 by_cases h0:er=0
 ·subst h0
  have e2:erV 0 = .c .nilIface:=rfl
  rw[e2] at h1
  cases d<;>by_cases hh:hx=w
  ·rw[decide_eq_true hh] at hq ⊢
   refine gZ oW Tryz.func143 Tryz.results143 ?_
   (repeat' first|refine wP (aI @iQ (aI @dm (aI @bI (aI @hb @hq)))) (aI h1 h2) ?_|refine cZ (h3 _ _) ?_|refine tS ?_ ?_<;>intro hc|fail)
   all_goals (refine lh (aG _ _ _) ?_;rw[dJ,dK,jG];try rfl)
  ·rw[decide_eq_false hh] at hq ⊢
   refine gZ oW Tryz.func143 Tryz.results143 ?_
   (repeat' first|refine wP (aI @iQ (aI @dm (aI @bI (aI @hb @hq)))) (aI h1 h2) ?_|refine cZ (h3 _ _) ?_|refine tS ?_ ?_<;>intro hc|fail)
   all_goals (refine lh (aG _ _ _) ?_;rw[dJ,dK,jG];try rfl)
  ·refine gZ oW Tryz.func143 Tryz.results143 ?_
   (repeat' first|refine wP (aI @iQ (aI @dm (aI @bI (aI @hb @hq)))) (aI h1 h2) ?_|refine cZ (h3 _ _) ?_|refine tS ?_ ?_<;>intro hc|fail)
   all_goals (refine lh (aG _ _ _) ?_;rw[dJ,dK,jG];try rfl)
  ·refine gZ oW Tryz.func143 Tryz.results143 ?_
   (repeat' first|refine wP (aI @iQ (aI @dm (aI @bI (aI @hb @hq)))) (aI h1 h2) ?_|refine cZ (h3 _ _) ?_|refine tS ?_ ?_<;>intro hc|fail)
   all_goals (refine lh (aG _ _ _) ?_;rw[dJ,dK,jG];try rfl)
 ·have e2:erV er = .nif:=if_neg h0
  rw[e2] at h1
  rw[decide_eq_false h0]
  cases d
  ·refine gZ oW Tryz.func143 Tryz.results143 ?_
   (repeat' first|refine wP (aI @iQ (aI @dm (aI @bI (aI @hb (aI @hq @VM))))) (aI h1 h2) ?_|refine cZ (h3 _ _) ?_|refine tS ?_ ?_<;>intro hc|fail)
   all_goals (refine lh (aG _ _ _) ?_;rw[dJ,dK,jG];try rfl)
  ·refine gZ oW Tryz.func143 Tryz.results143 ?_
   (repeat' first|refine wP (aI @iQ (aI @dm (aI @bI (aI @hb (aI @hq @VM))))) (aI h1 h2) ?_|refine cZ (h3 _ _) ?_|refine tS ?_ ?_<;>intro hc|fail)
   all_goals (refine lh (aG _ _ _) ?_;rw[dJ,dK,jG];try rfl)
def dcA(l:List Nat):Nat→Nat
 | 0=>0
 | i+1=>dcA l i*256+l.getD i 0
def pad(w:List Nat):List Nat:=List.replicate (16-w.length) 48++w
def sdX(w:List Nat):Nat:=if 16<w.length then 0 else if okB (pad w) 8=true then dcA (prs (pad w) 8) 8 else 0
theorem ack{l:List Nat}(ho:oct l):∀i,dcA l i<256^i:=by
 intro i
 induction i with
 | zero=>exact Nat.one_pos
 | succ i ih =>
  have h1:=gW ho i
  rw[Nat.pow_succ]
  show dcA l i*256+l.getD i 0<_
  omega
theorem aqw{l:List Nat}(ho:oct l)(i:Nat)(h:i<8):dcA l i<72057594037927936:=by
 have h1:=ack ho i
 have h2:256^i≤256^7:=Nat.pow_le_pow_right (by decide) (by omega)
 have h3:256^7=72057594037927936:=by decide
 omega
theorem acl{w:List Nat}(ho:oct w):sdX w<18446744073709551616:=by
 unfold sdX
 split
 ·decide
 ·split
  ·have h1:=ack (afd (pad w) 8) 8
   have h3:256^8=18446744073709551616:=by decide
   omega
  ·decide
theorem ami(x c:Nat)(hx:x<72057594037927936)(hc:c<256):bits .or .u64 (IntKind.u64.wrap ((x:Int)*2^min 8 IntKind.u64.bits)) (c:Int)=((x*256+c:Nat):Int):=by
 have e:(2:Int)^min 8 IntKind.u64.bits=256:=rfl
 have u64w:∀(n:Int),0≤n∧n≤18446744073709551615→IntKind.u64.wrap n=n:=fun n h=>IntWalk.u64_in n h
 rw[e,u64w _ (by omega)]
 rw[bits_join .u64 64 (by decide) (fun n h0 h1=>u64w n ⟨h0,by omega⟩) 8 _ _ (by omega) (by omega) (by omega) (by omega) (by omega) (by omega)]
 omega
theorem aqx:Gxx 193 [fzb []] (.tup [vu 0,vi 0,vi 3]):=by
 refine gI oW Tryz.func193 Tryz.results193 ?_
 exact wR (aI @ax @List.length_nil.{0}) trivial ah
theorem aqY(l:List Nat)(ho:oct l)(hl:l.length=8):Gxx 193 [fzb l] (.tup [vu ((dcA l 8:Nat):Int),vi 8,vi 0]):=by
 have hb:=ax l
 refine gI oW Tryz.func193 Tryz.results193 ?_
 refine wS (aI @hb @hl) trivial ?_
 refine aK (fun i:Nat=>mkA [(0,fzb l),(5,vu ((dcA l i:Nat):Int)),(6,vi i)] [] 0 (fun _ => .top)) (fun i=>i≤8) (fun i=>8-i) 0 [] [] ?_ (Nat.zero_le _) ?_
 ·exact kE
 ·intro i hi
  replace hi:i≤8:=hi
  rcases Nat.lt_or_ge i 8 with hlt|hge
  ·have hg:=HY l i (by omega)
   have hc:=gW ho i
   have hx:=aqw ho i hlt
   have hor:=ami (dcA l i) (l.getD i 0) hx hc
   refine wS (aI @hg (aI @hb (aI @hl @hor))) trivial ?_
   exact bE (i+1) [] [] hlt
  ·have:i=8:=by omega
   subst this
   refine wS (aI @hb @hl) trivial ?_
   exact rE []
theorem amk:∀d,d<16→dvx (hx d)=d:=by decide
theorem agv(u:Nat)(hu:u<18446744073709551616):∀(k i:Nat),i+k=nd u→puA ((jy u).drop i) (pre u i)=(u,0):=by
 intro k
 induction k with
 | zero =>
  intro i h
  have h1:i=nd u:=by omega
  subst h1
  rw[List.drop_of_length_le (by rw[KU];omega),afi]
  rfl
 | succ k ih =>
  intro i h
  have hi:i<nd u:=by omega
  rw[VQ (by rw[KU];exact hi),aas u i hi,amk _ (aje u i),if_neg (by have:=aje u i;omega),if_neg (by have:=ajf u i hu hi;omega),KW u i hi]
  exact ih (i+1) (by omega)
theorem aml(u:Nat)(hu:u<18446744073709551616):pu (jy u)=(u,0):=by
 obtain⟨n1,n2,n3⟩:=aat 16 u (by simpa using hu) (by omega)
 have h:=agv u hu (nd u) 0 (by omega)
 rw[alH u n3,List.drop_zero] at h
 unfold pu
 rw[if_neg (by intro h0;have:=KU u;rw[h0] at this;simp at this;omega)]
 exact h
theorem acm(u:Nat)(hu:u<16^nd u):∀k,o8 u (nd u+k)=List.replicate k 48++jy u:=by
 intro k
 induction k with
 | zero=>rfl
 | succ k ih =>
  rw[show nd u+(k+1)=(nd u+k)+1 by omega,Gw,ih,List.replicate_succ,List.cons_append]
  have h1:u<16^(nd u+k):=Nat.lt_of_lt_of_le hu (Nat.pow_le_pow_right (by decide) (by omega))
  rw[Nat.div_eq_of_lt h1]
  rfl
theorem agw(u:Nat)(hu:u<18446744073709551616):pad (jy u)=o8 u 16:=by
 obtain⟨n1,n2,n3⟩:=aat 16 u (by simpa using hu) (by omega)
 unfold pad
 rw[KU,←acm u n3]
 congr 1
 omega
theorem abn(u i:Nat)(h:i<8):(kP (u:Int)).getD i 0=u / 256^(7-i)%256:=by
 unfold kP
 rw[List.getD_eq_getElem?_getD,List.getElem?_map,List.getElem?_range h]
 simp only[Option.map_some,Option.getD_some]
 rw[fdU u (8*(7-i)) (by omega),an6,Nat.pow_mul]
theorem acn(u:Nat)(hu:u<18446744073709551616):∀i,i≤8→dcA (kP (u:Int)) i=u / 256^(8-i):=by
 intro i
 induction i with
 | zero=>intro _;exact (Nat.div_eq_of_lt hu).symm
 | succ i ih =>
  intro h
  show dcA (kP (u:Int)) i*256+(kP (u:Int)).getD i 0=_
  rw[ih (by omega),abn u i (by omega)]
  have e1:8-i=(7-i)+1:=by omega
  have e2:8-(i+1)=7-i:=by omega
  rw[e1,e2,Nat.pow_succ,←Nat.div_div_eq_div_mul]
  omega
theorem Wu(u:Nat)(hu:u<18446744073709551616):¬16<(jy u).length∧okB (pad (jy u)) 8=true∧sdX (jy u)=u:=by
 obtain⟨n1,n2,n3⟩:=aat 16 u (by simpa using hu) (by omega)
 have h1:=rt (kP (u:Int)) (Ag _)
 have h2:(kP (u:Int)).length=8:=lV _
 rw[h2,VA u hu,←agw u hu] at h1
 have h3:¬16<(jy u).length:=by rw[KU];omega
 refine⟨h3,h1.1, ?_⟩
 unfold sdX
 rw[if_neg h3,if_pos h1.1,h1.2,acn u hu 8 (Nat.le_refl _)]
 simp
def sbX(w:List Nat):Bool:=if 16<w.length then true else !okB (pad w) 8 || !decide (jy (sdX w)=w)
theorem amm(w:List Nat)(ho:oct w):sbX w=sbW w:=by
 cases hs:sbW w
 ·unfold sbW at hs
  simp only[Bool.or_eq_false_iff,Bool.not_eq_false',decide_eq_true_eq] at hs
  have hu:=ach w
  obtain⟨h1,h2,h3⟩:=Wu (pu w).1 hu
  rw[hs.2] at h1 h2 h3
  unfold sbX
  rw[if_neg h1,h2,h3,decide_eq_true hs.2]
  rfl
 ·unfold sbX
  split
  ·rfl
  ·cases hk:okB (pad w) 8
   ·rfl
   ·by_cases hx:jy (sdX w)=w
    ·exfalso
     have h1:=aml (sdX w) (acl ho)
     rw[hx] at h1
     unfold sbW at hs
     rw[h1] at hs
     simp only[hx,decide_true,Bool.not_true,Bool.or_self] at hs
     cases hs
    ·rw[decide_eq_false hx];rfl
theorem aco(w:List Nat)(h:sbW w=false):sdX w=sdP w:=by
 unfold sbW at h
 simp only[Bool.or_eq_false_iff,Bool.not_eq_false',decide_eq_true_eq] at h
 have h1:=(Wu (pu w).1 (ach w)).2.2
 rw[h.2] at h1
 exact h1
end Go.Proofs.YtjiolbcdfgclaaaGreatDoor
section
namespace Go.Proofs.YtjiolbcdfgclaaaGreatDoor
open Go Go.Pg
variable {e:Nat→V} {bx:Nat→Option (TypeId × List V)} {n:Nat} {h:Nat→V}
def qK(l:List (List Nat)):Nat:=wix gu (hdW l)
def Ql:Nat→List (List Nat)→List Nat
 | 2,l=>(pk (hdW l.tail)).1
 | 6,l=>(pk (hdW l.tail)).1
 | _,_=>[]
def qC:Nat→List (List Nat)→Int
 | 5,l=>(aZ (hdW l.tail)).1
 | _,_=>0
def qN:Nat→List (List Nat)→Int
 | 7,l=>(aZ (hdW l.tail)).1
 | _,_=>0
def qD:Nat→List (List Nat)→Int
 | 7,l=>(aZ (hdW l.tail.tail)).1
 | _,_=>0
def qR:Nat→List (List Nat)→List (List Nat)
 | 2,l=>l.tail.tail
 | 5,l=>l.tail.tail
 | 6,l=>l.tail.tail
 | 7,l=>l.tail.tail.tail
 | _,l=>l.tail
def qB:Nat→List (List Nat)→Bool→Bool
 | 0,_,_=>true
 | 2,l,bad=>((bad||l.isEmpty)||qW l.tail)
 | 5,l,bad=>((bad||l.isEmpty)||iE l.tail)
 | 6,l,bad=>((bad||l.isEmpty)||qW l.tail)
 | 7,l,bad=>(((bad||l.isEmpty)||iE l.tail)||iE l.tail.tail)
 | _,l,bad=>(bad||l.isEmpty)
def pK(l:List (List Nat)):Nat:=wix kN (hdW l)
def pZ:Nat→List (List Nat)→Int
 | 2,l=>(aZ (hdW l.tail.tail)).1
 | 3,l=>(aZ (hdW l.tail)).1
 | 4,l=>(aZ (hdW l.tail)).1
 | 5,l=>(aZ (hdW l.tail)).1
 | 6,l=>(aZ (hdW l.tail)).1
 | _,_=>0
def pD:Nat→List (List Nat)→Int
 | 2,l=>(aZ (hdW l.tail)).1
 | _,_=>0
def pSq(sd:List Nat→Nat):Nat→List (List Nat)→Int
 | 2,l=>((sd (hdW l.tail.tail.tail):Nat):Int)
 | 3,l=>((sd (hdW l.tail.tail):Nat):Int)
 | _,_=>0
def pR:Nat→List (List Nat)→List (List Nat)
 | 2,l=>l.tail.tail.tail.tail
 | 3,l=>l.tail.tail.tail
 | 4,l=>l.tail.tail
 | 5,l=>l.tail.tail
 | 6,l=>l.tail.tail
 | _,l=>l.tail
def pBq:Nat→List (List Nat)→Bool→Bool
 | 0,_,_=>true
 | 2,l,bad=>((((bad||l.isEmpty)||iE l.tail)||iE l.tail.tail)||PZ l.tail.tail.tail)
 | 3,l,bad=>(((bad||l.isEmpty)||iE l.tail)||PZ l.tail.tail)
 | 4,l,bad=>((bad||l.isEmpty)||iE l.tail)
 | 5,l,bad=>((bad||l.isEmpty)||iE l.tail)
 | 6,l,bad=>((bad||l.isEmpty)||iE l.tail)
 | _,l,bad=>(bad||l.isEmpty)
theorem amn(b:Nat){l:List (List Nat)}{bad:Bool}(hj:wix gu (hdW l)=0)(hb:bx b=some (108,rdC l bad):=by exact hQ)(hbn:b<n:=by omega)(hl:l.length≤100000:=by exact hT)(ho:∀x∈l,oct x:=by first|assumption|exact tlo (by assumption)|exact tlo (tlo (by assumption)))(hw:∀x∈l,x.length≤1000000:=by first|assumption|exact tlo (by assumption)|exact tlo (tlo (by assumption))):Gxz 95 [.ref b 0] ⟨e,bx,n,h⟩ ⟨e,upd bx b (some (108,rdC l.tail true)),n+10,h⟩ (.agg [vi 0,vs [],vi 0,vi 0,vi 0]):=by
 exact gG Tryz.func95 Tryz.results95 rfl (by refine wP (fg hb hbn) iH ?_;refine cZ (fV0 gu b hj) ?_;exact zEz (fg hb hbn) trivial)
theorem amo(b:Nat){l:List (List Nat)}{bad:Bool}(hj:wix gu (hdW l)=1)(hb:bx b=some (108,rdC l bad):=by exact hQ)(hbn:b<n:=by omega)(hl:l.length≤100000:=by exact hT)(ho:∀x∈l,oct x:=by first|assumption|exact tlo (by assumption)|exact tlo (tlo (by assumption)))(hw:∀x∈l,x.length≤1000000:=by first|assumption|exact tlo (by assumption)|exact tlo (tlo (by assumption))):Gxz 95 [.ref b 0] ⟨e,bx,n,h⟩ ⟨e,upd bx b (some (108,rdC l.tail (bad||l.isEmpty))),n+10,h⟩ (.agg [vi 1,vs [],vi 0,vi 0,vi 0]):=by
 exact gG Tryz.func95 Tryz.results95 rfl (by refine wP (fg hb hbn) iH ?_;refine cZ (fV gu b 1 hj) ?_;exact zEz (fg hb hbn) trivial)
theorem amq(b:Nat){l:List (List Nat)}{bad:Bool}(hj:wix gu (hdW l)=2)(hb:bx b=some (108,rdC l bad):=by exact hQ)(hbn:b<n:=by omega)(hl:l.length≤100000:=by exact hT)(ho:∀x∈l,oct x:=by first|assumption|exact tlo (by assumption)|exact tlo (tlo (by assumption)))(hw:∀x∈l,x.length≤1000000:=by first|assumption|exact tlo (by assumption)|exact tlo (tlo (by assumption))):Gxz 95 [.ref b 0] ⟨e,bx,n,h⟩ ⟨e,upd bx b (some (108,rdC l.tail.tail ((bad||l.isEmpty)||qW l.tail))),n+10,h⟩ (.agg [vi 2,vs ((pk (hdW l.tail)).1),vi 0,vi 0,vi 0]):=by
 exact gG Tryz.func95 Tryz.results95 rfl (by refine wP (fg hb hbn) iH ?_;refine cZ (fV gu b 2 hj) ?_;exact zEz (fg hb hbn) trivial)
theorem amr(b:Nat){l:List (List Nat)}{bad:Bool}(hj:wix gu (hdW l)=3)(hb:bx b=some (108,rdC l bad):=by exact hQ)(hbn:b<n:=by omega)(hl:l.length≤100000:=by exact hT)(ho:∀x∈l,oct x:=by first|assumption|exact tlo (by assumption)|exact tlo (tlo (by assumption)))(hw:∀x∈l,x.length≤1000000:=by first|assumption|exact tlo (by assumption)|exact tlo (tlo (by assumption))):Gxz 95 [.ref b 0] ⟨e,bx,n,h⟩ ⟨e,upd bx b (some (108,rdC l.tail (bad||l.isEmpty))),n+10,h⟩ (.agg [vi 3,vs [],vi 0,vi 0,vi 0]):=by
 exact gG Tryz.func95 Tryz.results95 rfl (by refine wP (fg hb hbn) iH ?_;refine cZ (fV gu b 3 hj) ?_;exact zEz (fg hb hbn) trivial)
theorem ams(b:Nat){l:List (List Nat)}{bad:Bool}(hj:wix gu (hdW l)=4)(hb:bx b=some (108,rdC l bad):=by exact hQ)(hbn:b<n:=by omega)(hl:l.length≤100000:=by exact hT)(ho:∀x∈l,oct x:=by first|assumption|exact tlo (by assumption)|exact tlo (tlo (by assumption)))(hw:∀x∈l,x.length≤1000000:=by first|assumption|exact tlo (by assumption)|exact tlo (tlo (by assumption))):Gxz 95 [.ref b 0] ⟨e,bx,n,h⟩ ⟨e,upd bx b (some (108,rdC l.tail (bad||l.isEmpty))),n+10,h⟩ (.agg [vi 4,vs [],vi 0,vi 0,vi 0]):=by
 exact gG Tryz.func95 Tryz.results95 rfl (by refine wP (fg hb hbn) iH ?_;refine cZ (fV gu b 4 hj) ?_;exact zEz (fg hb hbn) trivial)
theorem amG(b:Nat){l:List (List Nat)}{bad:Bool}(hj:wix gu (hdW l)=5)(hb:bx b=some (108,rdC l bad):=by exact hQ)(hbn:b<n:=by omega)(hl:l.length≤100000:=by exact hT)(ho:∀x∈l,oct x:=by first|assumption|exact tlo (by assumption)|exact tlo (tlo (by assumption)))(hw:∀x∈l,x.length≤1000000:=by first|assumption|exact tlo (by assumption)|exact tlo (tlo (by assumption))):Gxz 95 [.ref b 0] ⟨e,bx,n,h⟩ ⟨e,upd bx b (some (108,rdC l.tail.tail ((bad||l.isEmpty)||iE l.tail))),n+10,h⟩ (.agg [vi 5,vs [],vi (aZ (hdW l.tail)).1,vi 0,vi 0]):=by
 exact gG Tryz.func95 Tryz.results95 rfl (by refine wP (fg hb hbn) iH ?_;refine cZ (fV gu b 5 hj) ?_;exact zEz (fg hb hbn) trivial)
theorem amH(b:Nat){l:List (List Nat)}{bad:Bool}(hj:wix gu (hdW l)=6)(hb:bx b=some (108,rdC l bad):=by exact hQ)(hbn:b<n:=by omega)(hl:l.length≤100000:=by exact hT)(ho:∀x∈l,oct x:=by first|assumption|exact tlo (by assumption)|exact tlo (tlo (by assumption)))(hw:∀x∈l,x.length≤1000000:=by first|assumption|exact tlo (by assumption)|exact tlo (tlo (by assumption))):Gxz 95 [.ref b 0] ⟨e,bx,n,h⟩ ⟨e,upd bx b (some (108,rdC l.tail.tail ((bad||l.isEmpty)||qW l.tail))),n+10,h⟩ (.agg [vi 6,vs ((pk (hdW l.tail)).1),vi 0,vi 0,vi 0]):=by
 exact gG Tryz.func95 Tryz.results95 rfl (by refine wP (fg hb hbn) iH ?_;refine cZ (fV gu b 6 hj) ?_;exact zEz (fg hb hbn) trivial)
theorem aop(b:Nat){l:List (List Nat)}{bad:Bool}(hj:wix gu (hdW l)=7)(hb:bx b=some (108,rdC l bad):=by exact hQ)(hbn:b<n:=by omega)(hl:l.length≤100000:=by exact hT)(ho:∀x∈l,oct x:=by first|assumption|exact tlo (by assumption)|exact tlo (tlo (by assumption)))(hw:∀x∈l,x.length≤1000000:=by first|assumption|exact tlo (by assumption)|exact tlo (tlo (by assumption))):Gxz 95 [.ref b 0] ⟨e,bx,n,h⟩ ⟨e,upd bx b (some (108,rdC l.tail.tail.tail (((bad||l.isEmpty)||iE l.tail)||iE l.tail.tail))),n+10,h⟩ (.agg [vi 7,vs [],vi 0,vi (aZ (hdW l.tail)).1,vi (aZ (hdW l.tail.tail)).1]):=by
 exact gG Tryz.func95 Tryz.results95 rfl (by refine wP (fg hb hbn) iH ?_;refine cZ (fV gu b 7 hj) ?_;exact zEz (fg hb hbn) trivial)
theorem aqy(b:Nat){l:List (List Nat)}{bad:Bool}(hb:bx b=some (108,rdC l bad):=by exact hQ)(hbn:b<n:=by omega)(hl:l.length≤100000:=by exact hT)(ho:∀x∈l,oct x:=by first|assumption|exact tlo (by assumption)|exact tlo (tlo (by assumption)))(hw:∀x∈l,x.length≤1000000:=by first|assumption|exact tlo (by assumption)|exact tlo (tlo (by assumption))):Gxz 95 [.ref b 0] ⟨e,bx,n,h⟩ ⟨e,upd bx b (some (108,rdC (qR (qK l) l) (qB (qK l) l bad))),n+10,h⟩ (.agg [vi (qK l:Nat),vs (Ql (qK l) l),vi (qC (qK l) l),vi (qN (qK l) l),vi (qD (qK l) l)]):=by
 have hlt:=GK (L:=gu) (hdW l) (by decide)
 have hlen:gu.length=8:=rfl
 unfold qK
 generalize hj:wix gu (hdW l)=j at *
 have hc:j=0∨j=1∨j=2∨j=3∨j=4∨j=5∨j=6∨j=7:=by omega
 rcases hc with rfl|rfl|rfl|rfl|rfl|rfl|rfl|rfl
 ·exact amn b hj hb hbn hl ho hw
 ·exact amo b hj hb hbn hl ho hw
 ·exact amq b hj hb hbn hl ho hw
 ·exact amr b hj hb hbn hl ho hw
 ·exact ams b hj hb hbn hl ho hw
 ·exact amG b hj hb hbn hl ho hw
 ·exact amH b hj hb hbn hl ho hw
 ·exact aop b hj hb hbn hl ho hw
theorem aoq(b:Nat){l:List (List Nat)}{bad:Bool}(hj:wix kN (hdW l)=0)(hb:bx b=some (108,rdC l bad):=by exact hQ)(hbn:b<n:=by omega)(hl:l.length≤100000:=by exact hT)(ho:∀x∈l,oct x:=by first|assumption|exact tlo (by assumption)|exact tlo (tlo (by assumption)))(hw:∀x∈l,x.length≤1000000:=by first|assumption|exact tlo (by assumption)|exact tlo (tlo (by assumption))):Gxz 94 [.ref b 0] ⟨e,bx,n,h⟩ ⟨e,upd bx b (some (108,rdC l.tail true)),n+10,h⟩ (.agg [vi 0,vi 0,vi 0,vu 0]):=by
 exact gG Tryz.func94 Tryz.results94 rfl (by refine wP (fg hb hbn) lG ?_;refine cZ (fV0 kN b hj) ?_;exact zEz (fg hb hbn) trivial)
theorem aoK(b:Nat){l:List (List Nat)}{bad:Bool}(hj:wix kN (hdW l)=1)(hb:bx b=some (108,rdC l bad):=by exact hQ)(hbn:b<n:=by omega)(hl:l.length≤100000:=by exact hT)(ho:∀x∈l,oct x:=by first|assumption|exact tlo (by assumption)|exact tlo (tlo (by assumption)))(hw:∀x∈l,x.length≤1000000:=by first|assumption|exact tlo (by assumption)|exact tlo (tlo (by assumption))):Gxz 94 [.ref b 0] ⟨e,bx,n,h⟩ ⟨e,upd bx b (some (108,rdC l.tail (bad||l.isEmpty))),n+10,h⟩ (.agg [vi 1,vi 0,vi 0,vu 0]):=by
 exact gG Tryz.func94 Tryz.results94 rfl (by refine wP (fg hb hbn) lG ?_;refine cZ (fV kN b 1 hj) ?_;exact zEz (fg hb hbn) trivial)
theorem aoT(b:Nat){l:List (List Nat)}{bad:Bool}(hj:wix kN (hdW l)=2)(hb:bx b=some (108,rdC l bad):=by exact hQ)(hbn:b<n:=by omega)(hl:l.length≤100000:=by exact hT)(ho:∀x∈l,oct x:=by first|assumption|exact tlo (by assumption)|exact tlo (tlo (by assumption)))(hw:∀x∈l,x.length≤1000000:=by first|assumption|exact tlo (by assumption)|exact tlo (tlo (by assumption))):Gxz 94 [.ref b 0] ⟨e,bx,n,h⟩ ⟨e,upd bx b (some (108,rdC l.tail.tail.tail.tail ((((bad||l.isEmpty)||iE l.tail)||iE l.tail.tail)||PZ l.tail.tail.tail))),n+10,h⟩ (.agg [vi 2,vi (aZ (hdW l.tail.tail)).1,vi (aZ (hdW l.tail)).1,vu ((sdP (hdW l.tail.tail.tail):Nat):Int)]):=by
 exact gG Tryz.func94 Tryz.results94 rfl (by refine wP (fg hb hbn) lG ?_;refine cZ (fV kN b 2 hj) ?_;exact zEz (fg hb hbn) @Ws)
theorem ao1(b:Nat){l:List (List Nat)}{bad:Bool}(hj:wix kN (hdW l)=3)(hb:bx b=some (108,rdC l bad):=by exact hQ)(hbn:b<n:=by omega)(hl:l.length≤100000:=by exact hT)(ho:∀x∈l,oct x:=by first|assumption|exact tlo (by assumption)|exact tlo (tlo (by assumption)))(hw:∀x∈l,x.length≤1000000:=by first|assumption|exact tlo (by assumption)|exact tlo (tlo (by assumption))):Gxz 94 [.ref b 0] ⟨e,bx,n,h⟩ ⟨e,upd bx b (some (108,rdC l.tail.tail.tail (((bad||l.isEmpty)||iE l.tail)||PZ l.tail.tail))),n+10,h⟩ (.agg [vi 3,vi (aZ (hdW l.tail)).1,vi 0,vu ((sdP (hdW l.tail.tail):Nat):Int)]):=by
 exact gG Tryz.func94 Tryz.results94 rfl (by refine wP (fg hb hbn) lG ?_;refine cZ (fV kN b 3 hj) ?_;exact zEz (fg hb hbn) @Ws)
theorem ao3(b:Nat){l:List (List Nat)}{bad:Bool}(hj:wix kN (hdW l)=4)(hb:bx b=some (108,rdC l bad):=by exact hQ)(hbn:b<n:=by omega)(hl:l.length≤100000:=by exact hT)(ho:∀x∈l,oct x:=by first|assumption|exact tlo (by assumption)|exact tlo (tlo (by assumption)))(hw:∀x∈l,x.length≤1000000:=by first|assumption|exact tlo (by assumption)|exact tlo (tlo (by assumption))):Gxz 94 [.ref b 0] ⟨e,bx,n,h⟩ ⟨e,upd bx b (some (108,rdC l.tail.tail ((bad||l.isEmpty)||iE l.tail))),n+10,h⟩ (.agg [vi 4,vi (aZ (hdW l.tail)).1,vi 0,vu 0]):=by
 exact gG Tryz.func94 Tryz.results94 rfl (by refine wP (fg hb hbn) lG ?_;refine cZ (fV kN b 4 hj) ?_;exact zEz (fg hb hbn) trivial)
theorem ao8(b:Nat){l:List (List Nat)}{bad:Bool}(hj:wix kN (hdW l)=5)(hb:bx b=some (108,rdC l bad):=by exact hQ)(hbn:b<n:=by omega)(hl:l.length≤100000:=by exact hT)(ho:∀x∈l,oct x:=by first|assumption|exact tlo (by assumption)|exact tlo (tlo (by assumption)))(hw:∀x∈l,x.length≤1000000:=by first|assumption|exact tlo (by assumption)|exact tlo (tlo (by assumption))):Gxz 94 [.ref b 0] ⟨e,bx,n,h⟩ ⟨e,upd bx b (some (108,rdC l.tail.tail ((bad||l.isEmpty)||iE l.tail))),n+10,h⟩ (.agg [vi 5,vi (aZ (hdW l.tail)).1,vi 0,vu 0]):=by
 exact gG Tryz.func94 Tryz.results94 rfl (by refine wP (fg hb hbn) lG ?_;refine cZ (fV kN b 5 hj) ?_;exact zEz (fg hb hbn) trivial)
theorem apf(b:Nat){l:List (List Nat)}{bad:Bool}(hj:wix kN (hdW l)=6)(hb:bx b=some (108,rdC l bad):=by exact hQ)(hbn:b<n:=by omega)(hl:l.length≤100000:=by exact hT)(ho:∀x∈l,oct x:=by first|assumption|exact tlo (by assumption)|exact tlo (tlo (by assumption)))(hw:∀x∈l,x.length≤1000000:=by first|assumption|exact tlo (by assumption)|exact tlo (tlo (by assumption))):Gxz 94 [.ref b 0] ⟨e,bx,n,h⟩ ⟨e,upd bx b (some (108,rdC l.tail.tail ((bad||l.isEmpty)||iE l.tail))),n+10,h⟩ (.agg [vi 6,vi (aZ (hdW l.tail)).1,vi 0,vu 0]):=by
 exact gG Tryz.func94 Tryz.results94 rfl (by refine wP (fg hb hbn) lG ?_;refine cZ (fV kN b 6 hj) ?_;exact zEz (fg hb hbn) trivial)
theorem aqZ(b:Nat){l:List (List Nat)}{bad:Bool}(hb:bx b=some (108,rdC l bad):=by exact hQ)(hbn:b<n:=by omega)(hl:l.length≤100000:=by exact hT)(ho:∀x∈l,oct x:=by first|assumption|exact tlo (by assumption)|exact tlo (tlo (by assumption)))(hw:∀x∈l,x.length≤1000000:=by first|assumption|exact tlo (by assumption)|exact tlo (tlo (by assumption))):Gxz 94 [.ref b 0] ⟨e,bx,n,h⟩ ⟨e,upd bx b (some (108,rdC (pR (pK l) l) (pBq (pK l) l bad))),n+10,h⟩ (.agg [vi (pK l:Nat),vi (pZ (pK l) l),vi (pD (pK l) l),vu (pSq sdP (pK l) l)]):=by
 have hlt:=GK (L:=kN) (hdW l) (by decide)
 have hlen:kN.length=7:=rfl
 unfold pK
 generalize hj:wix kN (hdW l)=j at *
 have hc:j=0∨j=1∨j=2∨j=3∨j=4∨j=5∨j=6:=by omega
 rcases hc with rfl|rfl|rfl|rfl|rfl|rfl|rfl
 ·exact aoq b hj hb hbn hl ho hw
 ·exact aoK b hj hb hbn hl ho hw
 ·exact aoT b hj hb hbn hl ho hw
 ·exact ao1 b hj hb hbn hl ho hw
 ·exact ao3 b hj hb hbn hl ho hw
 ·exact ao8 b hj hb hbn hl ho hw
 ·exact apf b hj hb hbn hl ho hw
theorem agx(b c:Nat){l:List (List Nat)}(hb:bx b=some (108,rdC l false):=by exact hQ)(hcx:bx c=some (32,oC (oZ 11)):=by exact hQ)(hcb:c≠b:=by omega)(hcn:c<n:=by omega)(hbn:b<n:=by omega)(hl:l.length≤100000:=by exact hT)(ho:∀x∈l,oct x:=by first|assumption|exact tlo (by assumption)|exact tlo (tlo (by assumption)))(hw:∀x∈l,x.length≤1000000:=by first|assumption|exact tlo (by assumption)|exact tlo (tlo (by assumption))):Gxz 99 [.ref b 0,.ref c 0] ⟨e,bx,n,h⟩ ⟨e,upd (upd bx b (some (108,rdC l.tail (iE l)))) c (some (32,oC { oZ 11 with hnd:=(aZ (hdW l)).1 })),n+10,h⟩ (.tup []):=by
 exact gG Tryz.func99 Tryz.results99 rfl (by exact zEz (fh hb hcx hcb) trivial)
theorem agy(b c:Nat){l:List (List Nat)}(hb:bx b=some (108,rdC l false):=by exact hQ)(hcx:bx c=some (32,oC (oZ 12)):=by exact hQ)(hcb:c≠b:=by omega)(hcn:c<n:=by omega)(hbn:b<n:=by omega)(hl:l.length≤100000:=by exact hT)(ho:∀x∈l,oct x:=by first|assumption|exact tlo (by assumption)|exact tlo (tlo (by assumption)))(hw:∀x∈l,x.length≤1000000:=by first|assumption|exact tlo (by assumption)|exact tlo (tlo (by assumption))):Gxz 99 [.ref b 0,.ref c 0] ⟨e,bx,n,h⟩ ⟨e,upd (upd bx b (some (108,rdC l.tail.tail (iE l||iE l.tail)))) c (some (32,oC { oZ 12 with hnd:=(aZ (hdW l)).1,idx:=(aZ (hdW l.tail)).1 })),n+10,h⟩ (.tup []):=by
 exact gG Tryz.func99 Tryz.results99 rfl (by exact zEz (fh hb hcx hcb) trivial)
theorem agz(b c:Nat){l:List (List Nat)}(hb:bx b=some (108,rdC l false):=by exact hQ)(hcx:bx c=some (32,oC (oZ 15)):=by exact hQ)(hcb:c≠b:=by omega)(hcn:c<n:=by omega)(hbn:b<n:=by omega)(hl:l.length≤100000:=by exact hT)(ho:∀x∈l,oct x:=by first|assumption|exact tlo (by assumption)|exact tlo (tlo (by assumption)))(hw:∀x∈l,x.length≤1000000:=by first|assumption|exact tlo (by assumption)|exact tlo (tlo (by assumption))):Gxz 99 [.ref b 0,.ref c 0] ⟨e,bx,n,h⟩ ⟨e,upd (upd bx b (some (108,rdC l.tail.tail (iE l||iE l.tail)))) c (some (32,oC { oZ 15 with hnd:=(aZ (hdW l)).1,idx:=(aZ (hdW l.tail)).1 })),n+10,h⟩ (.tup []):=by
 exact gG Tryz.func99 Tryz.results99 rfl (by exact zEz (fh hb hcx hcb) trivial)
theorem agA(b c:Nat){l:List (List Nat)}(hb:bx b=some (108,rdC l false):=by exact hQ)(hcx:bx c=some (32,oC (oZ 10)):=by exact hQ)(hcb:c≠b:=by omega)(hcn:c<n:=by omega)(hbn:b<n:=by omega)(hl:l.length≤100000:=by exact hT)(ho:∀x∈l,oct x:=by first|assumption|exact tlo (by assumption)|exact tlo (tlo (by assumption)))(hw:∀x∈l,x.length≤1000000:=by first|assumption|exact tlo (by assumption)|exact tlo (tlo (by assumption))):Gxz 99 [.ref b 0,.ref c 0] ⟨e,bx,n,h⟩ ⟨e,upd (upd bx b (some (108,rdC (qR (qK l.tail.tail) l.tail.tail) (qB (qK l.tail.tail) l.tail.tail (iE l||iE l.tail))))) c (some (32,oC { oZ 10 with hnd:=(aZ (hdW l)).1,idx:=(aZ (hdW l.tail)).1,qk:=(qK l.tail.tail:Nat),qkey:=Ql (qK l.tail.tail) l.tail.tail,qc:=qC (qK l.tail.tail) l.tail.tail,qn:=qN (qK l.tail.tail) l.tail.tail,qd:=qD (qK l.tail.tail) l.tail.tail })),n+30,h⟩ (.tup []):=by
 exact gG Tryz.func99 Tryz.results99 rfl (by exact zEz (fh hb hcx hcb) @aqy)
end Go.Proofs.YtjiolbcdfgclaaaGreatDoor
end
