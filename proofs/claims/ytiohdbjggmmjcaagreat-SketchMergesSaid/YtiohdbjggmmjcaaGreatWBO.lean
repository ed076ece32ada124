/-
  Texts of this claim, merged; own names are short.
-/
import Derived.Test.YtiohdbjggmmjcaaGreatWAY
import Derived.Test.YtiohdbjggmmjcaaGreatWBN
import Derived.Test.YtiohdbjggmmjcaaGreatWAX
import Derived.Test.YtiohdbjggmmjcaaGreatWAO
import Derived.Test.YtiohdbjggmmjcaaGreatWAP
import Derived.Test.YtiohdbjggmmjcaaGreatWBD
import Derived.Test.YtiohdbjggmmjcaaGreatWBL
set_option linter.unusedVariables false
set_option linter.unusedSimpArgs false
set_option linter.unusedSectionVars false
set_option linter.defProp false
set_option maxRecDepth 100000
set_option maxHeartbeats 8000000
namespace Go.Proofs.YtiohdbjggmmjcaaGreat
open Go Go.Pg
theorem aiL(x y:Fq)(hx:octE x.e)(hy:octE y.e)(hxn:x.e.length≤1000000)(hyn:y.e.length≤1000000):Pg.Good Tryz.prog 52 [.agg (fqF x),.agg (fqF y)] (.tup [.agg (fqF (qF x y).1),vi (qF x y).2]):=by
 have h1:=Ec x hx hxn
 have h2:=Ec y hy hyn
 by_cases c1:vFq x=0
 ·by_cases c2:vFq y=0
  ·by_cases c3:x.z=y.z
   ·unfold qF
    rw[if_neg (fun h=>h c1),if_neg (fun h=>h c2),if_neg (fun h=>h c3)]
    by_cases cl:((jnF x y).length:Int) > x.z
    ·rw[if_pos cl]
     exact Good.fzt (aiy x y hx hy c1 c2 c3 cl) rfl ⟨aH _,aH _,trivial⟩
    ·rw[if_neg cl]
     exact Good.fzt (aix x y hx hy c1 c2 c3 cl) rfl ⟨aH _,aH _,trivial⟩
   ·unfold qF
    rw[if_neg (fun h=>h c1),if_neg (fun h=>h c2),if_pos c3]
    rw[c1] at h1
    rw[c2] at h2
    refine Good.fzt (vs:=[.agg [vi 0,vi 0,vi 0,nls,vb false],vi 10]) ?_ rfl ⟨FN,aH _,trivial⟩
    have c3':(x.z=y.z)=False:=eq_false c3
    obtain⟨z,t,lo,l,b⟩:=x
    obtain⟨z2,t2,lo2,l2,b2⟩:=y
    simp only at *
    refine gI (eu [] mix) Tryz.func52 Tryz.results52 ?_
    (repeat' (first|(simp (disch:=first|exact dqz|fail) only[pgz,simprocAttr,pgE,pgj,iC,c3'])|(refine tC ?_;first|refine cU h1 ?_|refine cU h2 ?_)|(refine tE ?_ ?_<;>intro hc)|(with_reducible refine bH ?_)|(with_reducible refine cK ?_)))
    (refine rT [] ?_;first|rfl|simp only[pgo,simprocAttr]|skip)
  ·unfold qF
   rw[if_neg (fun h=>h c1),if_pos c2]
   rw[c1] at h1
   refine Good.fzt (vs:=[.agg [vi 0,vi 0,vi 0,nls,vb false],vi (vFq y)]) ?_ rfl ⟨FN,aH _,trivial⟩
   have c2':(vFq y=0)=False:=eq_false c2
   generalize vFq y=v at *
   obtain⟨z,t,lo,l,b⟩:=x
   obtain⟨z2,t2,lo2,l2,b2⟩:=y
   simp only at *
   refine gI (eu [] mix) Tryz.func52 Tryz.results52 ?_
   (repeat' (first|(simp (disch:=first|exact dqz|fail) only[pgz,simprocAttr,pgE,pgj,iC,c2'])|(refine tC ?_;first|refine cU h1 ?_|refine cU h2 ?_)|(refine tE ?_ ?_<;>intro hc)|(with_reducible refine bH ?_)|(with_reducible refine cK ?_)))
   (refine rT [] ?_;first|rfl|simp only[pgo,simprocAttr]|skip)
 ·unfold qF
  rw[if_pos c1]
  refine Good.fzt (vs:=[.agg [vi 0,vi 0,vi 0,nls,vb false],vi (vFq x)]) ?_ rfl ⟨FN,aH _,trivial⟩
  have c1':(vFq x=0)=False:=eq_false c1
  generalize vFq x=v at *
  obtain⟨z,t,lo,l,b⟩:=x
  obtain⟨z2,t2,lo2,l2,b2⟩:=y
  simp only at *
  refine gI (eu [] mix) Tryz.func52 Tryz.results52 ?_
  (repeat' (first|(simp (disch:=first|exact dqz|fail) only[pgz,simprocAttr,pgE,pgj,iC,c1'])|(refine tC ?_;refine cU h1 ?_)|(refine tE ?_ ?_<;>intro hc)|(with_reducible refine bH ?_)|(with_reducible refine cK ?_)))
  (refine rT [] ?_;first|rfl|simp only[pgo,simprocAttr]|skip)
end Go.Proofs.YtiohdbjggmmjcaaGreat
section
namespace Go.Pg
open Go
section
variable {P:Program} [Tb P]
theorem XT:∀(T:List (Nat × V)) (k i:Nat) (S:Nat→Bool) (e:Nat→V),k+T.length≤i→qW T k (ins S i) e=qW T k S e
 | [],_,_,_,_,_=>rfl
 | (d,v)::T,k,i,S,e,h=>by
  simp only[List.length_cons] at h
  funext t
  rw[aC,aC,XT T (k+1) i S e (by omega),bV (by omega)]
def XZ(P:Program)[Tb P](dsts:List (Option Nat))(n i:Nat)(s s':St)(o:Oper):Prop :=
 (o.guard=none∧∃κ,κ ≠ .z∧RA P n i s o κ s') ∨
 ∃j want b,o.guard=some (j,want)∧gq s dsts j=some (.c (.bool b))∧((b=want∧∃κ,κ ≠ .z∧RA P n i s o κ s')∨(b≠want∧s'=s.put o.dst (.c undef)))
theorem ahP(hm:P.follows .mixedOrders=true)(T:List (Nat × V))(BX:(Nat→Bool)→Nat→Option (TypeId × List V)){l:List Oper}{id:Nat}{Q:Exit→St→Prop}{e:Nat→V}{bx:Nat→Option (TypeId × List V)}{n:Nat}{h:Nat→V}
  (hb0:BX (fun _=>false)=bx) (hidx:(l.zipIdx.all fun x=>(edgesOf x.1).all fun e=>decide (e<x.2))=true)
  (jZ:∀(S:Nat→Bool) i o,l[i]?=some o→i<l.length→S i=false→(∀e∈edgesOf o,S e=true)→(∀j o',l[j]?=some o'→S j=true→∀e∈edgesOf o',S e=true) →
   XZ P (l.map (·.dst)) n i ⟨qW T 0 S e,BX S,n+l.length,h⟩ ⟨qW T 0 (ins S i) e,BX (ins S i),n+l.length,h⟩ o)
  (hend:∀S,(∀j,j<l.length→S j=true)→Q .normal ⟨qW T 0 S e,BX S,n+l.length,h⟩):wpS dT P (.region id l.toArray true) Q ⟨e,bx,n,h⟩:=by
 refine .inr fun id C Q' L a w hT hfit hQK S0 => ?_
 have hbox0:∀m,L.box (n+m)=none:=by
  intro m
  cases hb:L.box (n+m) with
  | none=>rfl
  | some g=>have:=S0.wf.nidB _ g hb;simp only at this;omega
 have hown0:∀m,L.own (n+m)=none:=by
  intro m
  cases hb:L.own (n+m) with
  | none=>rfl
  | some g=>have:=S0.wf.nidO _ g hb;simp only at this;omega
 have S1:Sim C ⟨e,bx,n+l.length,h⟩ L a { w with drawn:=w.drawn+1 }:=by
  have S2:=X4 S0
  exact⟨S2.defers,S2.size,S2.env,S2.hid,S2.box,S2.wf.mono (Nat.le_add_right _ _) (Nat.le_refl _),S2.kp⟩
 refine aeQ hm (fun S a w=>∃L,Sim C ⟨qW T 0 S e,BX S,n+l.length,h⟩ L a w∧∀i,i<l.length→S i=false→L.box (n+i)=none∧L.own (n+i)=none) ?_ ?_ ?_ ⟨L,by rw[X6,hb0];exact S1,fun i _ _=>⟨hbox0 i,hown0 i⟩⟩
 ·intro i o ho e he
  have hm:(o,i)∈l.zipIdx:=by
   rw[List.mem_zipIdx_iff_getElem?]
   simpa using ho
  have:=List.all_eq_true.1 (List.all_eq_true.1 hidx (o,i) hm) e he
  simpa using this
 ·rintro S i o a w ho hi he hok ⟨L,hS,hno⟩
  have ho':l[i]?=some o:=by simpa using ho
  have hil:i<l.length:=(List.getElem?_eq_some_iff.1 ho').1
  have hd:∀t,o.dst=some t→t<C.n:=jT hfit o (by simpa using Array.mem_of_getElem? ho)
  have hst:=jZ S i o ho' hil hi he (fun j o' hj=>hok.cl j o' (by simpa using hj))
  have keep:∀(κ:Ka),κ ≠ .z→∀(L':Lay),(κ ≠ .z→∀b,b≠n+i→L'.box b=L.box b∧L'.own b=L.own b)→∀j,j<l.length→ins S i j=false→L'.box (n+j)=none∧L'.own (n+j)=none:=by
   intro κ hκ L' hL j hj hsj
   have hji:j≠i:=fun h=>by subst h;rw[Ad] at hsj;cases hsj
   rw[bV hji] at hsj
   have h1:=hL hκ (n+j) (by omega)
   have h2:=hno j hj hsj
   exact⟨h1.1.trans h2.1,h1.2.trans h2.2⟩
  have keep0:∀j,j<l.length→ins S i j=false→L.box (n+j)=none∧L.own (n+j)=none:=by
   intro j hj hsj
   have hji:j≠i:=fun h=>by subst h;rw[Ad] at hsj;cases hsj
   rw[bV hji] at hsj
   exact hno j hj hsj
  unfold wpOp
  rw[ho]
  simp only
  rcases hst with ⟨hg,κ,hκ,hR⟩|⟨j,want,b,hg,hv,⟨hbw,κ,hκ,hR⟩|⟨hbw,hR⟩⟩
  ·rw[if_pos (by simp [Region.wanted,hg])]
   exact .inl (agc hR hT hS (by simp only;omega) (hno i hil hi).1 (hno i hil hi).2 hd (fun L' a' w' S' hL=>⟨L',S',keep κ hκ L' hL⟩))
  ·have hy:=oP hS (ops:=l.toArray) (by simpa using hv)
   rw[if_pos (by simp [Region.wanted,hg,hy,hbw])]
   exact .inl (agc hR hT hS (by simp only;omega) (hno i hil hi).1 (hno i hil hi).2 hd (fun L' a' w' S' hL=>⟨L',S',keep κ hκ L' hL⟩))
  ·have hy:=oP hS (ops:=l.toArray) (by simpa using hv)
   rw[if_neg (by simp [Region.wanted,hg,hy,hbw])]
   exact⟨L,by rw[hR];exact hS.put (v := .c undef) rfl hd,keep0⟩
 ·rintro S a w hall hok ⟨L,hS,_⟩
  exact⟨_,L,by rw[hQK];exact hend S (fun j hj=>hall j (by simpa using hj)),hS⟩
def ai3(X:St)(κ:Ka)(s':St):Prop:=κ ≠ .z∧s'=X
theorem qc{dsts:List (Option Nat)}{n i:Nat}{s s':St}{o:Oper}(hg:o.guard=none)(h:lW P n i s o (ai3 s')):XZ P dsts n i s s' o:=by
 obtain⟨κ,s1,hR,hz,rfl⟩:=abf h
 exact .inl ⟨hg,κ,hz,hR⟩
theorem X0{dsts:List (Option Nat)}{n i:Nat}{s s':St}{o:Oper}(j:Nat)(want b:Bool)(hg:o.guard=some (j,want))(hv:gq s dsts j=some (.c (.bool b)))(h1:b=want→lW P n i s o (ai3 s'))(h2:b≠want→s'=s.put o.dst (.c undef)):XZ P dsts n i s s' o:=by
 by_cases hb:b=want
 ·obtain⟨κ,s1,hR,hz,rfl⟩:=abf (h1 hb)
  exact .inr ⟨j,want,b,hg,hv,.inl ⟨hb,κ,hz,hR⟩⟩
 ·exact .inr ⟨j,want,b,hg,hv,.inr ⟨hb,h2 hb⟩⟩
def pkA(s:St)(d:Option Nat)(c x y:V)(K:Ka→St→Prop):Prop:=match c with | .c (.bool b)=>K .q (s.put d (qH b x y))|_=>False
theorem adb(n i:Nat)(s:St)(d:Option Nat)(c x y:Operand)(ty:TypeId)(pos:String)(af:Array Edge)(g:Option (Nat × Bool))(K:Ka→St→Prop):lW P n i s ⟨d,.pick c x y,ty,pos,af,g⟩ K=pkA s d (s.ev c) (s.ev x) (s.ev y) K:=by
 have e:lW P n i s ⟨d,.pick c x y,ty,pos,af,g⟩ K=qL ((qv P s (.pick c x y)).map fun r=>(.q,s.put d r)) K:=rfl
 rw[e]
 unfold pkA
 simp only[qv]
 cases s.ev c with
 | c v=>cases v<;>rfl
 | _=>rfl
theorem ai4(s:St)(d:Option Nat)(b:Bool)(x y:V)(K:Ka→St→Prop):pkA s d (.c (.bool b)) x y K=K .q (s.put d (qH b x y)):=rfl
def ifG(b:Bool)(v:V):V:=bif b then .c undef else v
end
end Go.Pg
end
namespace Go.Proofs.YtiohdbjggmmjcaaGreat
open Go Go.Pg
def wY:=aI @adb @ai4
theorem Zl(l:List En)(s:Bool)(b:List En)(i:Nat)(h:i<b.length):fld l s (b.take (i+1))=(vg (fld l s (b.take i)).1 (b.getD i ([],0,0)),(fld l s (b.take i)).2||GR (fld l s (b.take i)).1 (b.getD i ([],0,0))):=by
 rw[←sJ b i h]
 unfold fld
 rw[List.foldl_append]
 rfl
structure FldOk (l:List En) (n:Nat):Prop where
 srt:kS l
 oct:octE l
 cnt:∀z∈l,1≤z.2.1∧z.2.1≤1099511627776
 err:∀z∈l,z.2.2=0
 len:l.length≤n
theorem ai0{l b:List En}{s:Bool}{n:Nat}(h:FldOk l n)(hb:octE b)(hc:∀z∈b,(1≤z.2.1∧z.2.1≤1099511627776)∧z.2.2=0):∀i,i≤b.length→FldOk (fld l s (b.take i)).1 (n+i):=by
 intro i
 induction i with
 | zero=>intro _;simpa [fld] using h
 | succ i ih =>
  intro hi
  have ih:=ih (by omega)
  rw[Zl l s b i (by omega)]
  have hm:=nJ b i ([],0,0) (by omega)
  have hy:=hb _ hm
  have hcy:=hc _ hm
  refine⟨agP ih.srt ih.oct hy,aig ih.oct hy,Zg ih.cnt hcy.1 (fun u hu => ?_),Zg ih.err hcy.2 (fun u hu=>ih.err u hu), ?_⟩
  ·have h1:=ih.cnt u hu
   have h2:=acI u.2.1 (b.getD i ([],0,0)).2.1 (by omega) (by omega)
   have h3:=pR u.2.1 (b.getD i ([],0,0)).2.1
   exact⟨by simp only;omega,by simp only;omega⟩
  ·have h1:=aih (fld l s (b.take i)).1 (b.getD i ([],0,0))
   have h2:=ih.len
   simp only
   omega
theorem GG(x y:Fq)(hx:octE x.e)(hy:octE y.e)(c1:vFq x=0)(c2:vFq y=0)(cz:x.z=y.z) :
  Pg.Good Tryz.prog 58 [.agg (fqF x),.agg (fqF y)] (.tup [.agg (fqF (qF x y).1),vi (qF x y).2]):=by
 obtain⟨i1,i2,i2',i3,i4⟩:=jW c1
 obtain⟨j1,j2,j2',j3,j4⟩:=jW c2
 have h1:=mf x hx (by omega)
 have h2:=mf y hy (by omega)
 rw[c1] at h1
 rw[c2] at h2
 have h3:=qw x.t y.t (by unfold W64;omega) (by unfold W64;omega)
 have h4:=qw x.l y.l (by unfold W64;omega) (by unfold W64;omega)
 have hcy:∀u∈y.e,(1≤u.2.1∧u.2.1≤1099511627776)∧u.2.2=0:=uZ c2
 have hok:=fun (s:Bool)=>ai0 (s:=s) (n:=32) ⟨mV hx c1,hx,fun u hu=>(uZ c1 u hu).1,fun u hu=>(uZ c1 u hu).2,by omega⟩ hy hcy
 have hfj:=fun s=>XX (x.e.length+y.e.length) x.e y.e s (Nat.le_refl _) (mV hx c1) (mV hy c2) hx hy (fun u hu=>(uZ c1 u hu).2)
 have hst:=fun s i (hi:i<y.e.length)=>Zl x.e s y.e i hi
 have ejn:jn (x.e.length+y.e.length) x.e y.e=jnF x y:=rfl
 have ejf:jf (x.e.length+y.e.length) x.e y.e=jfF x y:=rfl
 rw[ejn,ejf] at hfj
 unfold qF
 rw[if_neg (fun h=>h c1),if_neg (fun h=>h c2),if_neg (fun h=>h cz)]
 have hcf:((jnF x y).length:Int) > x.z→1≤DD x y∧DD x y≤1099511627776:=fun cl=>(XY c1 c2 _ ((OO bfE _ _).1 (nJ (srt bfE (jnF x y)) x.z.toNat eD (by rw[wI];omega)))).1
 have ecf:DD x y=((srt bfE (jnF x y)).getD x.z.toNat eD).2.1:=rfl
 have hzz:(x.z=y.z)=True:=eq_true cz
 have hel1:=aG x.e
 have hel2:=aG y.e
 have hL0:∀s,fld x.e s (y.e.take 0)=(x.e,s):=fun s=>by simp [fld]
 have hLn:∀s,fld x.e s (y.e.take y.e.length)=(jnF x y,s||jfF x y):=fun s=>by rw[List.take_length];exact hfj s
 have hLO:=pR x.l y.l
 generalize hFL:(fun (s:Bool) (i:Nat)=>fld x.e s (y.e.take i))=FL at *
 have fe:∀s i,fld x.e s (y.e.take i)=FL s i:=fun s i=>by rw[←hFL]
 simp only[fe] at hok hst hL0 hLn
 clear hfj fe hFL
 generalize jnF x y=J at *
 generalize jfF x y=jF at *
 generalize DD x y=d at *
 generalize aO x.t y.t=aT at *
 generalize aO x.l y.l=aL at *
 obtain⟨T,f1⟩:=aT
 obtain⟨LO,f2⟩:=aL
 obtain⟨z,t,lo,l,b⟩:=x
 obtain⟨z2,t2,lo2,l2,b2⟩:=y
 simp only at *
 generalize hM:(if (J.length:Int) > z then ((⟨z,T,(aO LO d).1,iU d J,(b||b2||f1||f2||jF)||(aO LO d).2⟩,0):Fq × Int) else (⟨z,T,LO,J,b||b2||f1||f2||jF⟩,0))=M
 refine Good.fzt (vs:=[.agg [vi M.1.z,vi M.1.t,vi M.1.l,.sl (.own 0 119) 3 (ev M.1.e),vb M.1.b],vi M.2]) ?_ rfl ⟨aH _,aH _,trivial⟩
 obtain⟨sA,hsA⟩:∃sA,sA=(b||b2||f1||f2):=⟨_,rfl⟩
 obtain⟨bv2,hbv2⟩:∃bv,bv=b2:=⟨_,rfl⟩
 obtain⟨TT,hTT⟩:∃TT:List (Nat × V),TT=[(50,.ref 0 0),(51,vi z),(52,vi T),(53,vi LO),(54,.ref 0 4),(55,vb b),(56,vb b),(57,ifG b (.ref 1 4)),(58,ifG b (vb b2)),(59,vb (b||b2)),(60,vb (b||b2)),(61,ifG (b||b2) (vb f1)),(62,vb (b||b2||f1)),(63,vb (b||b2||f1)),(64,ifG (b||b2||f1) (vb f2)),(65,vb (b||b2||f1||f2)),(66,.ref 0 3),(67,fzv l),(68,.sl (.own 21 119) 3 (ev l)),(69,.agg [vi z,vi T,vi LO,.sl (.own 21 119) 3 (ev l),vb (b||b2||f1||f2)]),(12,.ref 23 0)]:=⟨_,rfl⟩
 obtain⟨B0,hB0⟩:∃fB,fB=upd (upd (upd (fun _=>none) 0 (some (36,fqF ⟨z,t,lo,l,b⟩))) 1 (some (36,fqF ⟨z2,t2,lo2,l2,b2⟩))) 2 (some (36,[y0,y0,y0,yn,yf])):=⟨_,rfl⟩
 obtain⟨B1,hB1⟩:∃fB,fB=upd B0 23 (some (36,[y0,y0,y0,yn,yf])):=⟨_,rfl⟩
 obtain⟨B2,hB2⟩:∃fB,fB=upd B1 23 (some (36,[vi z,vi T,vi LO,.sl (.own 21 119) 3 (ev l),vb (b||b2||f1||f2)])):=⟨_,rfl⟩
 obtain⟨BX,hBX⟩:∃fB:(Nat→Bool)→Nat→Option (TypeId × List V),fB=fun S=>if S 21=true then B2 else if S 20=true then B1 else B0:=⟨_,rfl⟩
 have hBi:∀S i,i≠20→i≠21→BX S=BX (ins S i):=fun S i q20 q21=>by rw[hBX];simp only[bV (Ne.symm q20),bV (Ne.symm q21)]
 have b00:B0 0=some (36,fqF ⟨z,t,lo,l,b⟩):=by rw[hB0];rfl
 have b01:B0 1=some (36,fqF ⟨z2,t2,lo2,l2,b2⟩):=by rw[hB0];rfl
 have b02:B0 2=some (36,[y0,y0,y0,yn,yf]):=by rw[hB0];rfl
 have b10:B1 0=some (36,fqF ⟨z,t,lo,l,b⟩):=by rw[hB1,TY _ _ _ _ (by decide),b00]
 have b20:B2 0=some (36,fqF ⟨z,t,lo,l,b⟩):=by rw[hB2,TY _ _ _ _ (by decide),b10]
 have hX0:∀S,BX S 0=some (36,fqF ⟨z,t,lo,l,b⟩):=fun S=>by rw[hBX];simp only;split;exact b20;split;exact b10;exact b00
 have b11:B1 1=some (36,fqF ⟨z2,t2,lo2,l2,b2⟩):=by rw[hB1,TY _ _ _ _ (by decide),b01]
 have b21:B2 1=some (36,fqF ⟨z2,t2,lo2,l2,b2⟩):=by rw[hB2,TY _ _ _ _ (by decide),b11]
 have hX1:∀S,BX S 1=some (36,fqF ⟨z2,t2,lo2,l2,b2⟩):=fun S=>by rw[hBX];simp only;split;exact b21;split;exact b11;exact b01
 have b12:B1 2=some (36,[y0,y0,y0,yn,yf]):=by rw[hB1,TY _ _ _ _ (by decide),b02]
 have b22:B2 2=some (36,[y0,y0,y0,yn,yf]):=by rw[hB2,TY _ _ _ _ (by decide),b12]
 have b13:B1 23=some (36,[y0,y0,y0,yn,yf]):=by rw[hB1];exact lF _ _ _
 have b23:B2 23=some (36,[vi z,vi T,vi LO,.sl (.own 21 119) 3 (ev l),vb (b||b2||f1||f2)]):=by rw[hB2];exact lF _ _ _
 refine gI (eu [20] mix) Tryz.func58 Tryz.results58 ?_
 (repeat' (first|(simp (disch:=first|exact dqz|fail) only[pgz,simprocAttr,hel1,hel2,hzz,pgE,pgj,iC])|(refine tC ?_;first|refine cU h1 ?_|refine cU h2 ?_|refine cU h3 ?_|refine cU h4 ?_)|(refine tE ?_ ?_<;>intro hc)|(with_reducible refine bH ?_)|(with_reducible refine cK ?_)))
 have hnd:([50,51,52,53,54,55,56,57,58,59,60,61,62,63,64,65,66,67,68,69,12]:List Nat).Nodup:=by decide
 refine ahP (id:=11) (n:=3) mix TT BX (by rw[hBX];show B0=_;simp only[hB0,NS]) (by decide) ?_ ?_
 ·intro S i o ho hi hS he hcl
  subst hTT
  rcases (by have:i<22:=hi;omega:i=0∨i=1∨i=2∨i=3∨i=4∨i=5∨i=6∨i=7∨i=8∨i=9∨i=10∨i=11∨i=12∨i=13∨i=14∨i=15∨i=16∨i=17∨i=18∨i=19∨i=20∨i=21) with rfl|rfl|rfl|rfl|rfl|rfl|rfl|rfl|rfl|rfl|rfl|rfl|rfl|rfl|rfl|rfl|rfl|rfl|rfl|rfl|rfl|rfl
  all_goals (simp only[List.getElem?_cons_zero,List.getElem?_cons_succ,Option.some.injEq] at ho;subst ho)
  ·refine qc rfl ?_
   simp (disch:=first|exact dqz|fail) only[pgz,simprocAttr,hS,hX0,hX1,hel1,hel2,wY,pga,aC,aQ]
   exact⟨nofun,bI 0 rfl hnd (hBi S 0 (by decide) (by decide)) rfl⟩
  ·have s0:=he 0 (by decide)
   refine qc rfl ?_
   simp (disch:=first|exact dqz|fail) only[pgz,simprocAttr,hS,hX0,hX1,hel1,hel2,wY,pga,aC,aQ,s0]
   exact⟨nofun,bI 1 rfl hnd (hBi S 1 (by decide) (by decide)) rfl⟩
  ·refine qc rfl ?_
   simp (disch:=first|exact dqz|fail) only[pgz,simprocAttr,hS,hX0,hX1,hel1,hel2,wY,pga,aC,aQ]
   exact⟨nofun,bI 2 rfl hnd (hBi S 2 (by decide) (by decide)) rfl⟩
  ·refine qc rfl ?_
   simp (disch:=first|exact dqz|fail) only[pgz,simprocAttr,hS,hX0,hX1,hel1,hel2,wY,pga,aC,aQ]
   exact⟨nofun,bI 3 rfl hnd (hBi S 3 (by decide) (by decide)) rfl⟩
  ·refine qc rfl ?_
   simp (disch:=first|exact dqz|fail) only[pgz,simprocAttr,hS,hX0,hX1,hel1,hel2,wY,pga,aC,aQ]
   exact⟨nofun,bI 4 rfl hnd (hBi S 4 (by decide) (by decide)) rfl⟩
  ·have s4:=he 4 (by decide)
   refine qc rfl ?_
   simp (disch:=first|exact dqz|fail) only[pgz,simprocAttr,hS,hX0,hX1,hel1,hel2,wY,pga,aC,aQ,s4]
   exact⟨nofun,bI 5 rfl hnd (hBi S 5 (by decide) (by decide)) rfl⟩
  ·have s5:=he 5 (by decide)
   refine qc rfl ?_
   simp (disch:=first|exact dqz|fail) only[pgz,simprocAttr,hS,hX0,hX1,hel1,hel2,wY,pga,aC,aQ,s5]
   exact⟨nofun,bI 6 rfl hnd (hBi S 6 (by decide) (by decide)) rfl⟩
  ·have s6:=he 6 (by decide)
   refine X0 6 false (b) rfl (by simp only[gq,aC,aQ,s6];rfl) (fun hb => ?_) (fun hb => ?_)
   ·have hg:∀v,ifG (b) v=v:=fun v=>by rw[hb];rfl
    simp (disch:=first|exact dqz|fail) only[pgz,simprocAttr,hg,hS,hX0,hX1,hel1,hel2,wY,pga,aC,aQ,s6]
    exact⟨nofun,bI 7 rfl hnd (hBi S 7 (by decide) (by decide)) rfl⟩
   ·have hb:(b)=true:=by cases h5:(b) with
    | false=>exact absurd h5 hb
    | true=>rfl
    have hg:∀v,ifG (b) v = .c undef:=fun v=>by rw[hb];rfl
    exact (bI 7 (T:=[(50,.ref 0 0),(51,vi z),(52,vi T),(53,vi LO),(54,.ref 0 4),(55,vb b),(56,vb b),(57,ifG b (.ref 1 4)),(58,ifG b (vb b2)),(59,vb (b||b2)),(60,vb (b||b2)),(61,ifG (b||b2) (vb f1)),(62,vb (b||b2||f1)),(63,vb (b||b2||f1)),(64,ifG (b||b2||f1) (vb f2)),(65,vb (b||b2||f1||f2)),(66,.ref 0 3),(67,fzv l),(68,.sl (.own 21 119) 3 (ev l)),(69,.agg [vi z,vi T,vi LO,.sl (.own 21 119) 3 (ev l),vb (b||b2||f1||f2)]),(12,.ref 23 0)]) ((show _=some (57,ifG b (.ref 1 4)) from rfl).trans (by rw[hg])) hnd (hBi S 7 (by decide) (by decide)) rfl).symm
  ·have s7:=he 7 (by decide)
   have s6:=he 6 (by decide)
   refine X0 6 false (b) rfl (by simp only[gq,aC,aQ,s7,s6];rfl) (fun hb => ?_) (fun hb => ?_)
   ·have hg:∀v,ifG (b) v=v:=fun v=>by rw[hb];rfl
    simp (disch:=first|exact dqz|fail) only[pgz,simprocAttr,hg,hS,hX0,hX1,hel1,hel2,wY,pga,aC,aQ,s7,s6]
    exact⟨nofun,bI 8 rfl hnd (hBi S 8 (by decide) (by decide)) rfl⟩
   ·have hb:(b)=true:=by cases h5:(b) with
    | false=>exact absurd h5 hb
    | true=>rfl
    have hg:∀v,ifG (b) v = .c undef:=fun v=>by rw[hb];rfl
    exact (bI 8 (T:=[(50,.ref 0 0),(51,vi z),(52,vi T),(53,vi LO),(54,.ref 0 4),(55,vb b),(56,vb b),(57,ifG b (.ref 1 4)),(58,ifG b (vb b2)),(59,vb (b||b2)),(60,vb (b||b2)),(61,ifG (b||b2) (vb f1)),(62,vb (b||b2||f1)),(63,vb (b||b2||f1)),(64,ifG (b||b2||f1) (vb f2)),(65,vb (b||b2||f1||f2)),(66,.ref 0 3),(67,fzv l),(68,.sl (.own 21 119) 3 (ev l)),(69,.agg [vi z,vi T,vi LO,.sl (.own 21 119) 3 (ev l),vb (b||b2||f1||f2)]),(12,.ref 23 0)]) ((show _=some (58,ifG b (vb b2)) from rfl).trans (by rw[hg])) hnd (hBi S 8 (by decide) (by decide)) rfl).symm
  ·have s6:=he 6 (by decide)
   have s8:=he 8 (by decide)
   refine qc rfl ?_
   have hp:qH (b) (.c (.bool true)) (ifG (b) (vb b2))=vb (b||b2):=by cases (b)<;>rfl
   simp (disch:=first|exact dqz|fail) only[pgz,simprocAttr,hp,hS,hX0,hX1,hel1,hel2,wY,pga,aC,aQ,s6,s8]
   exact⟨nofun,bI 9 rfl hnd (hBi S 9 (by decide) (by decide)) rfl⟩
  ·have s9:=he 9 (by decide)
   have s6:=he 6 (by decide)
   refine qc rfl ?_
   simp (disch:=first|exact dqz|fail) only[pgz,simprocAttr,hS,hX0,hX1,hel1,hel2,wY,pga,aC,aQ,s9,s6]
   exact⟨nofun,bI 10 rfl hnd (hBi S 10 (by decide) (by decide)) rfl⟩
  ·have s10:=he 10 (by decide)
   refine X0 10 false (b||b2) rfl (by simp only[gq,aC,aQ,s10];rfl) (fun hb => ?_) (fun hb => ?_)
   ·have hg:∀v,ifG (b||b2) v=v:=fun v=>by rw[hb];rfl
    simp (disch:=first|exact dqz|fail) only[pgz,simprocAttr,hg,hS,hX0,hX1,hel1,hel2,wY,pga,aC,aQ,s10]
    exact⟨nofun,bI 11 rfl hnd (hBi S 11 (by decide) (by decide)) rfl⟩
   ·have hb:(b||b2)=true:=by cases h5:(b||b2) with
    | false=>exact absurd h5 hb
    | true=>rfl
    have hg:∀v,ifG (b||b2) v = .c undef:=fun v=>by rw[hb];rfl
    exact (bI 11 (T:=[(50,.ref 0 0),(51,vi z),(52,vi T),(53,vi LO),(54,.ref 0 4),(55,vb b),(56,vb b),(57,ifG b (.ref 1 4)),(58,ifG b (vb b2)),(59,vb (b||b2)),(60,vb (b||b2)),(61,ifG (b||b2) (vb f1)),(62,vb (b||b2||f1)),(63,vb (b||b2||f1)),(64,ifG (b||b2||f1) (vb f2)),(65,vb (b||b2||f1||f2)),(66,.ref 0 3),(67,fzv l),(68,.sl (.own 21 119) 3 (ev l)),(69,.agg [vi z,vi T,vi LO,.sl (.own 21 119) 3 (ev l),vb (b||b2||f1||f2)]),(12,.ref 23 0)]) ((show _=some (61,ifG (b||b2) (vb f1)) from rfl).trans (by rw[hg])) hnd (hBi S 11 (by decide) (by decide)) rfl).symm
  ·have s10:=he 10 (by decide)
   have s11:=he 11 (by decide)
   refine qc rfl ?_
   have hp:qH (b||b2) (.c (.bool true)) (ifG (b||b2) (vb f1))=vb (b||b2||f1):=by cases (b||b2)<;>rfl
   simp (disch:=first|exact dqz|fail) only[pgz,simprocAttr,hp,hS,hX0,hX1,hel1,hel2,wY,pga,aC,aQ,s10,s11]
   exact⟨nofun,bI 12 rfl hnd (hBi S 12 (by decide) (by decide)) rfl⟩
  ·have s12:=he 12 (by decide)
   have s10:=he 10 (by decide)
   refine qc rfl ?_
   simp (disch:=first|exact dqz|fail) only[pgz,simprocAttr,hS,hX0,hX1,hel1,hel2,wY,pga,aC,aQ,s12,s10]
   exact⟨nofun,bI 13 rfl hnd (hBi S 13 (by decide) (by decide)) rfl⟩
  ·have s13:=he 13 (by decide)
   refine X0 13 false (b||b2||f1) rfl (by simp only[gq,aC,aQ,s13];rfl) (fun hb => ?_) (fun hb => ?_)
   ·have hg:∀v,ifG (b||b2||f1) v=v:=fun v=>by rw[hb];rfl
    simp (disch:=first|exact dqz|fail) only[pgz,simprocAttr,hg,hS,hX0,hX1,hel1,hel2,wY,pga,aC,aQ,s13]
    exact⟨nofun,bI 14 rfl hnd (hBi S 14 (by decide) (by decide)) rfl⟩
   ·have hb:(b||b2||f1)=true:=by cases h5:(b||b2||f1) with
    | false=>exact absurd h5 hb
    | true=>rfl
    have hg:∀v,ifG (b||b2||f1) v = .c undef:=fun v=>by rw[hb];rfl
    exact (bI 14 (T:=[(50,.ref 0 0),(51,vi z),(52,vi T),(53,vi LO),(54,.ref 0 4),(55,vb b),(56,vb b),(57,ifG b (.ref 1 4)),(58,ifG b (vb b2)),(59,vb (b||b2)),(60,vb (b||b2)),(61,ifG (b||b2) (vb f1)),(62,vb (b||b2||f1)),(63,vb (b||b2||f1)),(64,ifG (b||b2||f1) (vb f2)),(65,vb (b||b2||f1||f2)),(66,.ref 0 3),(67,fzv l),(68,.sl (.own 21 119) 3 (ev l)),(69,.agg [vi z,vi T,vi LO,.sl (.own 21 119) 3 (ev l),vb (b||b2||f1||f2)]),(12,.ref 23 0)]) ((show _=some (64,ifG (b||b2||f1) (vb f2)) from rfl).trans (by rw[hg])) hnd (hBi S 14 (by decide) (by decide)) rfl).symm
  ·have s13:=he 13 (by decide)
   have s14:=he 14 (by decide)
   refine qc rfl ?_
   have hp:qH (b||b2||f1) (.c (.bool true)) (ifG (b||b2||f1) (vb f2))=vb (b||b2||f1||f2):=by cases (b||b2||f1)<;>rfl
   simp (disch:=first|exact dqz|fail) only[pgz,simprocAttr,hp,hS,hX0,hX1,hel1,hel2,wY,pga,aC,aQ,s13,s14]
   exact⟨nofun,bI 15 rfl hnd (hBi S 15 (by decide) (by decide)) rfl⟩
  ·refine qc rfl ?_
   simp (disch:=first|exact dqz|fail) only[pgz,simprocAttr,hS,hX0,hX1,hel1,hel2,wY,pga,aC,aQ]
   exact⟨nofun,bI 16 rfl hnd (hBi S 16 (by decide) (by decide)) rfl⟩
  ·have s16:=he 16 (by decide)
   refine qc rfl ?_
   simp (disch:=first|exact dqz|fail) only[pgz,simprocAttr,hS,hX0,hX1,hel1,hel2,wY,pga,aC,aQ,s16]
   exact⟨nofun,bI 17 rfl hnd (hBi S 17 (by decide) (by decide)) rfl⟩
  ·have s17:=he 17 (by decide)
   have s13:=he 13 (by decide)
   refine qc rfl ?_
   simp (disch:=first|exact dqz|fail) only[pgz,simprocAttr,hS,hX0,hX1,hel1,hel2,wY,pga,aC,aQ,s17,s13]
   exact⟨nofun,bI 18 rfl hnd (hBi S 18 (by decide) (by decide)) rfl⟩
  ·have s1:=he 1 (by decide)
   have s2:=he 2 (by decide)
   have s3:=he 3 (by decide)
   have s15:=he 15 (by decide)
   have s18:=he 18 (by decide)
   refine qc rfl ?_
   simp (disch:=first|exact dqz|fail) only[pgz,simprocAttr,hS,hX0,hX1,hel1,hel2,wY,pga,aC,aQ,s1,s2,s3,s15,s18]
   exact⟨nofun,bI 19 rfl hnd (hBi S 19 (by decide) (by decide)) rfl⟩
  ·have n21:S 21=false:=by
    cases h5:S 21 with
    | false=>rfl
    | true=>have:=hcl 21 _ rfl h5 20 (by decide);rw[hS] at this;cases this
   have e0:BX S=B0:=by rw[hBX];simp only[hS,n21];rfl
   have e1:BX (ins S 20)=B1:=by rw[hBX];simp only[Ad,bV (show 21≠20 by decide),n21];rfl
   refine qc rfl ?_
   simp (disch:=first|exact dqz|fail) only[pgz,simprocAttr,e0,hS,hX0,hX1,hel1,hel2,wY,pga,aC,aQ]
   exact⟨nofun,bI 20 rfl hnd (by rw[e1,hB1]) rfl⟩
  ·have s0:=he 0 (by decide)
   have s1:=he 1 (by decide)
   have s2:=he 2 (by decide)
   have s3:=he 3 (by decide)
   have s4:=he 4 (by decide)
   have s5:=he 5 (by decide)
   have s6:=he 6 (by decide)
   have s7:=he 7 (by decide)
   have s8:=he 8 (by decide)
   have s9:=he 9 (by decide)
   have s10:=he 10 (by decide)
   have s11:=he 11 (by decide)
   have s12:=he 12 (by decide)
   have s13:=he 13 (by decide)
   have s14:=he 14 (by decide)
   have s15:=he 15 (by decide)
   have s16:=he 16 (by decide)
   have s17:=he 17 (by decide)
   have s18:=he 18 (by decide)
   have s19:=he 19 (by decide)
   have s20:=he 20 (by decide)
   have e0:BX S=B1:=by rw[hBX];simp only[hS,s20];rfl
   have e1:BX (ins S 21)=B2:=by rw[hBX];simp only[Ad];rfl
   refine qc rfl ?_
   simp (disch:=first|exact dqz|fail) only[pgz,simprocAttr,e0,b13,hS,hX0,hX1,hel1,hel2,wY,pga,aC,aQ,s0,s1,s2,s3,s4,s5,s6,s7,s8,s9,s10,s11,s12,s13,s14,s15,s16,s17,s18,s19,s20]
   refine⟨nofun, ?_⟩
   rw[e1,XT _ 0 21 S _ (Nat.le_of_eq rfl),hB2]
 ·intro S hall
  have s0:=hall 0 (by decide)
  have s1:=hall 1 (by decide)
  have s2:=hall 2 (by decide)
  have s3:=hall 3 (by decide)
  have s4:=hall 4 (by decide)
  have s5:=hall 5 (by decide)
  have s6:=hall 6 (by decide)
  have s7:=hall 7 (by decide)
  have s8:=hall 8 (by decide)
  have s9:=hall 9 (by decide)
  have s10:=hall 10 (by decide)
  have s11:=hall 11 (by decide)
  have s12:=hall 12 (by decide)
  have s13:=hall 13 (by decide)
  have s14:=hall 14 (by decide)
  have s15:=hall 15 (by decide)
  have s16:=hall 16 (by decide)
  have s17:=hall 17 (by decide)
  have s18:=hall 18 (by decide)
  have s19:=hall 19 (by decide)
  have s20:=hall 20 (by decide)
  have s21:=hall 21 (by decide)
  have e0:BX S=B2:=by rw[hBX];simp only[s21];rfl
  subst hTT
  rw[e0]
  (repeat' (first|(simp (disch:=first|exact dqz|fail) only[pgz,simprocAttr,s0,s1,s2,s3,s4,s5,s6,s7,s8,s9,s10,s11,s12,s13,s14,s15,s16,s17,s18,s19,s20,s21,aC,aQ,pgE,pgj,iC,b23,b20,b21,b22])|(refine tE ?_ ?_<;>intro hc)|(with_reducible refine bH ?_)|(refine kw _ _ _ _ _ ?_)|(with_reducible refine cK ?_)))
  refine df (fun i:Nat=>mkA [(3,.ref 0 0),(4,.ref 1 0),(12,.ref 2 0),(13,vi i)] [(0,(36,fqF ⟨z2,t2,lo2,l2,b2⟩)),(1,(36,[vi 0,vi 0,vi 0,nls,vb false])),(2,(36,[vi z,vi T,vi LO,.sl (.own 0 119) 3 (ev (FL sA i).1),vb (FL sA i).2]))] 3 (fun _ => .top)) (fun i=>i≤l2.length) (fun i=>l2.length-i) 0 [21] [1,2,23] ?_ (Nat.zero_le _) ?_
  ·have b23':=b23
   rw[←hsA] at b23'
   refine dN ?_ ?_ (gu _ _ _) (by decide) (by decide) (by decide) (by decide)
   ·simp only[pgs,pgl,pgx,pgf,pgw,pgo,aC,aQ,s0,s1,s2,s3,s4,s5,s6,s7,s8,s9,s10,s11,s12,s13,s14,s15,s16,s17,s18,s19,s20,s21,di,dL,simprocAttr]
    exact⟨jq rfl,jq rfl,jq rfl,dE rfl⟩
   ·refine dI _ _ rfl b21 ?_ (dI _ _ rfl b22 ?_ (dI _ _ rfl b23' ?_ trivial))
    all_goals simp only[pgs,pgl,pgx,pgf,pgw,dm,dM,fA,iO,fO,hL0,simprocAttr]
    all_goals (try (repeat' (first|apply aI)));all_goals (try (first|exact trivial|exact dE (by omega)|exact eH rfl|exact bP rfl rfl|exact jq rfl))
  ·intro i hi
   replace hi:i≤l2.length:=hi
   rcases Nat.lt_or_ge i l2.length with hlt|hge
   ·have hg:=eY l2 i hlt
    have hO:=hok sA i (by omega)
    have hT:=hst sA i hlt
    have hm:=nJ l2 i ([],0,0) hlt
    have hyo:oct (l2.getD i ([],0,0)).1:=hy _ hm
    have hyc:=hcy _ hm
    have hif:=Zf (l2.getD i ([],0,0)) hyo (FL sA i).1 0 hO.srt hO.oct
    have fe0:∀l k,jd k 0 l=bi l k:=fun _ _=>rfl
    simp only[Nat.sub_zero,fe0] at hif
    rw[←hif.1,←hif.2] at hT
    clear hif
    generalize l2.getD i ([],0,0)=y at *
    obtain⟨yk,yc,ye⟩:=y
    generalize FL sA i=F at *
    obtain⟨L,fg⟩:=F
    have hel3:=aG L
    have hLn2:=hO.len
    simp only at hg hO hT hyo hyc hLn2
    have kf:=FI L yk hO.oct hyo (by omega)
    have hfr:=lQ L yk
    by_cases q:0≤bi L yk
    ·rw[if_pos q,if_pos q] at hT
     have hlt2:(bi L yk).toNat<L.length:=by omega
     have hg2:=eY L (bi L yk).toNat hlt2
     have hm2:=hO.cnt _ (nJ L (bi L yk).toNat eD hlt2)
     generalize L.getD (bi L yk).toNat eD=u at *
     obtain⟨uk,uc,ue⟩:=u
     simp only at hg2 hm2 hT
     have kS:=qw uc yc (by unfold W64;omega) (by unfold W64;omega)
     have hes:=o6 L (bi L yk).toNat uk (aO uc yc).1 ue
     generalize hes2:L.set (bi L yk).toNat (uk,(aO uc yc).1,ue)=e2 at *
     generalize bi L yk=fi at *
     generalize aO uc yc=a' at *
     obtain⟨c1',c2'⟩:=a'
     simp only at kS hes hT
     cases fg
     ·(repeat' (first|(simp (disch:=first|exact dqz|fail) only[pgz,simprocAttr,pgE,pgj,iC,hel2,hel3,hg,hg2,hes])|(refine tC ?_;first|refine cU kf ?_|refine cU kS ?_)|(refine tE ?_ ?_<;>intro hc)|(with_reducible refine bH ?_)|(refine kw _ _ _ _ _ ?_)|(with_reducible refine cK ?_)))
      (refine dh (i+1) [0] [0,1,2] (hlt) (by first|omega|(simp only[List.length_cons];omega)) ?_;(refine dN ?_ ?_ (gu _ _ _) (by decide) (by decide) (by decide) (by decide);(repeat' (first|exact trivial|refine dI _ _ rfl rfl ?_ ?_));all_goals (try simp only[pgs,pgl,pgx,pgf,pgw,di,dL,dm,dM,fA,iO,fO,pgn,simprocAttr]);all_goals (try (repeat' (first|apply aI)));all_goals (try (first|exact trivial|exact dE (by omega)|exact eH rfl|exact bP rfl rfl|exact jq rfl))))
      all_goals (rw[hT];first|exact bP rfl rfl|exact eH rfl)
     ·(repeat' (first|(simp (disch:=first|exact dqz|fail) only[pgz,simprocAttr,pgE,pgj,iC,hel2,hel3,hg,hg2,hes])|(refine tC ?_;first|refine cU kf ?_|refine cU kS ?_)|(refine tE ?_ ?_<;>intro hc)|(with_reducible refine bH ?_)|(refine kw _ _ _ _ _ ?_)|(with_reducible refine cK ?_)))
      (refine dh (i+1) [0] [0,1,2] (hlt) (by first|omega|(simp only[List.length_cons];omega)) ?_;(refine dN ?_ ?_ (gu _ _ _) (by decide) (by decide) (by decide) (by decide);(repeat' (first|exact trivial|refine dI _ _ rfl rfl ?_ ?_));all_goals (try simp only[pgs,pgl,pgx,pgf,pgw,di,dL,dm,dM,fA,iO,fO,pgn,simprocAttr]);all_goals (try (repeat' (first|apply aI)));all_goals (try (first|exact trivial|exact dE (by omega)|exact eH rfl|exact bP rfl rfl|exact jq rfl))))
      all_goals (rw[hT];first|exact bP rfl rfl|exact eH rfl)
    ·rw[if_neg q,if_neg q] at hT
     have kB:=Eb L (yk,yc,ye) (by omega)
     have kfl:=pM 0 119 3 (tH (yk,yc,ye) L)
     generalize tH (yk,yc,ye) L=e2 at *
     simp only at kB hT
     generalize bi L yk=fi at *
     (repeat' (first|(simp (disch:=first|exact dqz|fail) only[pgz,simprocAttr,pgE,pgj,iC,hel2,hel3,hg,id_eq.{1}])|(refine tC ?_;first|refine cU kf ?_|refine cG [0] kB ?_)|(refine tE ?_ ?_<;>intro hc)|(with_reducible refine bH ?_)|(refine kw _ _ _ _ _ ?_)|(with_reducible refine cK ?_)))
     (refine dh (i+1) [3] [0,1,2] (hlt) (by first|omega|(simp only[List.length_cons];omega)) ?_;(refine dN ?_ ?_ (gu _ _ _) (by decide) (by decide) (by decide) (by decide);(repeat' (first|exact trivial|refine dI _ _ rfl rfl ?_ ?_));all_goals (try simp only[pgs,pgl,pgx,pgf,pgw,di,dL,dm,dM,fA,iO,fO,pgn,simprocAttr]);all_goals (try (repeat' (first|apply aI)));all_goals (try (first|exact trivial|exact dE (by omega)|exact eH rfl|exact bP rfl rfl|exact jq rfl))))
     all_goals (rw[hT];first|exact bP rfl rfl|exact eH (by simp))
   ·have:i=l2.length:=by omega
    subst this
    have hO:=hok sA l2.length (Nat.le_refl _)
    rw[hLn sA] at hO ⊢
    have hJl:=hO.len
    have hJe:=aG J
    simp only at hJl
    by_cases cl:(J.length:Int) > z
    ·rw[if_pos cl] at hM
     subst hM
     have hd:=hcf cl
     have hso:=BD J (by omega)
     have hsf:=pM 0 119 3 (srt bfE J)
     have hsl:=wI bfE J
     have hse:=aG (srt bfE J)
     have hgz:=eY (srt bfE J) z.toNat (by omega)
     have hlo:=RG J d hO.cnt hd (by omega)
     have hlf:=pM 0 119 3 (iU d J)
     have h5:=qw LO d (by unfold W64;omega) (by unfold W64;omega)
     generalize (srt bfE J).getD z.toNat eD=u at *
     obtain⟨uk,uc,ue⟩:=u
     simp only at ecf
     subst ecf
     generalize srt bfE J=SJ at *
     generalize iU d J=KJ at *
     generalize aO LO d=a' at *
     obtain⟨c1',c2'⟩:=a'
     simp only at h5 hgz ⊢
     have hcl:((J.length:Int) > z)=True:=eq_true cl
     (repeat' (first|(simp (disch:=first|exact dqz|fail) only[pgz,simprocAttr,pgE,pgj,iC,hJe,hcl])|(refine tE ?_ ?_<;>intro hc)|(refine kw _ _ _ _ _ ?_)|(with_reducible refine cK ?_)))
     refine Yh (Yi _ [0]) ?_
     (repeat' (first|(simp (disch:=first|exact dqz|fail) only[pgz,simprocAttr,pgE,pgj,iC,hJe,hse,hsl,hgz,hcl,id_eq.{1}])|(refine tC ?_;first|refine cU h5 ?_|refine cF hso hsf ?_|refine cF hlo hlf ?_)|(refine tE ?_ ?_<;>intro hc)|(with_reducible refine bH ?_)|(refine kw _ _ _ _ _ ?_)|(with_reducible refine cK ?_)))
     all_goals (refine rT [4] ?_;first|rfl|simp only[pgo,simprocAttr]|skip)
     all_goals (rw[←hsA,‹(sA||jF)=_›];rfl)
    ·rw[if_neg cl] at hM
     subst hM
     have hcl:((J.length:Int) > z)=False:=eq_false cl
     (repeat' (first|(simp (disch:=first|exact dqz|fail) only[pgz,simprocAttr,pgE,pgj,iC,hJe,hcl])|(refine tE ?_ ?_<;>intro hc)|(with_reducible refine bH ?_)|(refine kw _ _ _ _ _ ?_)|(with_reducible refine cK ?_)))
     (refine rT [0] ?_;first|rfl|simp only[pgo,simprocAttr]|skip)
     rw[hsA];rfl
theorem GX(x y:Fq)(hx:octE x.e)(hy:octE y.e)(hxn:x.e.length≤1000000)(hyn:y.e.length≤1000000):Pg.Good Tryz.prog 58 [.agg (fqF x),.agg (fqF y)] (.tup [.agg (fqF (qF x y).1),vi (qF x y).2]):=by
 have h1:=mf x hx hxn
 have h2:=mf y hy hyn
 by_cases c1:vFq x=0
 ·by_cases c2:vFq y=0
  ·by_cases c3:x.z=y.z
   ·exact GG x y hx hy c1 c2 c3
   ·unfold qF
    rw[if_neg (fun h=>h c1),if_neg (fun h=>h c2),if_pos c3]
    rw[c1] at h1
    rw[c2] at h2
    refine Good.fzt (vs:=[.agg [vi 0,vi 0,vi 0,nls,vb false],vi 10]) ?_ rfl ⟨FN,aH _,trivial⟩
    have c3':(x.z=y.z)=False:=eq_false c3
    obtain⟨z,t,lo,l,b⟩:=x
    obtain⟨z2,t2,lo2,l2,b2⟩:=y
    simp only at *
    refine gI oG Tryz.func58 Tryz.results58 ?_
    (repeat' (first|(simp (disch:=first|exact dqz|fail) only[pgz,simprocAttr,c3',pga,pgG])|((with_reducible show bU _ _ _ _ _ _);first|refine cU h1 ?_|refine cU h2 ?_)|((with_reducible show rO _ _ _ _ _ _ _);first|refine cA h1 ?_|refine cA h2 ?_)|(refine tS ?_ ?_<;>intro hc)|(with_reducible refine cKA ?_)|((with_reducible show wu _ _ _ _ _);first|refine zO (by decide +kernel) ?_|refine zQ (by decide +kernel) ?_|refine abu (by decide +kernel) ?_|refine abv (by decide +kernel) ?_)|(with_reducible refine cK ?_)))
    (refine rT [] ?_;first|rfl|simp only[pgo,simprocAttr]|skip)
  ·unfold qF
   rw[if_neg (fun h=>h c1),if_pos c2]
   rw[c1] at h1
   refine Good.fzt (vs:=[.agg [vi 0,vi 0,vi 0,nls,vb false],vi (vFq y)]) ?_ rfl ⟨FN,aH _,trivial⟩
   have c2':(vFq y=0)=False:=eq_false c2
   generalize vFq y=v at *
   obtain⟨z,t,lo,l,b⟩:=x
   obtain⟨z2,t2,lo2,l2,b2⟩:=y
   simp only at *
   refine gI oG Tryz.func58 Tryz.results58 ?_
   (repeat' (first|(simp (disch:=first|exact dqz|fail) only[pgz,simprocAttr,c2',pga,pgG])|((with_reducible show bU _ _ _ _ _ _);first|refine cU h1 ?_|refine cU h2 ?_)|((with_reducible show rO _ _ _ _ _ _ _);first|refine cA h1 ?_|refine cA h2 ?_)|(refine tS ?_ ?_<;>intro hc)|(with_reducible refine cKA ?_)|((with_reducible show wu _ _ _ _ _);first|refine zO (by decide +kernel) ?_|refine zQ (by decide +kernel) ?_|refine abu (by decide +kernel) ?_|refine abv (by decide +kernel) ?_)|(with_reducible refine cK ?_)))
   (refine rT [] ?_;first|rfl|simp only[pgo,simprocAttr]|skip)
 ·unfold qF
  rw[if_pos c1]
  refine Good.fzt (vs:=[.agg [vi 0,vi 0,vi 0,nls,vb false],vi (vFq x)]) ?_ rfl ⟨FN,aH _,trivial⟩
  have c1':(vFq x=0)=False:=eq_false c1
  generalize vFq x=v at *
  obtain⟨z,t,lo,l,b⟩:=x
  obtain⟨z2,t2,lo2,l2,b2⟩:=y
  simp only at *
  refine gI oG Tryz.func58 Tryz.results58 ?_
  (repeat' (first|(simp (disch:=first|exact dqz|fail) only[pgz,simprocAttr,c1',pga,pgG])|((with_reducible show bU _ _ _ _ _ _);refine cU h1 ?_)|((with_reducible show rO _ _ _ _ _ _ _);first|refine cA h1 ?_)|(refine tS ?_ ?_<;>intro hc)|(with_reducible refine cKA ?_)|((with_reducible show wu _ _ _ _ _);first|refine zO (by decide +kernel) ?_|refine zQ (by decide +kernel) ?_|refine abu (by decide +kernel) ?_|refine abv (by decide +kernel) ?_)|(with_reducible refine cK ?_)))
  (refine rT [] ?_;first|rfl|simp only[pgo,simprocAttr]|skip)
theorem aiM(x y:Tp)(hx:octE x.e)(hy:octE y.e)(hxn:x.e.length≤1000000)(hyn:y.e.length≤1000000):Pg.Good Tryz.prog 51 [.agg (tpF x),.agg (tpF y)] (.tup [.agg (tpF (sZ x y).1),vi (sZ x y).2]):=by
 have h1:=Jt x hx hxn
 have h2:=Jt y hy hyn
 by_cases c1:vTp x=0
 ·by_cases c2:vTp y=0
  ·by_cases c3:x.z=y.z
   ·unfold sZ
    rw[if_neg (fun h=>h c1),if_neg (fun h=>h c2),if_neg (fun h=>h c3)]
    exact Good.fzt (ait x y hx hy c1 c2 c3) rfl ⟨aH _,aH _,trivial⟩
   ·unfold sZ
    rw[if_neg (fun h=>h c1),if_neg (fun h=>h c2),if_pos c3]
    rw[c1] at h1
    rw[c2] at h2
    refine Good.fzt (vs:=[.agg [vi 0,vi 0,nls,vb false],vi 10]) ?_ rfl ⟨FK,aH _,trivial⟩
    have c3':(x.z=y.z)=False:=eq_false c3
    obtain⟨z,t,l,b⟩:=x
    obtain⟨z2,t2,l2,b2⟩:=y
    simp only at *
    refine gI (eu [] mix) Tryz.func51 Tryz.results51 ?_
    (repeat' (first|(simp (disch:=first|exact dqz|fail) only[pgz,simprocAttr,pgE,pgj,iC,c3'])|(refine tC ?_;first|refine cU h1 ?_|refine cU h2 ?_)|(refine tE ?_ ?_<;>intro hc)|(with_reducible refine bH ?_)|(with_reducible refine cK ?_)))
    (refine rT [] ?_;first|rfl|simp only[pgo,simprocAttr]|skip)
  ·unfold sZ
   rw[if_neg (fun h=>h c1),if_pos c2]
   rw[c1] at h1
   refine Good.fzt (vs:=[.agg [vi 0,vi 0,nls,vb false],vi (vTp y)]) ?_ rfl ⟨FK,aH _,trivial⟩
   have c2':(vTp y=0)=False:=eq_false c2
   generalize vTp y=v at *
   obtain⟨z,t,l,b⟩:=x
   obtain⟨z2,t2,l2,b2⟩:=y
   simp only at *
   refine gI (eu [] mix) Tryz.func51 Tryz.results51 ?_
   (repeat' (first|(simp (disch:=first|exact dqz|fail) only[pgz,simprocAttr,pgE,pgj,iC,c2'])|(refine tC ?_;first|refine cU h1 ?_|refine cU h2 ?_)|(refine tE ?_ ?_<;>intro hc)|(with_reducible refine bH ?_)|(with_reducible refine cK ?_)))
   (refine rT [] ?_;first|rfl|simp only[pgo,simprocAttr]|skip)
 ·unfold sZ
  rw[if_pos c1]
  refine Good.fzt (vs:=[.agg [vi 0,vi 0,nls,vb false],vi (vTp x)]) ?_ rfl ⟨FK,aH _,trivial⟩
  have c1':(vTp x=0)=False:=eq_false c1
  generalize vTp x=v at *
  obtain⟨z,t,l,b⟩:=x
  obtain⟨z2,t2,l2,b2⟩:=y
  simp only at *
  refine gI (eu [] mix) Tryz.func51 Tryz.results51 ?_
  (repeat' (first|(simp (disch:=first|exact dqz|fail) only[pgz,simprocAttr,pgE,pgj,iC,c1'])|(refine tC ?_;refine cU h1 ?_)|(refine tE ?_ ?_<;>intro hc)|(with_reducible refine bH ?_)|(with_reducible refine cK ?_)))
  (refine rT [] ?_;first|rfl|simp only[pgo,simprocAttr]|skip)
theorem NU(x:Tp)(k:List Nat)(ho:oct k)(hx:octE x.e)(c1:vTp x=0)(hk:iQ k=true):Pg.Good Tryz.prog 126 [.agg (tpF x),vs k] (.tup [eV (lZ x k).1,vb (lZ x k).2,vi 0]):=by
 obtain⟨i1,i2,i3,i4⟩:=kK c1
 have h1:=rZ x hx (by omega)
 rw[c1] at h1
 have h2:=xI k
 rw[hk] at h2
 have h3:=FI x.e k hx ho (by omega)
 have h4:=Xy x (by omega)
 have hfr:=lQ x.e k
 have hel:=aG x.e
 unfold lZ
 by_cases q:bi x.e k<0
 ·rw[if_pos q]
  have hq:(bi x.e k≥0)=False:=eq_false (by omega)
  generalize bi x.e k=fi at *
  generalize fK x=ls at *
  obtain⟨z,t,l,b⟩:=x
  simp only at *
  refine gI oG Tryz.func126 Tryz.results126 ?_
  (repeat' (first|(simp (disch:=first|exact dqz|fail) only[pgz,simprocAttr,hel,hq,pga,pgG])|((with_reducible show bU _ _ _ _ _ _);first|refine cU h1 ?_|refine cU h2 ?_|refine cU h3 ?_|refine cU h4 ?_)|((with_reducible show rO _ _ _ _ _ _ _);first|refine cA h1 ?_|refine cA h2 ?_|refine cA h3 ?_|refine cA h4 ?_)|(refine tS ?_ ?_<;>intro hc)|(with_reducible refine cKA ?_)|((with_reducible show wu _ _ _ _ _);first|refine zO (by decide +kernel) ?_|refine zQ (by decide +kernel) ?_|refine abu (by decide +kernel) ?_|refine abv (by decide +kernel) ?_)|(with_reducible refine cK ?_)))
  (refine rT [] ?_;first|rfl|simp only[pgo,simprocAttr]|skip)
 ·rw[if_neg q]
  have hq:(bi x.e k≥0)=True:=eq_true (by omega)
  have hg:=eY x.e (bi x.e k).toNat (by omega)
  generalize bi x.e k=fi at *
  obtain⟨z,t,l,b⟩:=x
  simp only at *
  generalize l.getD fi.toNat ([],0,0)=y at *
  refine gI oG Tryz.func126 Tryz.results126 ?_
  (repeat' (first|(simp (disch:=first|exact dqz|fail) only[pgz,simprocAttr,hel,hq,hg,pga,pgG])|((with_reducible show bU _ _ _ _ _ _);first|refine cU h1 ?_|refine cU h2 ?_|refine cU h3 ?_|refine cU h4 ?_)|((with_reducible show rO _ _ _ _ _ _ _);first|refine cA h1 ?_|refine cA h2 ?_|refine cA h3 ?_|refine cA h4 ?_)|(refine tS ?_ ?_<;>intro hc)|(with_reducible refine cKA ?_)|((with_reducible show wu _ _ _ _ _);first|refine zO (by decide +kernel) ?_|refine zQ (by decide +kernel) ?_|refine abu (by decide +kernel) ?_|refine abv (by decide +kernel) ?_)|(with_reducible refine cK ?_)))
  (refine rT [] ?_;first|rfl|simp only[pgo,simprocAttr]|skip)
end Go.Proofs.YtiohdbjggmmjcaaGreat
