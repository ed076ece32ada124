/-
  Merged texts.
-/
import Derived.Test.YtiohdbjggmmjcaaGreatWAM
import Derived.Test.YtiohdbjggmmjcaaGreatProg
set_option linter.unusedVariables false
set_option linter.unusedSimpArgs false
set_option linter.unusedSectionVars false
set_option linter.defProp false
set_option maxRecDepth 100000
set_option maxHeartbeats 8000000
section
namespace Go.Pg
open Go
def tzc(P:Program)(t:TypeId):Option (List V):=(kV P t).map fun z=>z.cells.toList.map .c
section
variable (P:Program) (e:Nat→V) (b:Bxx) (n:Nat) (h:Nat→V) (t:TypeId)
theorem Wn:qZ P ⟨e,b,n,h⟩ t=(tzc P t).map fun l=>(.ref n 0,⟨e,upd b n (some (t,l)),n+1,h⟩):=by simp only[qZ,tzc,Option.map_map];rfl
theorem ad5(x:V):J7 ⟨e,b,n,h⟩ t x=x.cs.map fun l=>(.ref n 0,⟨e,upd b n (some (t,l)),n+1,h⟩):=rfl
theorem aaK(k off:Nat):lH P ⟨e,b,n,h⟩ t k off=(b k).bind fun x=>dY P t x.2 off:=rfl
theorem Wp(k off:Nat)(x:V):jB P ⟨e,b,n,h⟩ t k off x=(b k).bind fun y=>x.cs.bind fun l=>if tsz P t=some l.length∧off+l.length≤y.2.length∧l.all V.one=true then some ⟨e,upd b k (some (y.1,y.2.take off++l++y.2.drop (off+l.length))),n,h⟩ else none:=rfl
theorem QV(src dst:TypeId)(k off:Nat):jg P ⟨e,b,n,h⟩ src dst (.ref k off)=(b k).bind fun y=>if Us P src dst y.1 y.2.length off=true then some (.ref k off) else none:=rfl
theorem ae(len:Nat)(parts:List (Nat × V)):eP P ⟨e,b,n,h⟩ t len parts=(elemT P t).bind fun el=>(tapp P el).bind fun p=>(zelem P el).bind fun z=>(setAll p.1 (List.replicate len z) parts).bind fun xs =>
  if len*p.1≤16777216 then some (.sl (bsTag len n el) p.1 xs,⟨e,b,n+1,h⟩) else none:=rfl
theorem aaL(id:Nat)(t:TypeId):bsTag 0 id t = .nn:=rfl
theorem aaM(l id:Nat)(t:TypeId):bsTag (l+1) id t = .own id t:=rfl
def mkK(b:Nat)(l c:Int)(x:Option (V × St)):Option (V × St):=if 0≤l∧l≤c∧(b:Int)*c≤281474976710656∧c≤9223372036854775807 then x else none
theorem ad6(b:Nat)(l c:Int)(x:Option (V × St))(h:0≤l∧l≤c∧(b:Int)*c≤281474976710656∧c≤9223372036854775807):mkK b l c x=x:=if_pos h
theorem aaN(k k':IntKind)(l c:Int):vJ P ⟨e,b,n,h⟩ t (.c (.int k l)) (.c (.int k' c))=(elemT P t).bind fun el=>(tapp P el).bind fun p=>(zelem P el).bind fun z=>mkK p.2 l c (some (.sl (.own n el) p.1 (List.replicate l.toNat z),⟨e,b,n+1,h⟩)):=rfl
def apK(e:Nat→V)(b:Bxx)(n:Nat)(h:Nat→V)(el k bytes:Nat)(x:V)(ys:List V):Option (V × St) :=
 match x with
 | .c (.slice none 0 0)=>if Fits ys.length bytes then some (.sl (.own n el) k ys,⟨e,b,n+1,h⟩) else none
 | .sl (.own id e') k' xs=>if e'=el∧k'=k∧Fits (xs.length+ys.length) bytes then some (.sl (.own id el) k (xs++ys),⟨dX (aJ id) e,mapB (aJ id) b,max n (id+1),dX (aJ id) h⟩) else none
 | .sl .nn _ []=>if Fits ys.length bytes then some (.sl (mX ys n el) k ys,⟨e,b,n+1,h⟩) else none
 | _=>none
theorem DZ(t2:TypeId)(x y:V):jP P ⟨e,b,n,h⟩ t t2 x y=(elemT P t).bind fun el=>(tapp P el).bind fun p=>(vH P t2 p.1 y).bind fun ys=>apK e b n h el p.1 p.2 x ys:=by
 simp only[jP]
 cases elemT P t with
 | none=>rfl
 | some el =>
  simp only[Option.bind_some]
  cases tapp P el with
  | none=>rfl
  | some p =>
   simp only[Option.bind_some]
   cases vH P t2 p.1 y with
   | none=>rfl
   | some ys=>rfl
theorem aaO(el k bytes:Nat)(ys:List V)(hf:Fits ys.length bytes):apK e b n h el k bytes (.c (.slice none 0 0)) ys=some (.sl (.own n el) k ys,⟨e,b,n+1,h⟩):=if_pos hf
theorem Wq(el k bytes k':Nat)(ys:List V)(hf:Fits ys.length bytes)(h0:0<ys.length):apK e b n h el k bytes (.sl .nn k' []) ys=some (.sl (.own n el) k ys,⟨e,b,n+1,h⟩):=by
 cases ys with
 | nil=>cases h0
 | cons y ys=>exact if_pos hf
theorem Oo(el k bytes k':Nat)(hf:Fits 0 bytes):apK e b n h el k bytes (.sl .nn k' []) []=some (.sl .nn k [],⟨e,b,n+1,h⟩):=if_pos hf
theorem E5(el k bytes id:Nat)(xs ys:List V)(hf:Fits (xs.length+ys.length) bytes):apK e b n h el k bytes (.sl (.own id el) k xs) ys=some (.sl (.own id el) k (xs++ys),⟨dX (aJ id) e,mapB (aJ id) b,max n (id+1),dX (aJ id) h⟩):=if_pos ⟨rfl,rfl,hf⟩
end
section
variable (P:Program) (t:TypeId)
def ldK(ag:Option Bool)(sz:Option Nat)(cs:List V)(off:Nat):Option V :=
 match ag with
 | some true=>sz.bind fun n=>if off+n≤cs.length then some (.agg ((cs.drop off).take n)) else none
 | some false=>cs[off]?
 | none=>none
theorem QW(cs:List V)(off:Nat):dY P t cs off=ldK (kZ P t) (tsz P t) cs off:=by
 unfold dY ldK;cases kZ P t with
 | none=>rfl
 | some b=>cases b<;>rfl
theorem afQ(sz:Option Nat)(cs:List V)(off:Nat):ldK (some false) sz cs off=cs[off]?:=rfl
theorem afR(n:Nat)(cs:List V)(off:Nat):ldK (some true) (some n) cs off=if off+n≤cs.length then some (.agg ((cs.drop off).take n)) else none:=rfl
theorem aaP(k off f:Nat):faV P t (.ref k off) f=(lg P t f).bind fun p=>(tsz P p.1).bind fun k'=>if k'=0 then none else some (.ref k (off+p.2)):=rfl
theorem ad7(tg:Tag)(j:Nat)(xs:List V)(i off f:Nat):faV P t (.el tg j xs i off) f=(lg P t f).bind fun p=>(tsz P p.1).bind fun k'=>if k'=0 then none else some (.el tg j xs i (off+p.2)):=rfl
theorem Ws(cs:List V)(f:Nat):wZ P t (.agg cs) f=(lg P t f).bind fun p=>dY P p.1 cs p.2:=rfl
theorem afS(tg:Tag)(k:Nat)(xs:List V)(ik:IntKind)(n:Int)(h0:0≤n)(h:n<xs.length):iaV P t (.sl tg k xs) (.c (.int ik n))=if (elemT P t).bind (tsz P)=some k then some (.el tg k xs n.toNat 0) else none:=by
 rw[adY];by_cases he:(elemT P t).bind (tsz P)=some k<;>simp [he,h0,h]
theorem aaQ(b off:Nat)(ik:IntKind)(n:Int):iaV P t (.ref b off) (.c (.int ik n))=(oN P t).bind fun p=>(tsz P p.2).bind fun k=>if 0≤n∧n<p.1 then some (.ref b (off+n.toNat*k)) else none:=rfl
theorem Oq(z:ByteArray)(ik:IntKind)(n:Int)(h0:0≤n)(h:n<z.size):ixV P t (.c (.string z)) (.c (.int ik n))=if gy P t=true then some (.c (.int .u8 ((z.data.toList.getD n.toNat 0).toNat))) else none:=by
 unfold ixV;by_cases he:gy P t=true<;>simp [he,h0,h]
theorem ad8(l:List Nat)(ik:IntKind)(n:Int)(ho:oct l)(h0:0≤n)(h:n<l.length):ixV P t (.c (.string (sB l))) (.c (.int ik n))=if gy P t=true then some (.c (.int .u8 (l.getD n.toNat 0:Nat))) else none:=by
 rw[Oq P t _ _ _ h0 (by rw[mi];exact h),LD ho]
theorem aaR(cs:List V)(ik:IntKind)(n:Int):ixV P t (.agg cs) (.c (.int ik n))=(oN P t).bind fun p=>(tsz P p.2).bind fun k=>if 0≤n∧n<p.1 then dY P p.2 cs (n.toNat*k) else none:=rfl
def cvK(d:Option IntKind)(f:Option FloatKind)(n:Int):Option V:=match d with|some k=>some (.c (.int k (k.wrap n)))|none=>f.map fun k => .c (.float k (k.nearest n))
theorem aaS(src:TypeId)(k:IntKind)(n:Int):kW P src t (.c (.int k n))=if (P.underlying src).isSome=true then cvK (qg P t) (Ue P t) n else none:=by
 unfold kW
 cases qg P t with
 | none=>rfl
 | some k'=>rfl
theorem afT(k:IntKind)(f:Option FloatKind)(n:Int):cvK (some k) f n=some (.c (.int k (k.wrap n))):=rfl
theorem QX(src:TypeId)(z:ByteArray):kW P src t (.c (.string z))=if (P.underlying src).isSome&&gy P t then some (.c (.string z)) else none:=by
 unfold kW;cases qg P t<;>rfl
theorem Wu(parts:List (Nat × V)):uA P t parts=(tzc P t).bind fun l=>(zH P t).bind fun ps=>(qY ps l parts).map .agg:=by
 simp only[uA,tzc]
 cases kV P t<;>rfl
theorem QY(places:List (Nat × Nat))(cells:List V):qY places cells []=some cells:=rfl
def Wv(p:Option (Nat × Nat))(c:Option (List V))(places:List (Nat × Nat))(cells:List V)(rest:List (Nat × V)):Option (List V) :=
 p.bind fun p=>c.bind fun l=>if l.length=p.2∧p.1+l.length≤cells.length then qY places (cells.take p.1++l++cells.drop (p.1+l.length)) rest else none
theorem LG(places:List (Nat × Nat))(cells:List V)(i:Nat)(v:V)(rest:List (Nat × V)):qY places cells ((i,v)::rest)=Wv (places[i]?) v.cs places cells rest:=by
 unfold Wv
 rw[qY]
 cases places[i]? with
 | none=>rfl
 | some p=>cases v.cs<;>rfl
theorem aaT(p:Nat × Nat)(l:List V)(places:List (Nat × Nat))(cells:List V)(rest:List (Nat × V)):Wv (some p) (some l) places cells rest=if l.length=p.2∧p.1+l.length≤cells.length then qY places (cells.take p.1++l++cells.drop (p.1+l.length)) rest else none:=rfl
theorem LH(k:Nat)(xs:List V):setAll k xs []=some xs:=rfl
def ad9(c:Option (List V))(fr:Bool)(k i:Nat)(v:V)(xs:List V)(rest:List (Nat × V)):Option (List V) :=
 c.bind fun l=>if l.length=k∧fr=true∧l.all V.one=true∧i<xs.length then setAll k (xs.set i v) rest else none
theorem IP(k:Nat)(xs:List V)(i:Nat)(v:V)(rest:List (Nat × V)):setAll k xs ((i,v)::rest)=ad9 v.cs v.free k i v xs rest:=by
 unfold ad9
 rw[setAll]
 cases v.cs<;>rfl
theorem aea(l:List V)(fr:Bool)(k i:Nat)(v:V)(xs:List V)(rest:List (Nat × V)):ad9 (some l) fr k i v xs rest=if l.length=k∧fr=true∧l.all V.one=true∧i<xs.length then setAll k (xs.set i v) rest else none:=rfl
theorem afU(b:Bool):unV .not (.c (.bool b))=some (.c (.bool (!b))):=rfl
theorem afV(k:IntKind)(n:Int):unV .neg (.c (.int k n))=some (.c (.int k (k.wrap (0-n)))):=rfl
theorem afW(k:IntKind)(n:Int):unV .xor (.c (.int k n))=some (.c (.int k (bits .xor k (if k.signed then -1 else k.max) n))):=rfl
theorem aaU(xs ys:List V):eX P .eql t (.agg xs) (.agg ys)=(uo P t).bind fun pl=>(eqL pl xs ys).map fun b => .c (.bool b):=rfl
theorem aaV(xs ys:List V):eX P .neq t (.agg xs) (.agg ys)=(uo P t).bind fun pl=>(eqL pl xs ys).map fun b => .c (.bool (!b)):=rfl
theorem aaW(xs ys:List V):eqL [] xs ys=some true:=rfl
theorem Wx(o:Nat)(k:EqK)(r:List (Nat × EqK))(xs ys:List V):eqL ((o,k)::r) xs ys=eqK k xs[o]? ys[o]? (eqL r xs ys):=rfl
theorem afX(k:IntKind)(a b:Int)(z:Bool):eqK .n (some (.c (.int k a))) (some (.c (.int k b))) (some z)=some ((a == b)&&z):=by simp [eqK]
theorem afY(a b z:Bool):eqK .b (some (.c (.bool a))) (some (.c (.bool b))) (some z)=some ((a == b)&&z):=rfl
theorem afZ(a b:ByteArray)(z:Bool):eqK .s (some (.c (.string a))) (some (.c (.string b))) (some z)=some (decide (a=b)&&z):=rfl
theorem Wy:eX P .eql t (.c (.pointer none)) (.c (.pointer none))=if je P t=true then some (.c (.bool true)) else none:=rfl
theorem WA:eX P .neq t (.c (.pointer none)) (.c (.pointer none))=if je P t=true then some (.c (.bool false)) else none:=rfl
theorem WB(b o:Nat):eX P .eql t (.ref b o) (.c (.pointer none))=if je P t=true then some (.c (.bool false)) else none:=rfl
theorem WC(b o:Nat):eX P .neq t (.ref b o) (.c (.pointer none))=if je P t=true then some (.c (.bool true)) else none:=rfl
theorem QZ(b o:Nat):eX P .neq t (.ref b o) (.ref b o)=if je P t=true then some (.c (.bool false)) else none:=by
 show (if je P t=true∧b=b∧o=o then _ else _)=_
 by_cases h:je P t=true<;>simp [h]
theorem Q3(b o:Nat):eX P .eql t (.ref b o) (.ref b o)=if je P t=true then some (.c (.bool true)) else none:=by
 show (if je P t=true∧b=b∧o=o then _ else _)=_
 by_cases h:je P t=true<;>simp [h]
theorem aaX:eX P .eql t (.c (.slice none 0 0)) (.c (.slice none 0 0))=if (elemT P t).isSome=true then some (.c (.bool true)) else none:=rfl
theorem aeb(k:Nat)(xs:List V)(hx:xs=[]):eX P .eql t (.sl .nn k xs) (.c (.slice none 0 0))=if (elemT P t).isSome=true then some (.c (.bool false)) else none:=by subst hx;rfl
theorem aec(tg:Tag)(k:Nat)(x:V)(xs:List V):eX P .eql t (.sl tg k (x::xs)) (.c (.slice none 0 0))=if (elemT P t).isSome=true then some (.c (.bool false)) else none:=rfl
theorem ag3(k:IntKind)(a b:Int)(h:b≠0):eX P .quo t (.c (.int k a)) (.c (.int k b))=some (.c (.int k (k.wrap (a.tdiv b)))):=by rw[Vj,if_neg h]
theorem ag4(k:IntKind)(a b:Int)(h:b≠0):eX P .rem t (.c (.int k a)) (.c (.int k b))=some (.c (.int k (a.tmod b))):=by rw[akf,if_neg h]
theorem ag5(k k2:IntKind)(a b:Int)(h:0≤b):eX P .shl t (.c (.int k a)) (.c (.int k2 b))=some (.c (.int k (k.wrap (a*2^min b.toNat k.bits)))):=by rw[Vu,if_neg (by omega)]
theorem ag6(k k2:IntKind)(a b:Int)(h:0≤b):eX P .shr t (.c (.int k a)) (.c (.int k2 b))=some (.c (.int k (a.fdiv (2^min b.toNat k.bits)))):=by rw[Vw,if_neg (by omega)]
theorem LJ(l:List Nat)(lo hi:Option V)(a c:Int)(ha:bdV lo 0=some a)(hc:bdV hi l.length=some c)(h0:0≤a)(h1:a≤c)(h2:c≤l.length):slV P t (.c (.string (sB l))) lo hi=if gy P t=true then some (.c (.string (sB ((l.take c.toNat).drop a.toNat)))) else none:=by
 rw[aaA,ha,mi,hc]
 simp only[Option.bind_some,ad3]
 by_cases he:gy P t=true<;>simp [he,h0,h1,h2]
theorem aed(l:List Nat)(k:IntKind)(a:Int)(h0:0≤a)(h1:a≤l.length):slV P t (.c (.string (sB l))) (some (.c (.int k a))) none=if gy P t=true then some (.c (.string (sB (l.drop a.toNat)))) else none:=by
 rw[LJ P t l _ _ a l.length rfl rfl h0 h1 (Int.le_refl _)]
 simp
theorem aee(l:List Nat)(k:IntKind)(c:Int)(h0:0≤c)(h1:c≤l.length):slV P t (.c (.string (sB l))) none (some (.c (.int k c)))=if gy P t=true then some (.c (.string (sB (l.take c.toNat)))) else none:=by
 rw[LJ P t l _ _ 0 c rfl rfl (Int.le_refl _) h0 h1]
 simp
theorem aef(l:List Nat)(k k':IntKind)(a c:Int)(h0:0≤a)(h1:a≤c)(h2:c≤l.length):slV P t (.c (.string (sB l))) (some (.c (.int k a))) (some (.c (.int k' c)))=if gy P t=true then some (.c (.string (sB ((l.take c.toNat).drop a.toNat)))) else none :=
 LJ P t l _ _ a c rfl rfl h0 h1 h2
end
theorem WE(n:Int)(h0 : -9223372036854775808≤n)(h1:n≤9223372036854775807):IntKind.i64.wrap n=n:=IntWalk.i64_in n ⟨h0,h1⟩
theorem ag7(n:Int)(h0:0≤n)(h1:n≤255):IntKind.u8.wrap n=n:=IntWalk.u8_in n ⟨h0,h1⟩
theorem acY(n:Int)(h0:0≤n)(h1:n≤18446744073709551615):IntKind.u64.wrap n=n:=IntWalk.u64_in n ⟨h0,h1⟩
theorem af0(n:Int)(h0:0≤n)(h1:n≤4294967295):IntKind.u32.wrap n=n:=IntWalk.u32_in n ⟨h0,h1⟩
theorem af1(p:Prop)[Decidable p](h:p):decide p=true:=decide_eq_true h
theorem af2(p:Prop)[Decidable p](h:¬p):decide p=false:=decide_eq_false h
theorem af4(a b:Int)(h:a=b):(a == b)=true:=by simp [h]
theorem af5(a b:Int)(h:a≠b):(a == b)=false:=by simp [h]
theorem af6(a b:Int)(h:a≠b):(a != b)=true:=by simp [h]
theorem af7(a b:Int)(h:a=b):(a != b)=false:=by simp [h]
def iP:List (Nat × V)→Nat→V
 | [],_ => .top
 | (k,v)::r,t=>if t=k then v else iP r t
theorem cu(t:Nat):iP [] t = .top:=rfl
theorem cO(k:Nat)(v:V)(r:List (Nat × V))(t:Nat):iP ((k,v)::r) t=if t=k then v else iP r t:=rfl
def LK:List (Nat × TypeId × List V)→Bxx
 | [],_=>none
 | (k,v)::r,t=>if t=k then some v else LK r t
theorem WF(t:Nat):LK [] t=none:=rfl
theorem Ot(k:Nat)(v:TypeId × List V)(r:List (Nat × TypeId × List V))(t:Nat):LK ((k,v)::r) t=if t=k then some v else LK r t:=rfl
def mkA(X:List (Nat × V))(B:List (Nat × TypeId × List V))(n:Nat)(h:Nat→V):St:=⟨iP X,LK B,n,h⟩
theorem aeg(X:List (Nat × V))(B:List (Nat × TypeId × List V))(n:Nat)(h:Nat→V):mkA X B n h=⟨iP X,LK B,n,h⟩:=rfl
def GenA(l m:List Nat)(e:Nat→V):List (Nat × V)→Prop
 | []=>True
 | (k,v)::r=>Gen l m (e k) v∧GenA l m e r
theorem dL(l m:List Nat)(e:Nat→V):GenA l m e []=True:=rfl
theorem di(l m:List Nat)(e:Nat→V)(k:Nat)(v:V)(r:List (Nat × V)):GenA l m e ((k,v)::r)=(Gen l m (e k) v∧GenA l m e r):=rfl
theorem GenA.fin{l m:List Nat}{e:Nat→V}{X:List (Nat × V)}(h:GenA l m e X)(t:Nat):Gen l m (e t) (iP X t):=by
 induction X with
 | nil=>exact .inl rfl
 | cons x r ih =>
  obtain⟨k,v⟩:=x
  rw[cO]
  split
  ·rename_i hk;subst hk;exact h.1
  ·exact ih h.2
def GenB(l m:List Nat)(b:Bxx):List (Nat × TypeId × List V)→Prop
 | []=>True
 | (k,x)::r=>(∃b0 cs0,m[k]?=some b0∧b b0=some (x.1,cs0)∧GenL l m cs0 x.2)∧GenB l m b r
theorem dI{l m:List Nat}{b:Bxx}{k:Nat}{x:TypeId × List V}{r:List (Nat × TypeId × List V)}(b0:Nat)(cs0:List V)(h1:m[k]?=some b0)(h2:b b0=some (x.1,cs0))(h3:GenL l m cs0 x.2)(h4:GenB l m b r):GenB l m b ((k,x)::r):=⟨⟨b0,cs0,h1,h2,h3⟩,h4⟩
theorem GenB.fin{l m:List Nat}{b:Bxx}{B:List (Nat × TypeId × List V)}(h:GenB l m b B)(k:Nat)(x:TypeId × List V)(hx:LK B k=some x):∃b0 cs0,m[k]?=some b0∧b b0=some (x.1,cs0)∧GenL l m cs0 x.2:=by
 induction B with
 | nil=>cases hx
 | cons y r ih =>
  obtain⟨k',v⟩:=y
  rw[Ot] at hx
  split at hx
  ·rename_i hk;subst hk;simp only[Option.some.injEq] at hx;subst hx;exact h.1
  ·exact ih h.2 hx
theorem dM(l m:List Nat):GenL l m [] []=True:=rfl
theorem dm(l m:List Nat)(x y:V)(xs ys:List V):GenL l m (x::xs) (y::ys)=(Gen l m x y∧GenL l m xs ys):=rfl
theorem dN{l m:List Nat}{s:St}{X:List (Nat × V)}{B:List (Nat × TypeId × List V)}{n:Nat}{h:Nat→V}(hX:GenA l m s.env X)(hB:GenB l m s.bx B)(hh:∀t,Gen l m (s.hd t) (h t))(hl:l.Nodup)(hm:m.Nodup)(hn:l.length≤n)(hn':m.length≤n):Keep l m s (mkA X B n h) where
 env:=hX.fin
 hd:=hh
 bx:=hB.fin
 ndl:=hl
 ndm:=hm
 nidl:=hn
 nidm:=hn'
theorem gu(l m:List Nat)(f:Nat→V):∀t,Gen l m (f t) ((fun _ => .top:Nat→V) t):=fun _ => .inl rfl
theorem jq{l m:List Nat}{b b' o:Nat}(h:(m.contains b&&m.idxOf b == b')=true):Gen l m (.ref b o) (.ref b' o):=by
 simp only[Bool.and_eq_true,beq_iff_eq,List.contains_iff_mem] at h
 refine .inr (.inl ⟨by simp [V.any,AU,h.1],by simp [V.map,h.2]⟩)
theorem WG{l m:List Nat}{i j:Nat}{e:TypeId}{k:Nat}{xs ys:List V}(h:(l.contains i&&l.idxOf i == j)=true)(hx:elE k xs ys):Gen l m (.sl (.own i e) k xs) (.sl (.own j e) k ys):=by
 simp only[Bool.and_eq_true,beq_iff_eq,List.contains_iff_mem] at h
 refine .inr (.inr (.inr (.inl ⟨_,_,xs,ys,rfl,by simp [Tag.notIn,h.1],by simp [nz,h.2],hx⟩)))
theorem eH{l m:List Nat}{u v:Value}(h:u=v):Gen l m (.c u) (.c v):=by subst h;exact of_eq_true (iO _ _ _)
theorem dE{l m:List Nat}{k:IntKind}{a b:Int}(h:a=b):Gen l m (.c (.int k a)) (.c (.int k b)):=by subst h;exact of_eq_true (iO _ _ _)
theorem gG{l m:List Nat}{t:Tag}{k:Nat}{xs:List V}(h:xs=[])(ht:t.notNN=true:=by rfl):Gen l m (.c (.slice none 0 0)) (.sl t k xs):=by subst h;exact of_eq_true (aaH _ _ _ _ ht)
theorem df{ι:Type}{D:Dw}{P:Program}[Tb P]{x:Code}{Q:Exit→St→Prop}{s:St}(S:ι→St)(Inv:ι→Prop)(μ:ι→Nat)(i0:ι)(l m:List Nat)(hk:Keep l m s (S i0))(h0:Inv i0)
  (hr:∀i,Inv i→wpS D P x (yV S Inv μ i Q) (S i)):Be D P x Q s :=
 aaI S Inv μ i0 l m hk h0 (fun i hi s hs=>by subst hs;exact hr i hi)
theorem az{ops:List Oper}{ks:List Kd}{q:Prop}(h1:xC ops ks=true)(h2:q):xC ops ks=true∧q:=⟨h1,h2⟩
theorem ak{P:Program}[Tb P]{b want:Bool}{dsts:List (Option Nat)}{ops:List Oper}{Q:Exit→St→Prop}{o:Oper}{rest:List Oper}{ks:List Kd}{s:St}(ht:b=want→aA P s o (Qg P dsts ops Q rest ks))(hf:b = !want→oV P dsts ops Q rest (.p::ks) (s.put o.dst (.c undef))) :
  aU P (some (.c (.bool b))) want dsts ops Q o rest ks s:=Ld P ht hf
theorem dZ{P:Program}[Tb P]{g:FuncId}{args:List Operand}{d:Option Nat}{s s':St}{K:Kd→St→Prop}{vs:List V}(r:V)(hg:GoodZ P g vs s s' r)(hvs:args.map s.ev=vs)(hK:K .z (s'.put d r)):bU P (.fn g [] []) args d s K:=by
 refine .inr ⟨s',r, ?_,hK⟩
 simpa [hvs] using hg
theorem Q4{P:Program}[Tb P](s:St)(d:Option Nat)(src dst:TypeId)(b off:Nat)(K:Kd→St→Prop):Bc P s d src dst (.ref b off) K=xu (jg P s src dst (.ref b off)) s d K:=by
 rw[vY]
 have h1:kW P src dst (.ref b off)=none:=by unfold kW;cases qg P dst<;>rfl
 have h2:(jG P src dst (.ref b off)).map (fun r=>(r,s))=none:=rfl
 have h3:mZ P s src dst (.ref b off)=none:=rfl
 rw[h1,h2,h3]
 simp only[bK,aP,or_false,false_or]
theorem WH(s:St)(d:Option Nat)(b o:Nat)(K:Kd→St→Prop):UZ s d (.ref b o) K=K (kq [.ref b o] (.ref b o)) (s.put d (.ref b o)):=rfl
theorem aaY(s:St)(d:Option Nat)(t:Tag)(k:Nat)(xs:List V)(i o:Nat)(K:Kd→St→Prop):UZ s d (.el t k xs i o) K=K (kq [.el t k xs i o] (.el t k xs i o)) (s.put d (.el t k xs i o)):=rfl
theorem aaZ(s:St)(d:Option Nat)(f:FuncId)(x y:List V)(K:Kd→St→Prop):UZ s d (.fn f x y) K=K (kq [.fn f x y] (.fn f x y)) (s.put d (.fn f x y)):=rfl
theorem LM(P:Program)[Tb P](s:St)(d:Option Nat)(t:TypeId)(b off:Nat)(y:V)(K:Kd→St→Prop):EL P s d t (.ref b off) y K=iq ((jB P s t b off y).map fun s'=>(.top,s')) d .x K:=rfl
theorem LP(P:Program)[Tb P](s:St)(d:Option Nat)(t:TypeId)(id:Nat)(e:TypeId)(k:Nat)(xs:List V)(i off:Nat)(y:V)(K:Kd→St→Prop):EL P s d t (.el (.own id e) k xs i off) y K=(iq ((lq P s t id k xs i off y).map fun s'=>(.top,s')) d (.w id k) K∨stZ P s d t id e k xs i off y K):=rfl
theorem aeh(e:Nat→V)(b:Bxx)(n:Nat)(h:Nat→V)(v:V):St.put ⟨e,b,n,h⟩ none v=⟨e,b,n,h⟩:=rfl
def sbK(e:Nat→V)(bx:Bxx)(nn:Nat)(hd:Nat→V)(b off n:Nat)(sz:Option Nat)(l h:Int)(cs:List V):Option (V × St) :=
 if off=0∧sz=some 1∧cs.length=n∧cs.all (fun v=>v.free&&v.one)=true∧0≤l∧l≤h∧h≤n then some (.sl .fz 1 ((cs.take h.toNat).drop l.toNat),⟨dX (dP b) e,upd (mapB (dP b) bx) b none,nn,dX (dP b) hd⟩) else none
theorem LQ(P:Program)(e:Nat→V)(bx:Bxx)(nn:Nat)(hd:Nat→V)(d:Option Nat)(t:TypeId)(b off:Nat)(lo hi:Option V)(l:List V)(K:Kd→St→Prop):uM P ⟨e,bx,nn,hd⟩ d t (.ref b off) lo hi l K =
  iq ((bx b).bind fun y=>(oN P t).bind fun p=>(bdV lo 0).bind fun l=>(bdV hi p.1).bind fun h=>sbK e bx nn hd b off p.1 (tsz P p.2) l h y.2) d .z K:=rfl
theorem aei(e:Nat→V)(bx:Bxx)(nn:Nat)(hd:Nat→V)(b n:Nat)(l h:Int)(cs:List V)(h1:cs.length=n)(h2:cs.all (fun v=>v.free&&v.one)=true)(h3:0≤l)(h4:l≤h)(h5:h≤n) :
  sbK e bx nn hd b 0 n (some 1) l h cs=some (.sl .fz 1 ((cs.take h.toNat).drop l.toNat),⟨dX (dP b) e,upd (mapB (dP b) bx) b none,nn,dX (dP b) hd⟩):=if_pos ⟨rfl,rfl,h1,h2,h3,h4,h5⟩
theorem rM(b:Nat)(v:V):dP b v=if v.any (fun _=>false) (fun j=>j == b) false then .top else v:=rfl
section
variable (v:Value) (e:TypeId) (id k i o b:Nat) (xs cs:List V) (f:FuncId)
theorem af8:V.ids (.c v)=[]:=rfl
theorem aa0:V.ids (.sl (.own id e) k xs)=[id]:=rfl
theorem aej:V.ids (.sl .fz k xs)=[]:=rfl
theorem aek:V.ids (.sl .nn k xs)=[]:=rfl
theorem aa1:V.ids (.agg cs)=V.idsL cs:=rfl
theorem aa2:V.ids (.tup cs)=V.idsL cs:=rfl
theorem aa3:V.ids (.ref b o)=[]:=rfl
theorem ael:V.ids (.el (.own id e) k xs i o)=[id]:=rfl
theorem aa4:V.ids (.el .fz k xs i o)=[]:=rfl
theorem aem:V.ids (.fn f xs cs)=V.idsL xs++V.idsL cs:=rfl
theorem aa5:V.ids .top=[]:=rfl
theorem aa6:V.ids .nif=[]:=rfl
theorem WI:V.idsL []=[]:=rfl
theorem Q5(x:V):V.idsL (x::xs)=V.ids x++V.idsL xs:=rfl
theorem Bh(s:St)(ids:List Nat):s.freezeAll (i::ids)=(s.mapV (frz i)).freezeAll ids:=rfl
theorem aen:V.cs .nif=some [.nif]:=rfl
theorem aa7:V.one .nif=true:=rfl
theorem aa8(p:Tag→Bool)(q:Nat→Bool)(tp:Bool):V.any p q tp .nif=false:=rfl
theorem aa9(τ:Tag→Tag)(ρ:Nat→Nat):V.map τ ρ .nif = .nif:=rfl
theorem Q7(n:Nat):V.shift n .nif = .nif:=rfl
theorem aba:V.idb .nif=0:=rfl
theorem WJ:V.flat .nif=true:=rfl
theorem WL:V.free .nif=true:=rfl
end
section
variable (P:Program) (e:Nat→V) (b:Bxx) (n:Nat) (h:Nat→V)
theorem WM(t:TypeId)(id k:Nat)(xs:List V)(i off:Nat)(x:V):lq P ⟨e,b,n,h⟩ t id k xs i off x=(xs[i]?).bind fun x0=>x0.cs.bind fun c0=>x.cs.bind fun l=>(nS x0 (c0.take off++l++c0.drop (off+l.length))).bind fun x1 =>
  if tsz P t=some l.length∧off+l.length≤c0.length∧l.all V.one=true∧x1.free=true then some ⟨dX (aF id k i x1) e,mapB (aF id k i x1) b,n,dX (aF id k i x1) h⟩ else none:=rfl
theorem IQ(a l:List V):nS (.agg a) l=some (.agg l):=rfl
theorem Q8(v:Value)(y:V):nS (.c v) [y]=if V.one (.c v)=true then some y else none:=rfl
theorem LU(t:Tag)(k:Nat)(xs:List V)(y:V):nS (.sl t k xs) [y]=some y:=rfl
variable (id k i:Nat) (x:V)
theorem LV(ty:TypeId)(xs:List V):aF id k i x (.sl (.own id ty) k xs) = .sl (.own id ty) k (xs.set i x):=by simp [aF]
theorem Q9(j:Nat)(ty:TypeId)(k':Nat)(xs:List V)(hj:(j == id)=false):aF id k i x (.sl (.own j ty) k' xs) = .sl (.own j ty) k' xs:=by
 have:¬j=id:=by simpa using hj
 simp [aF,this]
theorem IR(ty:TypeId)(xs:List V)(i' off:Nat):aF id k i x (.el (.own id ty) k xs i' off) = .el (.own id ty) k (xs.set i x) i' off:=by simp [aF]
theorem LX(j:Nat)(ty:TypeId)(k':Nat)(xs:List V)(i' off:Nat)(hj:(j == id)=false):aF id k i x (.el (.own j ty) k' xs i' off) = .el (.own j ty) k' xs i' off:=by
 have:¬j=id:=by simpa using hj
 simp [aF,this]
theorem Rf(k':Nat)(xs:List V):aF id k i x (.sl .fz k' xs) = .sl .fz k' xs:=rfl
theorem Rh(k':Nat)(xs:List V):aF id k i x (.sl .nn k' xs) = .sl .nn k' xs:=rfl
theorem WN(v:Value):aF id k i x (.c v) = .c v:=rfl
theorem LY(c o:Nat):aF id k i x (.ref c o) = .ref c o:=rfl
theorem LZ:aF id k i x .top = .top:=by show aJ id .top = .top;unfold aJ;split<;>rfl
theorem L6(l:List V):aF id k i x (.agg l)=aJ id (.agg l):=rfl
theorem L8(l:List V):aF id k i x (.tup l)=aJ id (.tup l):=rfl
theorem L9(k':Nat)(xs:List V)(i' off:Nat):aF id k i x (.el .fz k' xs i' off) = .el .fz k' xs i' off:=rfl
theorem Ri(f:FuncId)(l m:List V):aF id k i x (.fn f l m)=aJ id (.fn f l m):=rfl
theorem Mc:aF id k i x .nif = .nif:=rfl
theorem mmT(k:IntKind)(a b:Int):nR true (.c (.int k a)) (.c (.int k b))=some (.c (.int k (max a b))):=by
 have h:(if b > a then b else a)=max a b:=by split<;>omega
 rw[←h];rfl
theorem mmF(k:IntKind)(a b:Int):nR false (.c (.int k a)) (.c (.int k b))=some (.c (.int k (min a b))):=by
 have h:(if b<a then b else a)=min a b:=by split<;>omega
 rw[←h];rfl
end
def pgf:=aI @fE (aI @fF (aI @WM (aI @IQ (aI @Q8 (aI @LU (aI @LV (aI @Q9 (aI @IR (aI @LX (aI @Rf (aI @Rh (aI @WN (aI @LY (aI @LZ (aI @L6 (aI @L8 (aI @L9 (aI @Ri (aI @Mc (aI @mmT (aI @mmF (aI @af8 (aI @aa0 (aI @aej (aI @aek (aI @aa1 (aI @aa2 (aI @aa3 (aI @ael (aI @aa4 (aI @aem (aI @aa5 (aI @aa6 (aI @WI (aI @Q5 (aI @Bh (aI @aen (aI @aa7 (aI @aa8 (aI @aa9 (aI @Q7 (aI @aba (aI @WJ (aI @WL (aI @ZU (aI @Io (aI @ZV (aI @UW (aI @ZW (aI @UX @pF))))))))))))))))))))))))))))))))))))))))))))))))))
theorem WO:xq (.c (.slice none 0 0)) = .n:=rfl
theorem abb(k:Nat):xq (.sl .nn k []) = .n:=rfl
theorem WP(id k:Nat)(e:TypeId)(xs:List V):xq (.sl (.own id e) k xs) = .g id:=rfl
def pgw:=aI @WO (aI @abb (aI @WP (aI @LQ (aI @aei (aI @rM (aI @aaL (aI @aaM (aI @aeb (aI @afJ (aI @VH (aI @VI (aI @aan (aI @VJ (aI @adP (aI @aao (aI @ad6 (aI @aaN (aI @aaU (aI @aaV (aI @aaW (aI @Wx (aI @afX (aI @afY (aI @afZ (aI @aeh (aI @WH (aI @aaY (aI @aaZ (aI @LM (aI @LP (aI @Wn (aI @ad5 (aI @aaK (aI @Wp (aI @QV (aI @DZ (aI @aaO (aI @Wq (aI @E5 (aI @QW (aI @afQ (aI @afR (aI @aaP (aI @ad7 (aI @Ws (aI @afS (aI @aaQ (aI @ad8 (aI @aaR (aI @aaS (aI @afT (aI @QX (aI @Wu (aI @QY (aI @LG (aI @aaT (aI @LH (aI @IP (aI @aea (aI @afU (aI @afV (aI @afW (aI @Wy (aI @WA (aI @WB (aI @WC (aI @QZ (aI @Q3 (aI @aaX (aI @aec (aI @ag3 (aI @ag4 (aI @ag5 (aI @ag6 (aI @aed (aI @aee (aI @aef (aI @cu (aI @cO (aI @WF (aI @Ot (aI @aeg (aI @Q4 (aI @mi (aI @rJ (aI @eG (aI @EX (aI @LC (aI @QU @DZ)))))))))))))))))))))))))))))))))))))))))))))))))))))))))))))))))))))))))))))))))))))))))
def pgb:=aI @WE (aI @ag7 (aI @acY (aI @af0 (aI @af1 (aI @af2 (aI @af4 (aI @af5 (aI @af6 @af7))))))))
def pgn:=aI @decide_true (aI @decide_false (aI @Nat.max_def (aI @Bool.not_eq_true (aI @Int.toNat_natCast (aI @Int.natCast_add (aI @Int.cast_ofNat_Int (aI @and_self (aI @not_true_eq_false (aI @not_false_eq_true (aI @Nat.le_refl (aI @Nat.add_zero (aI @Nat.zero_add (aI @eq_self.{1} (aI @Option.some.injEq.{0} (aI @List.getElem?_nil.{0} (aI @if_true.{1} (aI @if_false.{1} (aI @if_true.{0} @if_false.{0}))))))))))))))))))
def pgd:=aI @decide_eq_true_eq (aI @decide_eq_false_iff_not (aI @beq_iff_eq.{0} (aI @beq_eq_false_iff_ne.{0} (aI @bne_iff_ne.{0} (aI @bne_eq_false_iff_eq.{0} (aI @Bool.not_eq_true' (aI @Bool.not_eq_false' (aI @Int.not_lt (aI @Int.not_le (aI @Nat.not_lt (aI @Nat.not_le (aI @ne_eq.{1} (aI @Bool.not_true (aI @Bool.not_false (aI @Bool.not_not (aI @Bool.true_eq_false (aI @Bool.false_eq_true (aI @not_false_eq_true (aI @not_true_eq_false @Decidable.not_not)))))))))))))))))))
def pgq:=aI @rJ (aI @eG (aI @List.length_append.{0} (aI @List.length_cons.{0} (aI @List.length_nil.{0} (aI @List.length_map.{0,0} @mi)))))
def pgo:=aI pgs (aI pgl (aI pgx (aI pgw (aI pgf pgn))))
section
variable (P:Program) (s:St)
theorem aeo(a:ResultVar):nO P s [a]=oU P s a:=rfl
theorem aep(a b:ResultVar):nO P s [a,b]=(oU P s a).bind fun x=>(oU P s b).bind fun y=>some (.tup [x,y]):=by
 simp only[nO,List.mapM_cons,List.mapM_nil]
 cases oU P s a<;>cases oU P s b<;>rfl
theorem aeq(a b c:ResultVar):nO P s [a,b,c]=(oU P s a).bind fun x=>(oU P s b).bind fun y=>(oU P s c).bind fun z=>some (.tup [x,y,z]):=by
 simp only[nO,List.mapM_cons,List.mapM_nil]
 cases oU P s a<;>cases oU P s b<;>cases oU P s c<;>rfl
theorem WQ(t:Nat):oU P s (.tmp t)=some (s.env t):=rfl
def aer(P:Program)(b:Bxx)(x:V)(t:TypeId):Option V:=match x with | .ref k off=>(b k).bind fun y=>dY P t y.2 off|_=>none
theorem Rj(e:Nat→V)(b:Bxx)(n:Nat)(h:Nat→V)(a:Nat)(t:TypeId):oU P ⟨e,b,n,h⟩ (.cell a t)=aer P b (e a) t:=by
 unfold aer
 simp only[oU]
 cases e a<;>rfl
theorem WR(b:Bxx)(k off:Nat)(t:TypeId):aer P b (.ref k off) t=(b k).bind fun y=>dY P t y.2 off:=rfl
end
def pgr:=aI @aeo (aI @aep (aI @aeq (aI @WQ (aI @Rj @WR))))
end Go.Pg
end
namespace Go.Proofs.YtiohdbjggmmjcaaGreat
open Go Go.Pg
instance:Tb Tryz.prog where
 T _:=True
 keep _ _ _ _:=trivial
theorem aes(e:TypeId):Tb.nest Tryz.prog e=false:=rfl
theorem mix:Tryz.prog.follows .mixedOrders=true:=by kernel_rfl
abbrev Gxx(f:FuncId)(a:List V)(r:V):Prop:=Pg.Good Tryz.prog f a r
abbrev Gxz (f:FuncId) (a:List V) (s t:St) (r:V):Prop:=Pg.GoodZ Tryz.prog f a s t r
theorem tk{p:Prop}(h:p:=by (repeat' apply aI)<;>(show _=_)<;>kernel_rfl):p:=h
abbrev yB(t n:Nat)(a:Bool)(i:Option IntKind)(s b:Bool)(e:Option TypeId)(w:Nat):Prop:=(Tryz.prog.underlying t).isSome=true∧tsz Tryz.prog t=some n∧kZ Tryz.prog t=some a∧qg Tryz.prog t=i∧gy Tryz.prog t=s∧lG Tryz.prog t=b∧elemT Tryz.prog t=e∧tapp Tryz.prog t=some (n,w)
abbrev yS(t:Nat)(i:Option IntKind)(s b:Bool)(e:Option TypeId)(w:Nat)(z:Value):Prop:=yB t 1 false i s b e w∧tzc Tryz.prog t=some [.c z]∧zelem Tryz.prog t=some (.c z)
abbrev yI(t:Nat)(i:IntKind)(w:Nat):Prop:=yS t (some i) false false none w (.int i 0)
abbrev yL(t e:Nat):Prop:=yS t none false false (some e) 24 (.slice none 0 0)
abbrev yA(t n w:Nat)(l:List V):Prop:=yB t n true none false false none w∧tzc Tryz.prog t=some l∧zelem Tryz.prog t=some (.agg l)
abbrev yP(t:Nat)(l:List (Nat × Nat)):Prop:=zH Tryz.prog t=some l
abbrev y0:V := .c (.int .i64 0)
abbrev yu:V := .c (.int .u64 0)
abbrev yf:V := .c (.bool false)
abbrev yn:V := .c (.slice none 0 0)
abbrev yF(t j a b:Nat):Prop:=lg Tryz.prog t j=some (a,b)
theorem y2:yI 2 .i64 8:=tk
theorem y3:yI 3 .i64 8:=tk
theorem y4:yS 4 none false true none 1 (.bool false):=tk
theorem y5:yI 5 .u8 1:=tk
theorem y6:yI 6 .u8 1:=tk
theorem y7:yA 7 4 24 [y0,y0,yf,.c (.int .u8 0)]∧yF 7 0 2 0∧yF 7 1 3 1∧yF 7 2 4 2∧yF 7 3 6 3∧yP 7 [(0,1),(1,1),(2,1),(3,1)]∧uo Tryz.prog 7=some [(0,.n),(1,.n),(2,.b),(3,.n)]:=tk
theorem y9:yS 9 none true false none 16 (.string ⟨#[]⟩):=tk
theorem y12:yI 12 .u64 8:=tk
theorem y13:yA 13 2 24 [.c (.string ⟨#[]⟩),yu]∧yF 13 0 9 0∧yF 13 1 12 1∧yP 13 [(0,1),(1,1)]:=tk
theorem y16:yS 16 none false false none 8 (.pointer none)∧je Tryz.prog 16=true∧rC Tryz.prog 16=some 226:=tk
theorem y17:yS 17 none false false none 8 (.pointer none)∧je Tryz.prog 17=true∧rC Tryz.prog 17=some 235:=tk
theorem y18:yA 18 1 8 [.c (.pointer none)]∧yF 18 0 17 0∧yP 18 [(0,1)]:=tk
theorem y21:yI 21 .i32 4:=tk
theorem y22:yL 22 3:=tk
theorem y23:yI 23 .u64 8:=tk
theorem y24:yA 24 4 32 [y0,y0,y0,yu]∧yF 24 0 3 0∧yF 24 1 3 1∧yF 24 2 3 2∧yF 24 3 23 3∧yP 24 [(0,1),(1,1),(2,1),(3,1)]∧uo Tryz.prog 24=some [(0,.n),(1,.n),(2,.n),(3,.n)]:=tk
theorem y25:yA 25 4 32 [y0,y0,y0,yu]∧yF 25 0 3 0∧yF 25 1 3 1∧yF 25 2 3 2∧yF 25 3 23 3∧yP 25 [(0,1),(1,1),(2,1),(3,1)]∧uo Tryz.prog 25=some [(0,.n),(1,.n),(2,.n),(3,.n)]:=tk
theorem y26:yA 26 3 24 [y0,y0,yf]∧yF 26 0 3 0∧yF 26 1 3 1∧yF 26 2 4 2∧yP 26 [(0,1),(1,1),(2,1)]∧uo Tryz.prog 26=some [(0,.n),(1,.n),(2,.b)]:=tk
theorem y27:yA 27 3 24 [y0,y0,yf]∧yF 27 0 3 0∧yF 27 1 3 1∧yF 27 2 4 2∧yP 27 [(0,1),(1,1),(2,1)]∧uo Tryz.prog 27=some [(0,.n),(1,.n),(2,.b)]:=tk
theorem y28:yA 28 5 56 [y0,y0,yu,yn,yf]∧yF 28 0 3 0∧yF 28 1 3 1∧yF 28 2 23 2∧yF 28 3 22 3∧yF 28 4 4 4∧yP 28 [(0,1),(1,1),(2,1),(3,1),(4,1)]:=tk
theorem y29:yA 29 5 56 [y0,y0,yu,yn,yf]∧yF 29 0 3 0∧yF 29 1 3 1∧yF 29 2 23 2∧yF 29 3 22 3∧yF 29 4 4 4∧yP 29 [(0,1),(1,1),(2,1),(3,1),(4,1)]:=tk
theorem y30:yA 30 3 40 [y0,yu,yn]∧yF 30 0 3 0∧yF 30 1 23 1∧yF 30 2 22 2∧yP 30 [(0,1),(1,1),(2,1)]:=tk
theorem y31:yA 31 3 40 [y0,yu,yn]∧yF 31 0 3 0∧yF 31 1 23 1∧yF 31 2 22 2∧yP 31 [(0,1),(1,1),(2,1)]:=tk
theorem y32:yL 32 119:=tk
theorem y33:yA 33 4 48 [y0,y0,yn,yf]∧yF 33 0 3 0∧yF 33 1 3 1∧yF 33 2 32 2∧yF 33 3 4 3∧yP 33 [(0,1),(1,1),(2,1),(3,1)]:=tk
theorem y34:yA 34 4 48 [y0,y0,yn,yf]∧yF 34 0 3 0∧yF 34 1 3 1∧yF 34 2 32 2∧yF 34 3 4 3∧yP 34 [(0,1),(1,1),(2,1),(3,1)]:=tk
theorem y35:yA 35 5 56 [y0,y0,y0,yn,yf]∧yF 35 0 3 0∧yF 35 1 3 1∧yF 35 2 3 2∧yF 35 3 32 3∧yF 35 4 4 4∧yP 35 [(0,1),(1,1),(2,1),(3,1),(4,1)]:=tk
theorem y36:yA 36 5 56 [y0,y0,y0,yn,yf]∧yF 36 0 3 0∧yF 36 1 3 1∧yF 36 2 3 2∧yF 36 3 32 3∧yF 36 4 4 4∧yP 36 [(0,1),(1,1),(2,1),(3,1),(4,1)]:=tk
theorem y37:yL 37 98:=tk
theorem y38:yA 38 5 56 [y0,y0,y0,yn,yf]∧yF 38 0 3 0∧yF 38 1 3 1∧yF 38 2 3 2∧yF 38 3 37 3∧yF 38 4 4 4∧yP 38 [(0,1),(1,1),(2,1),(3,1),(4,1)]:=tk
theorem y39:yA 39 5 56 [y0,y0,y0,yn,yf]∧yF 39 0 3 0∧yF 39 1 3 1∧yF 39 2 3 2∧yF 39 3 37 3∧yF 39 4 4 4∧yP 39 [(0,1),(1,1),(2,1),(3,1),(4,1)]:=tk
theorem y40:yA 40 29 312 [y0,y0,y0,yu,y0,y0,yf,y0,y0,yu,yn,yf,y0,yu,yn,y0,y0,yn,yf,y0,y0,y0,yn,yf,y0,y0,y0,yn,yf]∧yF 40 0 25 0∧yF 40 1 27 4∧yF 40 2 29 7∧yF 40 3 31 12∧yF 40 4 34 15∧yF 40 5 36 19∧yF 40 6 39 24∧yP 40 [(0,4),(4,3),(7,5),(12,3),(15,4),(19,5),(24,5)]:=tk
theorem y41:yA 41 29 312 [y0,y0,y0,yu,y0,y0,yf,y0,y0,yu,yn,yf,y0,yu,yn,y0,y0,yn,yf,y0,y0,y0,yn,yf,y0,y0,y0,yn,yf]∧yF 41 0 25 0∧yF 41 1 27 4∧yF 41 2 29 7∧yF 41 3 31 12∧yF 41 4 34 15∧yF 41 5 36 19∧yF 41 6 39 24∧yP 41 [(0,4),(4,3),(7,5),(12,3),(15,4),(19,5),(24,5)]:=tk
theorem y44:yA 44 2 24 [.c (.string ⟨#[]⟩),y0]∧yF 44 0 9 0∧yF 44 1 3 1∧yP 44 [(0,1),(1,1)]∧uo Tryz.prog 44=some [(0,.s),(1,.n)]:=tk
theorem y45:yA 45 2 24 [.c (.string ⟨#[]⟩),y0]∧yF 45 0 9 0∧yF 45 1 3 1∧yP 45 [(0,1),(1,1)]∧uo Tryz.prog 45=some [(0,.s),(1,.n)]:=tk
theorem y47:yI 47 .u64 8:=tk
theorem y48:yL 48 5:=tk
theorem y50:yI 50 .i64 8:=tk
theorem y61:yL 61 45:=tk
theorem y98:yL 98 9:=tk
theorem ag8:yL 104 106:=tk
theorem ag9:yB 106 1 false none false false none 16:=tk
theorem aha:yS 116 none false false none 8 (.pointer none)∧je Tryz.prog 116=true∧rC Tryz.prog 116=some 34:=tk
theorem ahb:yA 118 3 32 [.c (.string ⟨#[]⟩),y0,y0]∧yF 118 0 9 0∧yF 118 1 3 1∧yF 118 2 3 2∧yP 118 [(0,1),(1,1),(2,1)]∧uo Tryz.prog 118=some [(0,.s),(1,.n),(2,.n)]:=tk
theorem ahc:yA 119 3 32 [.c (.string ⟨#[]⟩),y0,y0]∧yF 119 0 9 0∧yF 119 1 3 1∧yF 119 2 3 2∧yP 119 [(0,1),(1,1),(2,1)]∧uo Tryz.prog 119=some [(0,.s),(1,.n),(2,.n)]:=tk
theorem ahd:yS 124 none false false none 8 (.pointer none)∧je Tryz.prog 124=true∧rC Tryz.prog 124=some 36:=tk
theorem ahe:yS 132 none false false none 8 (.pointer none)∧je Tryz.prog 132=true∧rC Tryz.prog 132=some 39:=tk
theorem ahf:yB 163 1 false none false false none 8:=tk
theorem ahg:yL 166 23:=tk
theorem ahh:yS 169 none false false none 8 (.map none):=tk
theorem ahi:yI 188 .i64 8:=tk
theorem ahj:yI 194 .u32 4:=tk
theorem ahk:yI 206 .u64 8:=tk
theorem ahl:yS 210 none false false none 8 (.pointer none)∧je Tryz.prog 210=true∧rC Tryz.prog 210=some 3:=tk
theorem ahm:yS 216 none false false none 8 (.pointer none)∧je Tryz.prog 216=true∧rC Tryz.prog 216=some 206:=tk
theorem ahn:yA 222 4 40 [.c (.pointer none),.c (.pointer none),.c (.pointer none),.c (.string ⟨#[]⟩)]∧yF 222 0 17 0∧yF 222 1 17 1∧yF 222 2 17 2∧yF 222 3 9 3∧yP 222 [(0,1),(1,1),(2,1),(3,1)]:=tk
theorem aho:(Tryz.prog.underlying 224).isSome=true∧tsz Tryz.prog 224=some 0∧kZ Tryz.prog 224=some true∧qg Tryz.prog 224=none∧gy Tryz.prog 224=false∧lG Tryz.prog 224=false∧elemT Tryz.prog 224=none∧oN Tryz.prog 224=some (0,16):=tk
theorem ahp:(Tryz.prog.underlying 225).isSome=true∧tsz Tryz.prog 225=some 0∧kZ Tryz.prog 225=some true∧qg Tryz.prog 225=none∧gy Tryz.prog 225=false∧lG Tryz.prog 225=false∧elemT Tryz.prog 225=none∧yF 225 0 224 0∧yP 225 [(0,0)]:=tk
theorem ahq:(Tryz.prog.underlying 226).isSome=true∧tsz Tryz.prog 226=some 0∧kZ Tryz.prog 226=some true∧qg Tryz.prog 226=none∧gy Tryz.prog 226=false∧lG Tryz.prog 226=false∧elemT Tryz.prog 226=none∧yF 226 0 224 0∧yP 226 [(0,0)]:=tk
theorem ahr:yI 228 .u8 1:=tk
theorem ahs:yI 229 .u8 1:=tk
theorem aht:(Tryz.prog.underlying 230).isSome=true:=tk
theorem ahu:yS 231 none false false none 8 (.pointer none)∧je Tryz.prog 231=true∧rC Tryz.prog 231=some 5:=tk
theorem ahv:yI 232 .i32 4:=tk
theorem ahw:yI 233 .i32 4:=tk
theorem ahx:yA 234 11 48 [yu,yu,.c (.int .u32 0),.c (.int .u8 0),.c (.int .u8 0),.c (.int .u8 0),.c (.int .u8 0),.c (.nilFunc),.c (.pointer none),.c (.int .i32 0),.c (.int .i32 0)]∧yF 234 0 12 0∧yF 234 1 12 1∧yF 234 2 194 2∧yF 234 3 228 3∧yF 234 4 5 4∧yF 234 5 5 5∧yF 234 6 229 6∧yF 234 7 230 7∧yF 234 8 231 8∧yF 234 9 232 9∧yF 234 10 233 10∧yP 234 [(0,1),(1,1),(2,1),(3,1),(4,1),(5,1),(6,1),(7,1),(8,1),(9,1),(10,1)]:=tk
theorem ahy:yA 235 11 48 [yu,yu,.c (.int .u32 0),.c (.int .u8 0),.c (.int .u8 0),.c (.int .u8 0),.c (.int .u8 0),.c (.nilFunc),.c (.pointer none),.c (.int .i32 0),.c (.int .i32 0)]∧yF 235 0 12 0∧yF 235 1 12 1∧yF 235 2 194 2∧yF 235 3 228 3∧yF 235 4 5 4∧yF 235 5 5 5∧yF 235 6 229 6∧yF 235 7 230 7∧yF 235 8 231 8∧yF 235 9 232 9∧yF 235 10 233 10∧yP 235 [(0,1),(1,1),(2,1),(3,1),(4,1),(5,1),(6,1),(7,1),(8,1),(9,1),(10,1)]:=tk
theorem ahz:yS 236 none false false none 8 (.pointer none):=tk
theorem aet:elemT Tryz.prog 98=some 9:=by kernel_rfl
theorem af9:zelem Tryz.prog 9=some (.c (.string ⟨#[]⟩)):=by kernel_rfl
theorem aga:tapp Tryz.prog 9=some (1,16):=by kernel_rfl
theorem Md:elemT Tryz.prog 48=some 5:=by kernel_rfl
theorem acZ:zelem Tryz.prog 5=some (.c (.int .u8 0)):=by kernel_rfl
theorem ac0:tapp Tryz.prog 5=some (1,1):=by kernel_rfl
theorem agb:tsz Tryz.prog 5=some 1:=by kernel_rfl
def tyf:=aI aes (aI y2 (aI y3 (aI y4 (aI y5 (aI y6 (aI y7 (aI y9 (aI y12 (aI y13 (aI y16 (aI y17 (aI y18 (aI y21 (aI y22 (aI y23 (aI y24 (aI y25 (aI y26 (aI y27 (aI y28 (aI y29 (aI y30 (aI y31 (aI y32 (aI y33 (aI y34 (aI y35 (aI y36 (aI y37 (aI y38 (aI y39 (aI y40 (aI y41 (aI y44 (aI y45 (aI y47 (aI y48 (aI y50 (aI y61 (aI y98 (aI ag8 (aI ag9 (aI aha (aI ahb (aI ahc (aI ahd (aI ahe (aI ahf (aI ahg (aI ahh (aI ahi (aI ahj (aI ahk (aI ahl (aI ahm (aI ahn (aI aho (aI ahp (aI ahq (aI ahr (aI ahs (aI aht (aI ahu (aI ahv (aI ahw (aI ahx (aI ahy ahz)))))))))))))))))))))))))))))))))))))))))))))))))))))))))))))))))))
end Go.Proofs.YtiohdbjggmmjcaaGreat
