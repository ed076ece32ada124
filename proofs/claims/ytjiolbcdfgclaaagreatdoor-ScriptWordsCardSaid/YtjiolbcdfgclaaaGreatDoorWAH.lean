/-
  Texts of this claim, merged; own names are short.
-/
import Derived.Test.YtjiolbcdfgclaaaGreatDoorWAG
import Derived.Test.YtjiolbcdfgclaaaGreatDoorProg
import Derived.Lib.LaidTab
import Derived.Lib.ItoaMem
set_option linter.unusedVariables false
set_option linter.unusedSimpArgs false
set_option linter.unusedSectionVars false
set_option linter.defProp false
set_option maxRecDepth 100000
set_option maxHeartbeats 8000000
section
namespace Go.Pg
open Go
def tzc(P:Program)(t:TypeId):Option (List V):=(tY P t).map fun z=>z.cells.toList.map .c
section
variable (P:Program) (e:Nat→V) (b:Nat→Option (TypeId × List V)) (n:Nat) (h:Nat→V) (t:TypeId)
theorem YT:uu P ⟨e,b,n,h⟩ t=(tzc P t).map fun l=>(.ref n 0,⟨e,upd b n (some (t,l)),n+1,h⟩):=by simp only[uu,tzc,Option.map_map];rfl
theorem ah5(x:V):MZ ⟨e,b,n,h⟩ t x=x.cs.map fun l=>(.ref n 0,⟨e,upd b n (some (t,l)),n+1,h⟩):=rfl
theorem adX(k off:Nat):nN P ⟨e,b,n,h⟩ t k off=(b k).bind fun x=>EI P t x.2 off:=rfl
theorem YU(k off:Nat)(x:V):lZ P ⟨e,b,n,h⟩ t k off x=(b k).bind fun y=>x.cs.bind fun l=>if tsz P t=some l.length∧off+l.length≤y.2.length∧l.all V.one=true then some ⟨e,upd b k (some (y.1,y.2.take off++l++y.2.drop (off+l.length))),n,h⟩ else none:=rfl
theorem UI(src dst:TypeId)(k off:Nat):jF P ⟨e,b,n,h⟩ src dst (.ref k off)=(b k).bind fun y=>if Jp P src dst y.1 y.2.length off=true then some (.ref k off) else none:=rfl
theorem eG(len:Nat)(parts:List (Nat × V)):bV P ⟨e,b,n,h⟩ t len parts=(elemT P t).bind fun el=>(tapp P el).bind fun p=>(zelem P el).bind fun z=>(setAll p.1 (List.replicate len z) parts).bind fun xs =>
  if len*p.1≤16777216 then some (.sl (bsTag len n el) p.1 xs,⟨e,b,n+1,h⟩) else none:=rfl
theorem adY(id:Nat)(t:TypeId):bsTag 0 id t = .nn:=rfl
theorem adZ(l id:Nat)(t:TypeId):bsTag (l+1) id t = .own id t:=rfl
def mkK(b:Nat)(l c:Int)(x:Option (V × St)):Option (V × St):=if 0≤l∧l≤c∧(b:Int)*c≤281474976710656∧c≤9223372036854775807 then x else none
theorem ah6(b:Nat)(l c:Int)(x:Option (V × St))(h:0≤l∧l≤c∧(b:Int)*c≤281474976710656∧c≤9223372036854775807):mkK b l c x=x:=if_pos h
theorem ad1(k k':IntKind)(l c:Int):xG P ⟨e,b,n,h⟩ t (.c (.int k l)) (.c (.int k' c))=(elemT P t).bind fun el=>(tapp P el).bind fun p=>(zelem P el).bind fun z=>mkK p.2 l c (some (.sl (.own n el) p.1 (List.replicate l.toNat z),⟨e,b,n+1,h⟩)):=rfl
def apK(e:Nat→V)(b:Nat→Option (TypeId × List V))(n:Nat)(h:Nat→V)(el k bytes:Nat)(x:V)(ys:List V):Option (V × St) :=
 match x with
 | .c (.slice none 0 0)=>if Fits ys.length bytes then some (.sl (.own n el) k ys,⟨e,b,n+1,h⟩) else none
 | .sl (.own id e') k' xs=>if e'=el∧k'=k∧Fits (xs.length+ys.length) bytes then some (.sl (.own id el) k (xs++ys),⟨lX (aJ id) e,sH (aJ id) b,max n (id+1),lX (aJ id) h⟩) else none
 | _=>none
theorem FV(t2:TypeId)(x y:V):lC P ⟨e,b,n,h⟩ t t2 x y=(elemT P t).bind fun el=>(tapp P el).bind fun p=>(CG P t2 p.1 y).bind fun ys=>apK e b n h el p.1 p.2 x ys:=by
 simp only[lC]
 cases elemT P t with
 | none=>rfl
 | some el =>
  simp only[Option.bind_some]
  cases tapp P el with
  | none=>rfl
  | some p =>
   simp only[Option.bind_some]
   cases CG P t2 p.1 y with
   | none=>rfl
   | some ys=>rfl
theorem ad2(el k bytes:Nat)(ys:List V)(hf:Fits ys.length bytes):apK e b n h el k bytes (.c (.slice none 0 0)) ys=some (.sl (.own n el) k ys,⟨e,b,n+1,h⟩):=if_pos hf
theorem ad3(el k bytes id:Nat)(xs ys:List V)(hf:Fits (xs.length+ys.length) bytes):apK e b n h el k bytes (.sl (.own id el) k xs) ys=some (.sl (.own id el) k (xs++ys),⟨lX (aJ id) e,sH (aJ id) b,max n (id+1),lX (aJ id) h⟩):=if_pos ⟨rfl,rfl,hf⟩
end
section
variable (P:Program) (t:TypeId)
def ldK(ag:Option Bool)(sz:Option Nat)(cs:List V)(off:Nat):Option V :=
 match ag with
 | some true=>sz.bind fun n=>if off+n≤cs.length then some (.agg ((cs.drop off).take n)) else none
 | some false=>cs[off]?
 | none=>none
theorem UJ(cs:List V)(off:Nat):EI P t cs off=ldK (mV P t) (tsz P t) cs off:=by
 unfold EI ldK;cases mV P t with
 | none=>rfl
 | some b=>cases b<;>rfl
theorem akP(sz:Option Nat)(cs:List V)(off:Nat):ldK (some false) sz cs off=cs[off]?:=rfl
theorem akQ(n:Nat)(cs:List V)(off:Nat):ldK (some true) (some n) cs off=if off+n≤cs.length then some (.agg ((cs.drop off).take n)) else none:=rfl
theorem ad4(k off f:Nat):faV P t (.ref k off) f=(mW P t f).bind fun p=>(tsz P p.1).bind fun k'=>if k'=0 then none else some (.ref k (off+p.2)):=rfl
theorem ah7(tg:Tag)(j:Nat)(xs:List V)(i off f:Nat):faV P t (.el tg j xs i off) f=(mW P t f).bind fun p=>(tsz P p.1).bind fun k'=>if k'=0 then none else some (.el tg j xs i (off+p.2)):=rfl
theorem YV(cs:List V)(f:Nat):zx P t (.agg cs) f=(mW P t f).bind fun p=>EI P p.1 cs p.2:=rfl
theorem akR(tg:Tag)(k:Nat)(xs:List V)(ik:IntKind)(n:Int)(h0:0≤n)(h:n<xs.length):iaV P t (.sl tg k xs) (.c (.int ik n))=if (elemT P t).bind (tsz P)=some k then some (.el tg k xs n.toNat 0) else none:=by
 rw[ahZ];by_cases he:(elemT P t).bind (tsz P)=some k<;>simp [he,h0,h]
theorem ad5(b off:Nat)(ik:IntKind)(n:Int):iaV P t (.ref b off) (.c (.int ik n))=(jD P t).bind fun p=>(tsz P p.2).bind fun k=>if 0≤n∧n<p.1 then some (.ref b (off+n.toNat*k)) else none:=rfl
theorem ad6(z:ByteArray)(ik:IntKind)(n:Int)(h0:0≤n)(h:n<z.size):ixV P t (.c (.string z)) (.c (.int ik n))=if ji P t=true then some (.c (.int .u8 ((z.data.toList.getD n.toNat 0).toNat))) else none:=by
 unfold ixV;by_cases he:ji P t=true<;>simp [he,h0,h]
theorem Ob(l:List Nat)(ik:IntKind)(n:Int)(ho:oct l)(h0:0≤n)(h:n<l.length):ixV P t (.c (.string (sB l))) (.c (.int ik n))=if ji P t=true then some (.c (.int .u8 (l.getD n.toNat 0:Nat))) else none:=by
 rw[ad6 P t _ _ _ h0 (by rw[bD];exact h),H5 ho]
theorem ad7(cs:List V)(ik:IntKind)(n:Int):ixV P t (.agg cs) (.c (.int ik n))=(jD P t).bind fun p=>(tsz P p.2).bind fun k=>if 0≤n∧n<p.1 then EI P p.2 cs (n.toNat*k) else none:=rfl
def cvK(d:Option IntKind)(n:Int):Option V:=match d with|some k=>some (.c (.int k (k.wrap n)))|none=>none
theorem ad8(src:TypeId)(k:IntKind)(n:Int):mM P src t (.c (.int k n))=if (P.underlying src).isSome=true then cvK (rY P t) n else none:=by
 unfold mM
 cases rY P t with
 | none=>simp [cvK]
 | some k'=>rfl
theorem akS(k:IntKind)(n:Int):cvK (some k) n=some (.c (.int k (k.wrap n))):=rfl
theorem UK(src:TypeId)(z:ByteArray):mM P src t (.c (.string z))=if (P.underlying src).isSome&&ji P t then some (.c (.string z)) else none:=by
 unfold mM;cases rY P t<;>rfl
theorem YW(parts:List (Nat × V)):wM P t parts=(tzc P t).bind fun l=>(xC P t).bind fun ps=>(ut ps l parts).map .agg:=by
 simp only[wM,tzc]
 cases tY P t<;>rfl
theorem UL(places:List (Nat × Nat))(cells:List V):ut places cells []=some cells:=rfl
def QR(p:Option (Nat × Nat))(c:Option (List V))(places:List (Nat × Nat))(cells:List V)(rest:List (Nat × V)):Option (List V) :=
 p.bind fun p=>c.bind fun l=>if l.length=p.2∧p.1+l.length≤cells.length then ut places (cells.take p.1++l++cells.drop (p.1+l.length)) rest else none
theorem Oc(places:List (Nat × Nat))(cells:List V)(i:Nat)(v:V)(rest:List (Nat × V)):ut places cells ((i,v)::rest)=QR (places[i]?) v.cs places cells rest:=by
 unfold QR
 rw[ut]
 cases places[i]? with
 | none=>rfl
 | some p=>cases v.cs<;>rfl
theorem ad9(p:Nat × Nat)(l:List V)(places:List (Nat × Nat))(cells:List V)(rest:List (Nat × V)):QR (some p) (some l) places cells rest=if l.length=p.2∧p.1+l.length≤cells.length then ut places (cells.take p.1++l++cells.drop (p.1+l.length)) rest else none:=rfl
theorem Oe(k:Nat)(xs:List V):setAll k xs []=some xs:=rfl
def ah8(c:Option (List V))(fr:Bool)(k i:Nat)(v:V)(xs:List V)(rest:List (Nat × V)):Option (List V) :=
 c.bind fun l=>if l.length=k∧fr=true∧l.all V.one=true∧i<xs.length then setAll k (xs.set i v) rest else none
theorem J8(k:Nat)(xs:List V)(i:Nat)(v:V)(rest:List (Nat × V)):setAll k xs ((i,v)::rest)=ah8 v.cs v.free k i v xs rest:=by
 unfold ah8
 rw[setAll]
 cases v.cs<;>rfl
theorem ah9(l:List V)(fr:Bool)(k i:Nat)(v:V)(xs:List V)(rest:List (Nat × V)):ah8 (some l) fr k i v xs rest=if l.length=k∧fr=true∧l.all V.one=true∧i<xs.length then setAll k (xs.set i v) rest else none:=rfl
theorem fP(b:Bool):unV .not (.c (.bool b))=some (.c (.bool (!b))):=rfl
theorem akT(k:IntKind)(n:Int):unV .neg (.c (.int k n))=some (.c (.int k (k.wrap (0-n)))):=rfl
theorem akU(k:IntKind)(n:Int):unV .xor (.c (.int k n))=some (.c (.int k (bits .xor k (if k.signed then -1 else k.max) n))):=rfl
theorem aea(xs ys:List V):eu P .eql t (.agg xs) (.agg ys)=(qo P t).bind fun pl=>(eqL pl xs ys).map fun b => .c (.bool b):=rfl
theorem aeb(xs ys:List V):eu P .neq t (.agg xs) (.agg ys)=(qo P t).bind fun pl=>(eqL pl xs ys).map fun b => .c (.bool (!b)):=rfl
theorem aec(xs ys:List V):eqL [] xs ys=some true:=rfl
theorem YX(o:Nat)(k:EqK)(r:List (Nat × EqK))(xs ys:List V):eqL ((o,k)::r) xs ys=eqK k xs[o]? ys[o]? (eqL r xs ys):=rfl
theorem akV(k:IntKind)(a b:Int)(z:Bool):eqK .n (some (.c (.int k a))) (some (.c (.int k b))) (some z)=some ((a == b)&&z):=by simp [eqK]
theorem akW(a b z:Bool):eqK .b (some (.c (.bool a))) (some (.c (.bool b))) (some z)=some ((a == b)&&z):=rfl
theorem akX(a b:ByteArray)(z:Bool):eqK .s (some (.c (.string a))) (some (.c (.string b))) (some z)=some (decide (a=b)&&z):=rfl
theorem YY:eu P .eql t (.c (.pointer none)) (.c (.pointer none))=if jM P t=true then some (.c (.bool true)) else none:=rfl
theorem YZ:eu P .neq t (.c (.pointer none)) (.c (.pointer none))=if jM P t=true then some (.c (.bool false)) else none:=rfl
theorem Y0(b o:Nat):eu P .eql t (.ref b o) (.c (.pointer none))=if jM P t=true then some (.c (.bool false)) else none:=rfl
theorem Y1(b o:Nat):eu P .neq t (.ref b o) (.c (.pointer none))=if jM P t=true then some (.c (.bool true)) else none:=rfl
theorem UM(b o:Nat):eu P .neq t (.ref b o) (.ref b o)=if jM P t=true then some (.c (.bool false)) else none:=by
 show (if jM P t=true∧b=b∧o=o then _ else _)=_
 by_cases h:jM P t=true<;>simp [h]
theorem UN(b o:Nat):eu P .eql t (.ref b o) (.ref b o)=if jM P t=true then some (.c (.bool true)) else none:=by
 show (if jM P t=true∧b=b∧o=o then _ else _)=_
 by_cases h:jM P t=true<;>simp [h]
theorem aed:eu P .eql t (.c (.slice none 0 0)) (.c (.slice none 0 0))=if (elemT P t).isSome=true then some (.c (.bool true)) else none:=rfl
theorem aia(k:Nat)(xs:List V)(hx:xs=[]):eu P .eql t (.sl .nn k xs) (.c (.slice none 0 0))=if (elemT P t).isSome=true then some (.c (.bool false)) else none:=by subst hx;rfl
theorem aib(tg:Tag)(k:Nat)(x:V)(xs:List V):eu P .eql t (.sl tg k (x::xs)) (.c (.slice none 0 0))=if (elemT P t).isSome=true then some (.c (.bool false)) else none:=rfl
theorem amK(k:IntKind)(a b:Int)(h:b≠0):eu P .quo t (.c (.int k a)) (.c (.int k b))=some (.c (.int k (k.wrap (a.tdiv b)))):=by rw[X3,if_neg h]
theorem amL(k:IntKind)(a b:Int)(h:b≠0):eu P .rem t (.c (.int k a)) (.c (.int k b))=some (.c (.int k (a.tmod b))):=by rw[X4,if_neg h]
theorem akY(k k2:IntKind)(a b:Int)(h:0≤b):eu P .shl t (.c (.int k a)) (.c (.int k2 b))=some (.c (.int k (k.wrap (a*2^min b.toNat k.bits)))):=by rw[Yd,if_neg (by omega)]
theorem akZ(k k2:IntKind)(a b:Int)(h:0≤b):eu P .shr t (.c (.int k a)) (.c (.int k2 b))=some (.c (.int k (a.fdiv (2^min b.toNat k.bits)))):=by rw[Ye,if_neg (by omega)]
theorem Og(l:List Nat)(lo hi:Option V)(a c:Int)(ha:bdV lo 0=some a)(hc:bdV hi l.length=some c)(h0:0≤a)(h1:a≤c)(h2:c≤l.length):slV P t (.c (.string (sB l))) lo hi=if ji P t=true then some (.c (.string (sB ((l.take c.toNat).drop a.toNat)))) else none:=by
 rw[BK,ha,bD,hc]
 simp only[Option.bind_some,H6]
 by_cases he:ji P t=true<;>simp [he,h0,h1,h2]
theorem aic(l:List Nat)(k:IntKind)(a:Int)(h0:0≤a)(h1:a≤l.length):slV P t (.c (.string (sB l))) (some (.c (.int k a))) none=if ji P t=true then some (.c (.string (sB (l.drop a.toNat)))) else none:=by
 rw[Og P t l _ _ a l.length rfl rfl h0 h1 (Int.le_refl _)]
 simp
theorem aid(l:List Nat)(k:IntKind)(c:Int)(h0:0≤c)(h1:c≤l.length):slV P t (.c (.string (sB l))) none (some (.c (.int k c)))=if ji P t=true then some (.c (.string (sB (l.take c.toNat)))) else none:=by
 rw[Og P t l _ _ 0 c rfl rfl (Int.le_refl _) h0 h1]
 simp
theorem aie(l:List Nat)(k k':IntKind)(a c:Int)(h0:0≤a)(h1:a≤c)(h2:c≤l.length):slV P t (.c (.string (sB l))) (some (.c (.int k a))) (some (.c (.int k' c)))=if ji P t=true then some (.c (.string (sB ((l.take c.toNat).drop a.toNat)))) else none :=
 Og P t l _ _ a c rfl rfl h0 h1 h2
end
theorem Y2(n:Int)(h0 : -9223372036854775808≤n)(h1:n≤9223372036854775807):IntKind.i64.wrap n=n:=IntWalk.i64_in n ⟨h0,h1⟩
theorem amM(n:Int)(h0:0≤n)(h1:n≤255):IntKind.u8.wrap n=n:=IntWalk.u8_in n ⟨h0,h1⟩
theorem ag3(n:Int)(h0:0≤n)(h1:n≤18446744073709551615):IntKind.u64.wrap n=n:=IntWalk.u64_in n ⟨h0,h1⟩
theorem ak0(n:Int)(h0:0≤n)(h1:n≤4294967295):IntKind.u32.wrap n=n:=IntWalk.u32_in n ⟨h0,h1⟩
theorem ak1(p:Prop)[Decidable p](h:p):decide p=true:=decide_eq_true h
theorem ak2(p:Prop)[Decidable p](h:¬p):decide p=false:=decide_eq_false h
theorem ak3(a b:Int)(h:a=b):(a == b)=true:=by simp [h]
theorem ak4(a b:Int)(h:a≠b):(a == b)=false:=by simp [h]
theorem ak5(a b:Int)(h:a≠b):(a != b)=true:=by simp [h]
theorem ak6(a b:Int)(h:a=b):(a != b)=false:=by simp [h]
def zM:List (Nat × V)→Nat→V
 | [],_ => .top
 | (k,v)::r,t=>if t=k then v else zM r t
theorem mf(t:Nat):zM [] t = .top:=rfl
theorem lD(k:Nat)(v:V)(r:List (Nat × V))(t:Nat):zM ((k,v)::r) t=if t=k then v else zM r t:=rfl
def Oh:List (Nat × TypeId × List V)→Nat→Option (TypeId × List V)
 | [],_=>none
 | (k,v)::r,t=>if t=k then some v else Oh r t
theorem Y3(t:Nat):Oh [] t=none:=rfl
theorem QS(k:Nat)(v:TypeId × List V)(r:List (Nat × TypeId × List V))(t:Nat):Oh ((k,v)::r) t=if t=k then some v else Oh r t:=rfl
def mkA(X:List (Nat × V))(B:List (Nat × TypeId × List V))(n:Nat)(h:Nat→V):St:=⟨zM X,Oh B,n,h⟩
theorem aif(X:List (Nat × V))(B:List (Nat × TypeId × List V))(n:Nat)(h:Nat→V):mkA X B n h=⟨zM X,Oh B,n,h⟩:=rfl
def GenA(l m:List Nat)(e:Nat→V):List (Nat × V)→Prop
 | []=>True
 | (k,v)::r=>Gen l m (e k) v∧GenA l m e r
theorem ig(l m:List Nat)(e:Nat→V):GenA l m e []=True:=rfl
theorem fQ(l m:List Nat)(e:Nat→V)(k:Nat)(v:V)(r:List (Nat × V)):GenA l m e ((k,v)::r)=(Gen l m (e k) v∧GenA l m e r):=rfl
theorem GenA.fin{l m:List Nat}{e:Nat→V}{X:List (Nat × V)}(h:GenA l m e X)(t:Nat):Gen l m (e t) (zM X t):=by
 induction X with
 | nil=>exact .inl rfl
 | cons x r ih =>
  obtain⟨k,v⟩:=x
  rw[lD]
  split
  ·rename_i hk;subst hk;exact h.1
  ·exact ih h.2
def GenB(l m:List Nat)(b:Nat→Option (TypeId × List V)):List (Nat × TypeId × List V)→Prop
 | []=>True
 | (k,x)::r=>(∃b0 cs0,m[k]?=some b0∧b b0=some (x.1,cs0)∧GenL l m cs0 x.2)∧GenB l m b r
theorem gJ{l m:List Nat}{b:Nat→Option (TypeId × List V)}{k:Nat}{x:TypeId × List V}{r:List (Nat × TypeId × List V)}(b0:Nat)(cs0:List V)(h1:m[k]?=some b0)(h2:b b0=some (x.1,cs0))(h3:GenL l m cs0 x.2)(h4:GenB l m b r):GenB l m b ((k,x)::r):=⟨⟨b0,cs0,h1,h2,h3⟩,h4⟩
theorem GenB.fin{l m:List Nat}{b:Nat→Option (TypeId × List V)}{B:List (Nat × TypeId × List V)}(h:GenB l m b B)(k:Nat)(x:TypeId × List V)(hx:Oh B k=some x):∃b0 cs0,m[k]?=some b0∧b b0=some (x.1,cs0)∧GenL l m cs0 x.2:=by
 induction B with
 | nil=>cases hx
 | cons y r ih =>
  obtain⟨k',v⟩:=y
  rw[QS] at hx
  split at hx
  ·rename_i hk;subst hk;simp only[Option.some.injEq] at hx;subst hx;exact h.1
  ·exact ih h.2 hx
theorem iq(l m:List Nat):GenL l m [] []=True:=rfl
theorem fU(l m:List Nat)(x y:V)(xs ys:List V):GenL l m (x::xs) (y::ys)=(Gen l m x y∧GenL l m xs ys):=rfl
theorem iy{l m:List Nat}{s:St}{X:List (Nat × V)}{B:List (Nat × TypeId × List V)}{n:Nat}{h:Nat→V}(hX:GenA l m s.env X)(hB:GenB l m s.bx B)(hh:∀t,Gen l m (s.hd t) (h t))(hl:l.Nodup)(hm:m.Nodup)(hn:l.length≤n)(hn':m.length≤n):Keep l m s (mkA X B n h) where
 env:=hX.fin
 hd:=hh
 bx:=hB.fin
 ndl:=hl
 ndm:=hm
 nidl:=hn
 nidm:=hn'
theorem kD(l m:List Nat)(f:Nat→V):∀t,Gen l m (f t) ((fun _ => .top:Nat→V) t):=fun _ => .inl rfl
theorem GI{l m:List Nat}{v0 v:V}(h:v0.any (Tag.notIn l) (zD m) false=false)(h2:v=v0.map (sF l) (fun b=>m.idxOf b)):Gen l m v0 v := .inr (.inl ⟨h,h2⟩)
theorem je{l m:List Nat}{b b' o:Nat}(h:(m.contains b&&m.idxOf b == b')=true):Gen l m (.ref b o) (.ref b' o):=by
 simp only[Bool.and_eq_true,beq_iff_eq,List.contains_iff_mem] at h
 refine .inr (.inl ⟨by simp [V.any,zD,h.1],by simp [V.map,h.2]⟩)
theorem Y4{l m:List Nat}{i j:Nat}{e:TypeId}{k:Nat}{xs ys:List V}(h:(l.contains i&&l.idxOf i == j)=true)(hx:elE k xs ys):Gen l m (.sl (.own i e) k xs) (.sl (.own j e) k ys):=by
 simp only[Bool.and_eq_true,beq_iff_eq,List.contains_iff_mem] at h
 refine .inr (.inr (.inr ⟨_,_,xs,ys,rfl,by simp [Tag.notIn,h.1],by simp [sF,h.2],hx⟩))
theorem gq{l m:List Nat}{u v:Value}(h:u=v):Gen l m (.c u) (.c v):=by subst h;exact of_eq_true (eY _ _ _)
theorem gB{l m:List Nat}{k:IntKind}{a b:Int}(h:a=b):Gen l m (.c (.int k a)) (.c (.int k b)):=by subst h;exact of_eq_true (eY _ _ _)
theorem gK{l m:List Nat}{t:Tag}{k:Nat}{xs:List V}(h:xs=[])(ht:t.notNN=true:=by rfl):Gen l m (.c (.slice none 0 0)) (.sl t k xs):=by subst h;exact of_eq_true (adV _ _ _ _ ht)
theorem aK{ι:Type}{D:Dw}{P:Program}[Tb P]{x:Code}{Q:Exit→St→Prop}{s:St}(S:ι→St)(Inv:ι→Prop)(μ:ι→Nat)(i0:ι)(l m:List Nat)(hk:Keep l m s (S i0))(h0:Inv i0)
  (hr:∀i,Inv i→wpS D P x (FU S Inv μ i Q) (S i)):FT D P x Q s :=
 vO S Inv μ i0 l m hk h0 (fun i hi s hs=>by subst hs;exact hr i hi)
theorem xY{ι:Type}{S:ι→St}{Inv:ι→Prop}{s:St}(i:ι)(l m:List Nat)(h1:Inv i)(h3:Keep l m s (S i)):ag2 S Inv s:=⟨i,h1,h3.weak⟩
theorem aig{ops:List Oper}{ks:List Kd}{q:Prop}(h1:zI ops ks=true)(h2:q):zI ops ks=true∧q:=⟨h1,h2⟩
theorem dw{P:Program}[Tb P]{b want:Bool}{dsts:List (Option Nat)}{ops:List Oper}{Q:Exit→St→Prop}{o:Oper}{rest:List Oper}{ks:List Kd}{s:St}(ht:b=want→az P s o (TQ P dsts ops Q rest ks))(hf:b = !want→rD P dsts ops Q rest (.p::ks) (s.put o.dst (.c undef))) :
  Bq P (some (.c (.bool b))) want dsts ops Q o rest ks s:=NT P ht hf
theorem nT{P:Program}[Tb P]{g:FuncId}{args:List Operand}{d:Option Nat}{s s':St}{K:Kd→St→Prop}{vs:List V}(r:V)(hg:GoodZ P g vs s s' r)(hvs:args.map s.ev=vs)(hK:K .z (s'.put d r)):gU P (.fn g [] []) args d s K:=by
 refine .inr ⟨s',r, ?_,hK⟩
 simpa [hvs] using hg
theorem UO{P:Program}[Tb P](s:St)(d:Option Nat)(src dst:TypeId)(b off:Nat)(K:Kd→St→Prop):AX P s d src dst (.ref b off) K=xJ (jF P s src dst (.ref b off)) s d K:=by
 rw[uF]
 have h1:mM P src dst (.ref b off)=none:=by unfold mM;cases rY P dst<;>rfl
 have h2:(kz P src dst (.ref b off)).map (fun r=>(r,s))=none:=rfl
 have h3:mX P s src dst (.ref b off)=none:=rfl
 rw[h1,h2,h3]
 simp only[bU,aF,or_false,false_or]
theorem J9{P:Program}[Tb P](s:St)(d:Option Nat)(src dst:TypeId)(tg:Tag)(l:List Nat)(K:Kd→St→Prop)(hs:(elemT P src).bind (rY P)=some .u8)(hd:ji P dst=true)(hi:rY P dst=none)(he:elemT P dst=none):AX P s d src dst (.sl tg 1 (bv l)) K=K (kq [.sl tg 1 (bv l)] (.c (.string (sB l)))) (s.put d (.c (.string (sB l)))):=by
 have e1:mM P src dst (.sl tg 1 (bv l))=some (.c (.string (sB l))):=by
  have:strOfNums (l.map fun (b:Nat)=>(b:Int))=sB l:=by
   apply ByteArray.ext
   simp [strOfNums,sB,Function.comp_def]
  simp [mM,hi,hs,hd,YS,this]
 rw[uF,e1]
 have h1:(kz P src dst (.sl tg 1 (bv l))).map (fun r=>(r,s))=none:=rfl
 have h2:mX P s src dst (.sl tg 1 (bv l))=none:=by cases tg<;>simp [mX,he]
 have h3:jF P s src dst (.sl tg 1 (bv l))=none:=rfl
 rw[h1,h2,h3]
 simp only[eQ,aF,bG,or_false]
theorem Y5(s:St)(d:Option Nat)(b o:Nat)(K:Kd→St→Prop):XH s d (.ref b o) K=K (kq [.ref b o] (.ref b o)) (s.put d (.ref b o)):=rfl
theorem aee(s:St)(d:Option Nat)(t:Tag)(k:Nat)(xs:List V)(i o:Nat)(K:Kd→St→Prop):XH s d (.el t k xs i o) K=K (kq [.el t k xs i o] (.el t k xs i o)) (s.put d (.el t k xs i o)):=rfl
theorem aef(s:St)(d:Option Nat)(f:FuncId)(x y:List V)(K:Kd→St→Prop):XH s d (.fn f x y) K=K (kq [.fn f x y] (.fn f x y)) (s.put d (.fn f x y)):=rfl
theorem Oi(P:Program)(s:St)(d:Option Nat)(t:TypeId)(b off:Nat)(y:V)(K:Kd→St→Prop):Hg P s d t (.ref b off) y K=jV ((lZ P s t b off y).map fun s'=>(.top,s')) d .x K:=rfl
theorem Oj(P:Program)(s:St)(d:Option Nat)(t:TypeId)(id:Nat)(e:TypeId)(k:Nat)(xs:List V)(i off:Nat)(y:V)(K:Kd→St→Prop):Hg P s d t (.el (.own id e) k xs i off) y K=(jV ((mY P s t id k xs i off y).map fun s'=>(.top,s')) d (.w id k) K∨stF P s d t (.el (.own id e) k xs i off) y y.ids K):=rfl
theorem aih(e:Nat→V)(b:Nat→Option (TypeId × List V))(n:Nat)(h:Nat→V)(v:V):St.put ⟨e,b,n,h⟩ none v=⟨e,b,n,h⟩:=rfl
def sbK(e:Nat→V)(bx:Nat→Option (TypeId × List V))(nn:Nat)(hd:Nat→V)(b off n:Nat)(sz:Option Nat)(l h:Int)(cs:List V):Option (V × St) :=
 if off=0∧sz=some 1∧cs.length=n∧cs.all (fun v=>v.free&&v.one)=true∧0≤l∧l≤h∧h≤n then some (.sl .fz 1 ((cs.take h.toNat).drop l.toNat),⟨lX (rf b) e,upd (sH (rf b) bx) b none,nn,lX (rf b) hd⟩) else none
theorem Ol(P:Program)(e:Nat→V)(bx:Nat→Option (TypeId × List V))(nn:Nat)(hd:Nat→V)(d:Option Nat)(t:TypeId)(b off:Nat)(lo hi:Option V)(l:List V)(K:Kd→St→Prop):zK P ⟨e,bx,nn,hd⟩ d t (.ref b off) lo hi l K =
  jV ((bx b).bind fun y=>(jD P t).bind fun p=>(bdV lo 0).bind fun l=>(bdV hi p.1).bind fun h=>sbK e bx nn hd b off p.1 (tsz P p.2) l h y.2) d .z K:=rfl
theorem aii(e:Nat→V)(bx:Nat→Option (TypeId × List V))(nn:Nat)(hd:Nat→V)(b n:Nat)(l h:Int)(cs:List V)(h1:cs.length=n)(h2:cs.all (fun v=>v.free&&v.one)=true)(h3:0≤l)(h4:l≤h)(h5:h≤n) :
  sbK e bx nn hd b 0 n (some 1) l h cs=some (.sl .fz 1 ((cs.take h.toNat).drop l.toNat),⟨lX (rf b) e,upd (sH (rf b) bx) b none,nn,lX (rf b) hd⟩):=if_pos ⟨rfl,rfl,h1,h2,h3,h4,h5⟩
theorem Y6(b:Nat)(v:V):rf b v=if v.any (fun _=>false) (fun j=>j == b) false then .top else v:=rfl
section
variable (v:Value) (e:TypeId) (id k i o b:Nat) (xs cs:List V) (f:FuncId)
theorem ak7:V.ids (.c v)=[]:=rfl
theorem aeg:V.ids (.sl (.own id e) k xs)=[id]:=rfl
theorem aij:V.ids (.sl .fz k xs)=[]:=rfl
theorem aik:V.ids (.sl .nn k xs)=[]:=rfl
theorem aeh:V.ids (.agg cs)=V.idsL cs:=rfl
theorem aei:V.ids (.tup cs)=V.idsL cs:=rfl
theorem aej:V.ids (.ref b o)=[]:=rfl
theorem ail:V.ids (.el (.own id e) k xs i o)=[id]:=rfl
theorem aek:V.ids (.el .fz k xs i o)=[]:=rfl
theorem aim:V.ids (.fn f xs cs)=V.idsL xs++V.idsL cs:=rfl
theorem ael:V.ids .top=[]:=rfl
theorem aem:V.ids .nif=[]:=rfl
theorem Y7:V.idsL []=[]:=rfl
theorem UQ(x:V):V.idsL (x::xs)=V.ids x++V.idsL xs:=rfl
theorem Dq(s:St)(ids:List Nat):s.freezeAll (i::ids)=(s.mapV (frz i)).freezeAll ids:=rfl
theorem ain:V.cs .nif=some [.nif]:=rfl
theorem aen:V.one .nif=true:=rfl
theorem aeo(p:Tag→Bool)(q:Nat→Bool)(tp:Bool):V.any p q tp .nif=false:=rfl
theorem aep(τ:Tag→Tag)(ρ:Nat→Nat):V.map τ ρ .nif = .nif:=rfl
theorem UR(n:Nat):V.shift n .nif = .nif:=rfl
theorem aeq:V.idb .nif=0:=rfl
theorem Y8:V.flat .nif=true:=rfl
theorem Y9:V.free .nif=true:=rfl
end
section
variable (P:Program) (e:Nat→V) (b:Nat→Option (TypeId × List V)) (n:Nat) (h:Nat→V)
theorem Za(t:TypeId)(id k:Nat)(xs:List V)(i off:Nat)(x:V):mY P ⟨e,b,n,h⟩ t id k xs i off x=(xs[i]?).bind fun x0=>x0.cs.bind fun c0=>x.cs.bind fun l=>(qA x0 (c0.take off++l++c0.drop (off+l.length))).bind fun x1 =>
  if tsz P t=some l.length∧off+l.length≤c0.length∧l.all V.one=true∧x1.free=true then some ⟨lX (ay id k i x1) e,sH (ay id k i x1) b,n,lX (ay id k i x1) h⟩ else none:=rfl
theorem Ko(a l:List V):qA (.agg a) l=some (.agg l):=rfl
theorem UT(v:Value)(y:V):qA (.c v) [y]=if V.one (.c v)=true then some y else none:=rfl
theorem Om(t:Tag)(k:Nat)(xs:List V)(y:V):qA (.sl t k xs) [y]=some y:=rfl
variable (id k i:Nat) (x:V)
theorem Oo(ty:TypeId)(xs:List V):ay id k i x (.sl (.own id ty) k xs) = .sl (.own id ty) k (xs.set i x):=by simp [ay]
theorem UU(j:Nat)(ty:TypeId)(k':Nat)(xs:List V)(hj:(j == id)=false):ay id k i x (.sl (.own j ty) k' xs) = .sl (.own j ty) k' xs:=by
 have:¬j=id:=by simpa using hj
 simp [ay,this]
theorem Kq(ty:TypeId)(xs:List V)(i' off:Nat):ay id k i x (.el (.own id ty) k xs i' off) = .el (.own id ty) k (xs.set i x) i' off:=by simp [ay]
theorem Oq(j:Nat)(ty:TypeId)(k':Nat)(xs:List V)(i' off:Nat)(hj:(j == id)=false):ay id k i x (.el (.own j ty) k' xs i' off) = .el (.own j ty) k' xs i' off:=by
 have:¬j=id:=by simpa using hj
 simp [ay,this]
theorem UV(k':Nat)(xs:List V):ay id k i x (.sl .fz k' xs) = .sl .fz k' xs:=rfl
theorem UW(k':Nat)(xs:List V):ay id k i x (.sl .nn k' xs) = .sl .nn k' xs:=rfl
theorem Zb(v:Value):ay id k i x (.c v) = .c v:=rfl
theorem Ot(c o:Nat):ay id k i x (.ref c o) = .ref c o:=rfl
theorem Ou:ay id k i x .top = .top:=by show aJ id .top = .top;unfold aJ;split<;>rfl
theorem Ov(l:List V):ay id k i x (.agg l)=aJ id (.agg l):=rfl
theorem Ox(l:List V):ay id k i x (.tup l)=aJ id (.tup l):=rfl
theorem Oy(k':Nat)(xs:List V)(i' off:Nat):ay id k i x (.el .fz k' xs i' off) = .el .fz k' xs i' off:=rfl
theorem UX(f:FuncId)(l m:List V):ay id k i x (.fn f l m)=aJ id (.fn f l m):=rfl
theorem Oz:ay id k i x .nif = .nif:=rfl
theorem mmT(k:IntKind)(a b:Int):qx true (.c (.int k a)) (.c (.int k b))=some (.c (.int k (max a b))):=by
 have h:(if b > a then b else a)=max a b:=by split<;>omega
 rw[←h];rfl
theorem mmF(k:IntKind)(a b:Int):qx false (.c (.int k a)) (.c (.int k b))=some (.c (.int k (min a b))):=by
 have h:(if b<a then b else a)=min a b:=by split<;>omega
 rw[←h];rfl
end
def pgf:=aI @fM (aI @fO (aI @Za (aI @Ko (aI @UT (aI @Om (aI @Oo (aI @UU (aI @Kq (aI @Oq (aI @UV (aI @UW (aI @Zb (aI @Ot (aI @Ou (aI @Ov (aI @Ox (aI @Oy (aI @UX (aI @Oz (aI @mmT (aI @mmF (aI @ak7 (aI @aeg (aI @aij (aI @aik (aI @aeh (aI @aei (aI @aej (aI @ail (aI @aek (aI @aim (aI @ael (aI @aem (aI @Y7 (aI @UQ (aI @Dq (aI @ain (aI @aen (aI @aeo (aI @aep (aI @UR (aI @aeq (aI @Y8 (aI @Y9 (aI @adh (aI @JK (aI @adi (aI @XE (aI @adk (aI @XF @TK))))))))))))))))))))))))))))))))))))))))))))))))))
theorem Zc:Bf (.c (.slice none 0 0)) = .n:=rfl
theorem Zd(id k:Nat)(e:TypeId)(xs:List V):Bf (.sl (.own id e) k xs) = .g id:=rfl
def pgw:=aI @Zc (aI @Zd (aI @Ol (aI @aii (aI @Y6 (aI @adY (aI @adZ (aI @aia (aI @akL (aI @Yp (aI @Yq (aI @adF (aI @Yr (aI @ahU (aI @adG (aI @ah6 (aI @ad1 (aI @aea (aI @aeb (aI @aec (aI @YX (aI @akV (aI @akW (aI @akX (aI @aih (aI @Y5 (aI @aee (aI @aef (aI @Oi (aI @Oj (aI @YT (aI @ah5 (aI @adX (aI @YU (aI @UI (aI @FV (aI @ad2 (aI @ad3 (aI @UJ (aI @akP (aI @akQ (aI @ad4 (aI @ah7 (aI @YV (aI @akR (aI @ad5 (aI @Ob (aI @ad7 (aI @ad8 (aI @akS (aI @UK (aI @YW (aI @UL (aI @Oc (aI @ad9 (aI @Oe (aI @J8 (aI @ah9 (aI @fP (aI @akT (aI @akU (aI @YY (aI @YZ (aI @Y0 (aI @Y1 (aI @UM (aI @UN (aI @aed (aI @aib (aI @amK (aI @amL (aI @akY (aI @akZ (aI @aic (aI @aid (aI @aie (aI @mf (aI @lD (aI @Y3 (aI @QS (aI @aif (aI @UO (aI @bD (aI @ax (aI @au (aI @bu (aI @ny (aI @rF @FV)))))))))))))))))))))))))))))))))))))))))))))))))))))))))))))))))))))))))))))))))))))))
def pgb:=aI @Y2 (aI @amM (aI @ag3 (aI @ak0 (aI @ak1 (aI @ak2 (aI @ak3 (aI @ak4 (aI @ak5 @ak6))))))))
def pgn:=aI @decide_true (aI @decide_false (aI @Nat.max_def (aI @Bool.not_eq_true (aI @Int.toNat_natCast (aI @Int.natCast_add (aI @Int.cast_ofNat_Int (aI @and_self (aI @not_true_eq_false (aI @not_false_eq_true (aI @Nat.le_refl (aI @Nat.add_zero (aI @Nat.zero_add (aI @eq_self.{1} (aI @Option.some.injEq.{0} (aI @List.getElem?_nil.{0} (aI @if_true.{1} (aI @if_false.{1} (aI @if_true.{0} @if_false.{0}))))))))))))))))))
def pgd:=aI @decide_eq_true_eq (aI @decide_eq_false_iff_not (aI @beq_iff_eq.{0} (aI @beq_eq_false_iff_ne.{0} (aI @bne_iff_ne.{0} (aI @bne_eq_false_iff_eq.{0} (aI @Bool.not_eq_true' (aI @Bool.not_eq_false' (aI @Int.not_lt (aI @Int.not_le (aI @Nat.not_lt (aI @Nat.not_le (aI @ne_eq.{1} (aI @Bool.not_true (aI @Bool.not_false (aI @Bool.not_not (aI @Bool.true_eq_false (aI @Bool.false_eq_true (aI @not_false_eq_true (aI @not_true_eq_false @Decidable.not_not)))))))))))))))))))
def pgq:=aI @ax (aI @au (aI @List.length_append.{0} (aI @List.length_cons.{0} (aI @List.length_nil.{0} (aI @List.length_map.{0,0} @bD)))))
def pgo:=aI pgs (aI pgl (aI pgx (aI pgw (aI pgf pgn))))
section
variable (P:Program) (s:St)
theorem aio(a:ResultVar):pJ P s [a]=qP P s a:=rfl
theorem aip(a b:ResultVar):pJ P s [a,b]=(qP P s a).bind fun x=>(qP P s b).bind fun y=>some (.tup [x,y]):=by
 simp only[pJ,List.mapM_cons,List.mapM_nil]
 cases qP P s a<;>cases qP P s b<;>rfl
theorem aiq(a b c:ResultVar):pJ P s [a,b,c]=(qP P s a).bind fun x=>(qP P s b).bind fun y=>(qP P s c).bind fun z=>some (.tup [x,y,z]):=by
 simp only[pJ,List.mapM_cons,List.mapM_nil]
 cases qP P s a<;>cases qP P s b<;>cases qP P s c<;>rfl
theorem Ze(t:Nat):qP P s (.tmp t)=some (s.env t):=rfl
def air(P:Program)(b:Nat→Option (TypeId × List V))(x:V)(t:TypeId):Option V:=match x with | .ref k off=>(b k).bind fun y=>EI P t y.2 off|_=>none
theorem UY(e:Nat→V)(b:Nat→Option (TypeId × List V))(n:Nat)(h:Nat→V)(a:Nat)(t:TypeId):qP P ⟨e,b,n,h⟩ (.cell a t)=air P b (e a) t:=by
 unfold air
 simp only[qP]
 cases e a<;>rfl
theorem Zf(b:Nat→Option (TypeId × List V))(k off:Nat)(t:TypeId):air P b (.ref k off) t=(b k).bind fun y=>EI P t y.2 off:=rfl
end
def pgr:=aI @aio (aI @aip (aI @aiq (aI @Ze (aI @UY @Zf))))
end Go.Pg
end
namespace Go.Proofs.YtjiolbcdfgclaaaGreatDoor
open Go Go.Pg
theorem tabIs_keep{P:Program}{w w':World}{name:String}{k:IntKind}{zs:List Int}(h:Lib.TabIs P w name k zs)(K:Kp (fun _=>False) w.heap.size w w'):Lib.TabIs P w' name k zs:=by
 unfold Lib.TabIs World.var? at *
 cases hg:P.globalNamed name with
 | none=>simp [hg] at h
 | some g =>
  simp only[hg,Option.bind_some] at h ⊢
  have hlt:g<w.heap.size:=by
   rcases Nat.lt_or_ge g w.heap.size with h'|h'
   ·exact h'
   ·rw[Array.getElem?_eq_none h'] at h;simp at h
  rw[K.block g hlt (fun h=>h)]
  exact h
theorem cell_keep{w w':World}{a:Addr}{v:Value}(h:w.cell? a=some v)(K:Kp (fun _=>False) w.heap.size w w'):w'.cell? a=some v:=by
 have hlt:a.block<w.heap.size:=by
  rcases Nat.lt_or_ge a.block w.heap.size with h'|h'
  ·exact h'
  ·simp [World.cell?,Array.getElem?_eq_none h'] at h
 unfold World.cell? at *
 rw[K.block a.block hlt (fun h=>h)]
 exact h
def bruijn:List Int:=[0,1,56,2,57,49,28,3,61,58,42,50,38,29,17,4,62,47,59,36,45,43,51,22,53,39,33,30,24,18,12,5,63,55,48,27,60,41,37,16,46,35,44,21,52,32,23,11,54,26,40,15,34,20,31,10,25,14,19,9,13,8,7,6]
instance:Tb Tryz.prog where
 T w:=Lib.TabIs Tryz.prog w "internal/strconv.uint64pow10" .u64 Lib.pow10Tab∧(∃m,w.cell? ⟨1,0,none⟩=some (.int .i64 m))∧Lib.TabIs Tryz.prog w "math/bits.deBruijn64tab" .u8 bruijn∧(∃t v,w.cell? ⟨4,0,none⟩=some (.iface t v))∧∃t v,w.cell? ⟨5,0,none⟩=some (.iface t v)
 keep _ _ h K:=⟨tabIs_keep h.1 K,h.2.1.imp fun _ h=>cell_keep h K,tabIs_keep h.2.2.1 K,h.2.2.2.1.imp fun _ h=>h.imp fun _ h=>cell_keep h K,h.2.2.2.2.imp fun _ h=>h.imp fun _ h=>cell_keep h K⟩
theorem mix:Tryz.prog.follows .mixedOrders=true:=by kernel_rfl
abbrev Gxx(f:FuncId)(a:List V)(r:V):Prop:=Pg.Good Tryz.prog f a r
abbrev Gxz (f:FuncId) (a:List V) (s t:St) (r:V):Prop:=Pg.GoodZ Tryz.prog f a s t r
theorem tk{p:Prop}(h:p:=by (repeat' apply aI)<;>(show _=_)<;>kernel_rfl):p:=h
abbrev yB(t n:Nat)(a:Bool)(i:Option IntKind)(s b:Bool)(e:Option TypeId)(w:Nat):Prop:=(Tryz.prog.underlying t).isSome=true∧tsz Tryz.prog t=some n∧mV Tryz.prog t=some a∧rY Tryz.prog t=i∧ji Tryz.prog t=s∧nI Tryz.prog t=b∧elemT Tryz.prog t=e∧tapp Tryz.prog t=some (n,w)
abbrev yS(t:Nat)(i:Option IntKind)(s b:Bool)(e:Option TypeId)(w:Nat)(z:Value):Prop:=yB t 1 false i s b e w∧tzc Tryz.prog t=some [.c z]∧zelem Tryz.prog t=some (.c z)
abbrev yI(t:Nat)(i:IntKind)(w:Nat):Prop:=yS t (some i) false false none w (.int i 0)
abbrev yL(t e:Nat):Prop:=yS t none false false (some e) 24 (.slice none 0 0)
abbrev yA(t n w:Nat)(l:List V):Prop:=yB t n true none false false none w∧tzc Tryz.prog t=some l∧zelem Tryz.prog t=some (.agg l)
abbrev yP(t:Nat)(l:List (Nat × Nat)):Prop:=xC Tryz.prog t=some l
abbrev y0:V := .c (.int .i64 0)
abbrev yu:V := .c (.int .u64 0)
abbrev yf:V := .c (.bool false)
abbrev yn:V := .c (.slice none 0 0)
abbrev yF(t j a b:Nat):Prop:=mW Tryz.prog t j=some (a,b)
theorem y2:yI 2 .i64 8:=tk
theorem y3:yI 3 .i64 8:=tk
theorem y4:yS 4 none false true none 1 (.bool false):=tk
theorem y5:yI 5 .u8 1:=tk
theorem y6:yI 6 .u8 1:=tk
theorem y7:yA 7 4 24 [y0,y0,yf,.c (.int .u8 0)]∧yF 7 0 2 0∧yF 7 1 3 1∧yF 7 2 4 2∧yF 7 3 6 3∧yP 7 [(0,1),(1,1),(2,1),(3,1)]∧qo Tryz.prog 7=some [(0,.n),(1,.n),(2,.b),(3,.n)]:=tk
theorem y9:yS 9 none true false none 16 (.string ⟨#[]⟩):=tk
theorem y12:yI 12 .u64 8:=tk
theorem y13:yA 13 2 24 [.c (.string ⟨#[]⟩),yu]∧yF 13 0 9 0∧yF 13 1 12 1∧yP 13 [(0,1),(1,1)]:=tk
theorem y16:yS 16 none false false none 8 (.pointer none)∧jM Tryz.prog 16=true∧rq Tryz.prog 16=some 298:=tk
theorem y17:yS 17 none false false none 8 (.pointer none)∧jM Tryz.prog 17=true∧rq Tryz.prog 17=some 305:=tk
theorem y18:yA 18 1 8 [.c (.pointer none)]∧yF 18 0 17 0∧yP 18 [(0,1)]:=tk
theorem y21:yI 21 .i32 4:=tk
theorem y22:yL 22 3:=tk
theorem y23:yL 23 9:=tk
theorem y24:yI 24 .u64 8:=tk
theorem y25:yA 25 4 32 [y0,y0,y0,yu]∧yF 25 0 3 0∧yF 25 1 3 1∧yF 25 2 3 2∧yF 25 3 24 3∧yP 25 [(0,1),(1,1),(2,1),(3,1)]∧qo Tryz.prog 25=some [(0,.n),(1,.n),(2,.n),(3,.n)]:=tk
theorem y26:yA 26 4 32 [y0,y0,y0,yu]∧yF 26 0 3 0∧yF 26 1 3 1∧yF 26 2 3 2∧yF 26 3 24 3∧yP 26 [(0,1),(1,1),(2,1),(3,1)]∧qo Tryz.prog 26=some [(0,.n),(1,.n),(2,.n),(3,.n)]:=tk
theorem y27:yL 27 64:=tk
theorem y28:yL 28 5:=tk
theorem y29:yA 29 5 48 [y0,.c (.string ⟨#[]⟩),y0,y0,y0]∧yF 29 0 3 0∧yF 29 1 9 1∧yF 29 2 3 2∧yF 29 3 3 3∧yF 29 4 3 4∧yP 29 [(0,1),(1,1),(2,1),(3,1),(4,1)]∧qo Tryz.prog 29=some [(0,.n),(1,.s),(2,.n),(3,.n),(4,.n)]:=tk
theorem y30:yA 30 5 48 [y0,.c (.string ⟨#[]⟩),y0,y0,y0]∧yF 30 0 3 0∧yF 30 1 9 1∧yF 30 2 3 2∧yF 30 3 3 3∧yF 30 4 3 4∧yP 30 [(0,1),(1,1),(2,1),(3,1),(4,1)]∧qo Tryz.prog 30=some [(0,.n),(1,.s),(2,.n),(3,.n),(4,.n)]:=tk
theorem y31:yA 31 22 264 [y0,.c (.string ⟨#[]⟩),.c (.string ⟨#[]⟩),yn,y0,y0,y0,yu,yn,yn,y0,y0,y0,y0,y0,y0,y0,.c (.string ⟨#[]⟩),y0,y0,y0,yn]∧yF 31 0 3 0∧yF 31 1 9 1∧yF 31 2 9 2∧yF 31 3 23 3∧yF 31 4 26 4∧yF 31 5 27 8∧yF 31 6 28 9∧yF 31 7 3 10∧yF 31 8 3 11∧yF 31 9 3 12∧yF 31 10 3 13∧yF 31 11 3 14∧yF 31 12 3 15∧yF 31 13 30 16∧yF 31 14 28 21∧yP 31 [(0,1),(1,1),(2,1),(3,1),(4,4),(8,1),(9,1),(10,1),(11,1),(12,1),(13,1),(14,1),(15,1),(16,5),(21,1)]:=tk
theorem y32:yA 32 22 264 [y0,.c (.string ⟨#[]⟩),.c (.string ⟨#[]⟩),yn,y0,y0,y0,yu,yn,yn,y0,y0,y0,y0,y0,y0,y0,.c (.string ⟨#[]⟩),y0,y0,y0,yn]∧yF 32 0 3 0∧yF 32 1 9 1∧yF 32 2 9 2∧yF 32 3 23 3∧yF 32 4 26 4∧yF 32 5 27 8∧yF 32 6 28 9∧yF 32 7 3 10∧yF 32 8 3 11∧yF 32 9 3 12∧yF 32 10 3 13∧yF 32 11 3 14∧yF 32 12 3 15∧yF 32 13 30 16∧yF 32 14 28 21∧yP 32 [(0,1),(1,1),(2,1),(3,1),(4,4),(8,1),(9,1),(10,1),(11,1),(12,1),(13,1),(14,1),(15,1),(16,5),(21,1)]:=tk
theorem y37:yI 37 .i64 8:=tk
theorem y45:yI 45 .u64 8:=tk
theorem y48:yL 48 69:=tk
theorem y53:yL 53 59:=tk
theorem y54:yA 54 6 88 [y0,y0,.c (.string ⟨#[]⟩),yn,yn,yf]∧yF 54 0 3 0∧yF 54 1 3 1∧yF 54 2 9 2∧yF 54 3 22 3∧yF 54 4 53 4∧yF 54 5 4 5∧yP 54 [(0,1),(1,1),(2,1),(3,1),(4,1),(5,1)]:=tk
theorem y55:yA 55 6 88 [y0,y0,.c (.string ⟨#[]⟩),yn,yn,yf]∧yF 55 0 3 0∧yF 55 1 3 1∧yF 55 2 9 2∧yF 55 3 22 3∧yF 55 4 53 4∧yF 55 5 4 5∧yP 55 [(0,1),(1,1),(2,1),(3,1),(4,1),(5,1)]:=tk
theorem y56:yA 56 12 168 [y0,y0,y0,y0,yn,y0,y0,.c (.string ⟨#[]⟩),yn,yn,yf,yn]∧yF 56 0 37 0∧yF 56 1 3 1∧yF 56 2 3 2∧yF 56 3 3 3∧yF 56 4 23 4∧yF 56 5 55 5∧yF 56 6 28 11∧yP 56 [(0,1),(1,1),(2,1),(3,1),(4,1),(5,6),(11,1)]:=tk
theorem y57:yA 57 12 168 [y0,y0,y0,y0,yn,y0,y0,.c (.string ⟨#[]⟩),yn,yn,yf,yn]∧yF 57 0 37 0∧yF 57 1 3 1∧yF 57 2 3 2∧yF 57 3 3 3∧yF 57 4 23 4∧yF 57 5 55 5∧yF 57 6 28 11∧yP 57 [(0,1),(1,1),(2,1),(3,1),(4,1),(5,6),(11,1)]:=tk
theorem y58:yA 58 3 32 [.c (.string ⟨#[]⟩),y0,y0]∧yF 58 0 9 0∧yF 58 1 3 1∧yF 58 2 3 2∧yP 58 [(0,1),(1,1),(2,1)]∧qo Tryz.prog 58=some [(0,.s),(1,.n),(2,.n)]:=tk
theorem y59:yA 59 3 32 [.c (.string ⟨#[]⟩),y0,y0]∧yF 59 0 9 0∧yF 59 1 3 1∧yF 59 2 3 2∧yP 59 [(0,1),(1,1),(2,1)]∧qo Tryz.prog 59=some [(0,.s),(1,.n),(2,.n)]:=tk
theorem y63:yA 63 2 24 [.c (.string ⟨#[]⟩),y0]∧yF 63 0 9 0∧yF 63 1 3 1∧yP 63 [(0,1),(1,1)]∧qo Tryz.prog 63=some [(0,.s),(1,.n)]:=tk
theorem y64:yA 64 2 24 [.c (.string ⟨#[]⟩),y0]∧yF 64 0 9 0∧yF 64 1 3 1∧yP 64 [(0,1),(1,1)]∧qo Tryz.prog 64=some [(0,.s),(1,.n)]:=tk
theorem y66:yL 66 32:=tk
theorem y68:yA 68 24 280 [y0,y0,y0,.c (.string ⟨#[]⟩),.c (.string ⟨#[]⟩),yn,y0,y0,y0,yu,yn,yn,y0,y0,y0,y0,y0,y0,y0,.c (.string ⟨#[]⟩),y0,y0,y0,yn]∧yF 68 0 3 0∧yF 68 1 3 1∧yF 68 2 32 2∧yP 68 [(0,1),(1,1),(2,22)]:=tk
theorem y69:yA 69 24 280 [y0,y0,y0,.c (.string ⟨#[]⟩),.c (.string ⟨#[]⟩),yn,y0,y0,y0,yu,yn,yn,y0,y0,y0,y0,y0,y0,y0,.c (.string ⟨#[]⟩),y0,y0,y0,yn]∧yF 69 0 3 0∧yF 69 1 3 1∧yF 69 2 32 2∧yP 69 [(0,1),(1,1),(2,22)]:=tk
theorem y79:yA 79 3 24 [y0,y0,yf]∧yF 79 0 3 0∧yF 79 1 3 1∧yF 79 2 4 2∧yP 79 [(0,1),(1,1),(2,1)]∧qo Tryz.prog 79=some [(0,.n),(1,.n),(2,.b)]:=tk
theorem y80:yA 80 3 24 [y0,y0,yf]∧yF 80 0 3 0∧yF 80 1 3 1∧yF 80 2 4 2∧yP 80 [(0,1),(1,1),(2,1)]∧qo Tryz.prog 80=some [(0,.n),(1,.n),(2,.b)]:=tk
theorem y81:yA 81 5 56 [y0,y0,yu,yn,yf]∧yF 81 0 3 0∧yF 81 1 3 1∧yF 81 2 24 2∧yF 81 3 22 3∧yF 81 4 4 4∧yP 81 [(0,1),(1,1),(2,1),(3,1),(4,1)]:=tk
theorem y82:yA 82 5 56 [y0,y0,yu,yn,yf]∧yF 82 0 3 0∧yF 82 1 3 1∧yF 82 2 24 2∧yF 82 3 22 3∧yF 82 4 4 4∧yP 82 [(0,1),(1,1),(2,1),(3,1),(4,1)]:=tk
theorem y83:yA 83 3 40 [y0,yu,yn]∧yF 83 0 3 0∧yF 83 1 24 1∧yF 83 2 22 2∧yP 83 [(0,1),(1,1),(2,1)]:=tk
theorem y84:yA 84 3 40 [y0,yu,yn]∧yF 84 0 3 0∧yF 84 1 24 1∧yF 84 2 22 2∧yP 84 [(0,1),(1,1),(2,1)]:=tk
theorem y85:yA 85 4 48 [y0,y0,yn,yf]∧yF 85 0 3 0∧yF 85 1 3 1∧yF 85 2 53 2∧yF 85 3 4 3∧yP 85 [(0,1),(1,1),(2,1),(3,1)]:=tk
theorem y86:yA 86 4 48 [y0,y0,yn,yf]∧yF 86 0 3 0∧yF 86 1 3 1∧yF 86 2 53 2∧yF 86 3 4 3∧yP 86 [(0,1),(1,1),(2,1),(3,1)]:=tk
theorem y87:yA 87 5 56 [y0,y0,y0,yn,yf]∧yF 87 0 3 0∧yF 87 1 3 1∧yF 87 2 3 2∧yF 87 3 53 3∧yF 87 4 4 4∧yP 87 [(0,1),(1,1),(2,1),(3,1),(4,1)]:=tk
theorem y88:yA 88 5 56 [y0,y0,y0,yn,yf]∧yF 88 0 3 0∧yF 88 1 3 1∧yF 88 2 3 2∧yF 88 3 53 3∧yF 88 4 4 4∧yP 88 [(0,1),(1,1),(2,1),(3,1),(4,1)]:=tk
theorem y89:yL 89 23:=tk
theorem y90:yA 90 5 56 [y0,y0,y0,yn,yf]∧yF 90 0 3 0∧yF 90 1 3 1∧yF 90 2 3 2∧yF 90 3 89 3∧yF 90 4 4 4∧yP 90 [(0,1),(1,1),(2,1),(3,1),(4,1)]:=tk
theorem y91:yA 91 5 56 [y0,y0,y0,yn,yf]∧yF 91 0 3 0∧yF 91 1 3 1∧yF 91 2 3 2∧yF 91 3 89 3∧yF 91 4 4 4∧yP 91 [(0,1),(1,1),(2,1),(3,1),(4,1)]:=tk
theorem y92:yA 92 29 312 [y0,y0,y0,yu,y0,y0,yf,y0,y0,yu,yn,yf,y0,yu,yn,y0,y0,yn,yf,y0,y0,y0,yn,yf,y0,y0,y0,yn,yf]∧yF 92 0 26 0∧yF 92 1 80 4∧yF 92 2 82 7∧yF 92 3 84 12∧yF 92 4 86 15∧yF 92 5 88 19∧yF 92 6 91 24∧yP 92 [(0,4),(4,3),(7,5),(12,3),(15,4),(19,5),(24,5)]:=tk
theorem y93:yA 93 29 312 [y0,y0,y0,yu,y0,y0,yf,y0,y0,yu,yn,yf,y0,yu,yn,y0,y0,yn,yf,y0,y0,y0,yn,yf,y0,y0,y0,yn,yf]∧yF 93 0 26 0∧yF 93 1 80 4∧yF 93 2 82 7∧yF 93 3 84 12∧yF 93 4 86 15∧yF 93 5 88 19∧yF 93 6 91 24∧yP 93 [(0,4),(4,3),(7,5),(12,3),(15,4),(19,5),(24,5)]:=tk
theorem amN:yS 106 none false false none 8 (.pointer none)∧jM Tryz.prog 106=true∧rq Tryz.prog 106=some 108:=tk
theorem amO:yA 107 2 32 [yn,yf]∧yF 107 0 23 0∧yF 107 1 4 1∧yP 107 [(0,1),(1,1)]:=tk
theorem amP:yA 108 2 32 [yn,yf]∧yF 108 0 23 0∧yF 108 1 4 1∧yP 108 [(0,1),(1,1)]:=tk
theorem amQ:yS 110 none false false none 8 (.pointer none)∧jM Tryz.prog 110=true∧rq Tryz.prog 110=some 112:=tk
theorem amR:yA 111 2 32 [yn,yf]∧yF 111 0 23 0∧yF 111 1 4 1∧yP 111 [(0,1),(1,1)]:=tk
theorem amS:yA 112 2 32 [yn,yf]∧yF 112 0 23 0∧yF 112 1 4 1∧yP 112 [(0,1),(1,1)]:=tk
theorem amT:yS 113 none false false none 8 (.pointer none)∧jM Tryz.prog 113=true∧rq Tryz.prog 113=some 115:=tk
theorem amU:yA 114 2 32 [.c (.pointer none),yn]∧yF 114 0 113 0∧yF 114 1 28 1∧yP 114 [(0,1),(1,1)]:=tk
theorem amV:yA 115 2 32 [.c (.pointer none),yn]∧yF 115 0 113 0∧yF 115 1 28 1∧yP 115 [(0,1),(1,1)]:=tk
theorem amW:(Tryz.prog.underlying 117).isSome=true:=tk
theorem amX:yA 132 14 14 [yf,yf,yf,yf,yf,yf,yf,yf,yf,yf,yf,yf,yf,yf]∧jD Tryz.prog 132=some (14,4):=tk
theorem amY:yA 140 13 13 [yf,yf,yf,yf,yf,yf,yf,yf,yf,yf,yf,yf,yf]∧jD Tryz.prog 140=some (13,4):=tk
theorem amZ:yS 151 none false false none 8 (.pointer none)∧jM Tryz.prog 151=true∧rq Tryz.prog 151=some 32:=tk
theorem am0:yS 152 none false false none 8 (.pointer none)∧jM Tryz.prog 152=true∧rq Tryz.prog 152=some 5:=tk
theorem am1:yS 184 none false false none 8 (.pointer none):=tk
theorem am2:yI 197 .u32 4:=tk
theorem am3:yA 219 24 24 [.c (.int .u8 0),.c (.int .u8 0),.c (.int .u8 0),.c (.int .u8 0),.c (.int .u8 0),.c (.int .u8 0),.c (.int .u8 0),.c (.int .u8 0),.c (.int .u8 0),.c (.int .u8 0),.c (.int .u8 0),.c (.int .u8 0),.c (.int .u8 0),.c (.int .u8 0),.c (.int .u8 0),.c (.int .u8 0),.c (.int .u8 0),.c (.int .u8 0),.c (.int .u8 0),.c (.int .u8 0),.c (.int .u8 0),.c (.int .u8 0),.c (.int .u8 0),.c (.int .u8 0)]∧jD Tryz.prog 219=some (24,5):=tk
theorem am4:yA 256 20 160 [yu,yu,yu,yu,yu,yu,yu,yu,yu,yu,yu,yu,yu,yu,yu,yu,yu,yu,yu,yu]∧jD Tryz.prog 256=some (20,24):=tk
theorem am5:yA 257 65 65 [.c (.int .u8 0),.c (.int .u8 0),.c (.int .u8 0),.c (.int .u8 0),.c (.int .u8 0),.c (.int .u8 0),.c (.int .u8 0),.c (.int .u8 0),.c (.int .u8 0),.c (.int .u8 0),.c (.int .u8 0),.c (.int .u8 0),.c (.int .u8 0),.c (.int .u8 0),.c (.int .u8 0),.c (.int .u8 0),.c (.int .u8 0),.c (.int .u8 0),.c (.int .u8 0),.c (.int .u8 0),.c (.int .u8 0),.c (.int .u8 0),.c (.int .u8 0),.c (.int .u8 0),.c (.int .u8 0),.c (.int .u8 0),.c (.int .u8 0),.c (.int .u8 0),.c (.int .u8 0),.c (.int .u8 0),.c (.int .u8 0),.c (.int .u8 0),.c (.int .u8 0),.c (.int .u8 0),.c (.int .u8 0),.c (.int .u8 0),.c (.int .u8 0),.c (.int .u8 0),.c (.int .u8 0),.c (.int .u8 0),.c (.int .u8 0),.c (.int .u8 0),.c (.int .u8 0),.c (.int .u8 0),.c (.int .u8 0),.c (.int .u8 0),.c (.int .u8 0),.c (.int .u8 0),.c (.int .u8 0),.c (.int .u8 0),.c (.int .u8 0),.c (.int .u8 0),.c (.int .u8 0),.c (.int .u8 0),.c (.int .u8 0),.c (.int .u8 0),.c (.int .u8 0),.c (.int .u8 0),.c (.int .u8 0),.c (.int .u8 0),.c (.int .u8 0),.c (.int .u8 0),.c (.int .u8 0),.c (.int .u8 0),.c (.int .u8 0)]∧jD Tryz.prog 257=some (65,5):=tk
theorem am6:yL 268 24:=tk
theorem am7:yI 273 .i64 8:=tk
theorem am8:yS 275 none false false none 8 (.pointer none)∧jM Tryz.prog 275=true∧rq Tryz.prog 275=some 285:=tk
theorem am9:yA 282 32 32 [.c (.int .u8 0),.c (.int .u8 0),.c (.int .u8 0),.c (.int .u8 0),.c (.int .u8 0),.c (.int .u8 0),.c (.int .u8 0),.c (.int .u8 0),.c (.int .u8 0),.c (.int .u8 0),.c (.int .u8 0),.c (.int .u8 0),.c (.int .u8 0),.c (.int .u8 0),.c (.int .u8 0),.c (.int .u8 0),.c (.int .u8 0),.c (.int .u8 0),.c (.int .u8 0),.c (.int .u8 0),.c (.int .u8 0),.c (.int .u8 0),.c (.int .u8 0),.c (.int .u8 0),.c (.int .u8 0),.c (.int .u8 0),.c (.int .u8 0),.c (.int .u8 0),.c (.int .u8 0),.c (.int .u8 0),.c (.int .u8 0),.c (.int .u8 0)]∧jD Tryz.prog 282=some (32,5):=tk
theorem ana:yA 283 64 64 [.c (.int .u8 0),.c (.int .u8 0),.c (.int .u8 0),.c (.int .u8 0),.c (.int .u8 0),.c (.int .u8 0),.c (.int .u8 0),.c (.int .u8 0),.c (.int .u8 0),.c (.int .u8 0),.c (.int .u8 0),.c (.int .u8 0),.c (.int .u8 0),.c (.int .u8 0),.c (.int .u8 0),.c (.int .u8 0),.c (.int .u8 0),.c (.int .u8 0),.c (.int .u8 0),.c (.int .u8 0),.c (.int .u8 0),.c (.int .u8 0),.c (.int .u8 0),.c (.int .u8 0),.c (.int .u8 0),.c (.int .u8 0),.c (.int .u8 0),.c (.int .u8 0),.c (.int .u8 0),.c (.int .u8 0),.c (.int .u8 0),.c (.int .u8 0),.c (.int .u8 0),.c (.int .u8 0),.c (.int .u8 0),.c (.int .u8 0),.c (.int .u8 0),.c (.int .u8 0),.c (.int .u8 0),.c (.int .u8 0),.c (.int .u8 0),.c (.int .u8 0),.c (.int .u8 0),.c (.int .u8 0),.c (.int .u8 0),.c (.int .u8 0),.c (.int .u8 0),.c (.int .u8 0),.c (.int .u8 0),.c (.int .u8 0),.c (.int .u8 0),.c (.int .u8 0),.c (.int .u8 0),.c (.int .u8 0),.c (.int .u8 0),.c (.int .u8 0),.c (.int .u8 0),.c (.int .u8 0),.c (.int .u8 0),.c (.int .u8 0),.c (.int .u8 0),.c (.int .u8 0),.c (.int .u8 0),.c (.int .u8 0)]∧jD Tryz.prog 283=some (64,5):=tk
theorem anb:yA 284 3 48 [.c (.string ⟨#[]⟩),.c (.string ⟨#[]⟩),.c (.nilIface)]∧yF 284 0 9 0∧yF 284 1 9 1∧yF 284 2 117 2∧yP 284 [(0,1),(1,1),(2,1)]:=tk
theorem anc:yA 285 3 48 [.c (.string ⟨#[]⟩),.c (.string ⟨#[]⟩),.c (.nilIface)]∧yF 285 0 9 0∧yF 285 1 9 1∧yF 285 2 117 2∧yP 285 [(0,1),(1,1),(2,1)]:=tk
theorem ane:yB 287 256 true none false false none 256∧jD Tryz.prog 287=some (256,5):=tk
theorem anf:yA 288 2 2 [.c (.int .u8 0),.c (.int .u8 0)]∧yF 288 0 5 0∧yF 288 1 5 1∧yP 288 [(0,1),(1,1)]∧qo Tryz.prog 288=some [(0,.n),(1,.n)]:=tk
theorem ang:yA 289 2 2 [.c (.int .u8 0),.c (.int .u8 0)]∧yF 289 0 5 0∧yF 289 1 5 1∧yP 289 [(0,1),(1,1)]∧qo Tryz.prog 289=some [(0,.n),(1,.n)]:=tk
theorem anh:yA 290 32 32 [.c (.int .u8 0),.c (.int .u8 0),.c (.int .u8 0),.c (.int .u8 0),.c (.int .u8 0),.c (.int .u8 0),.c (.int .u8 0),.c (.int .u8 0),.c (.int .u8 0),.c (.int .u8 0),.c (.int .u8 0),.c (.int .u8 0),.c (.int .u8 0),.c (.int .u8 0),.c (.int .u8 0),.c (.int .u8 0),.c (.int .u8 0),.c (.int .u8 0),.c (.int .u8 0),.c (.int .u8 0),.c (.int .u8 0),.c (.int .u8 0),.c (.int .u8 0),.c (.int .u8 0),.c (.int .u8 0),.c (.int .u8 0),.c (.int .u8 0),.c (.int .u8 0),.c (.int .u8 0),.c (.int .u8 0),.c (.int .u8 0),.c (.int .u8 0)]∧jD Tryz.prog 290=some (16,289):=tk
theorem ani:yS 291 none false false none 8 (.pointer none)∧jM Tryz.prog 291=true∧rq Tryz.prog 291=some 293:=tk
theorem anj:yA 292 1 16 [.c (.string ⟨#[]⟩)]∧yF 292 0 9 0∧yP 292 [(0,1)]∧qo Tryz.prog 292=some [(0,.s)]:=tk
theorem ank:yA 293 1 16 [.c (.string ⟨#[]⟩)]∧yF 293 0 9 0∧yP 293 [(0,1)]∧qo Tryz.prog 293=some [(0,.s)]:=tk
theorem anl:yA 294 4 40 [.c (.pointer none),.c (.pointer none),.c (.pointer none),.c (.string ⟨#[]⟩)]∧yF 294 0 17 0∧yF 294 1 17 1∧yF 294 2 17 2∧yF 294 3 9 3∧yP 294 [(0,1),(1,1),(2,1),(3,1)]:=tk
theorem anm:(Tryz.prog.underlying 296).isSome=true∧tsz Tryz.prog 296=some 0∧mV Tryz.prog 296=some true∧rY Tryz.prog 296=none∧ji Tryz.prog 296=false∧nI Tryz.prog 296=false∧elemT Tryz.prog 296=none∧jD Tryz.prog 296=some (0,16):=tk
theorem ann:(Tryz.prog.underlying 297).isSome=true∧tsz Tryz.prog 297=some 0∧mV Tryz.prog 297=some true∧rY Tryz.prog 297=none∧ji Tryz.prog 297=false∧nI Tryz.prog 297=false∧elemT Tryz.prog 297=none∧yF 297 0 296 0∧yP 297 [(0,0)]:=tk
theorem ano:(Tryz.prog.underlying 298).isSome=true∧tsz Tryz.prog 298=some 0∧mV Tryz.prog 298=some true∧rY Tryz.prog 298=none∧ji Tryz.prog 298=false∧nI Tryz.prog 298=false∧elemT Tryz.prog 298=none∧yF 298 0 296 0∧yP 298 [(0,0)]:=tk
theorem anp:yI 299 .u8 1:=tk
theorem anq:yI 300 .u8 1:=tk
theorem anr:(Tryz.prog.underlying 301).isSome=true:=tk
theorem ant:yI 302 .i32 4:=tk
theorem anu:yI 303 .i32 4:=tk
theorem anv:yA 304 11 48 [yu,yu,.c (.int .u32 0),.c (.int .u8 0),.c (.int .u8 0),.c (.int .u8 0),.c (.int .u8 0),.c (.nilFunc),.c (.pointer none),.c (.int .i32 0),.c (.int .i32 0)]∧yF 304 0 12 0∧yF 304 1 12 1∧yF 304 2 197 2∧yF 304 3 299 3∧yF 304 4 5 4∧yF 304 5 5 5∧yF 304 6 300 6∧yF 304 7 301 7∧yF 304 8 152 8∧yF 304 9 302 9∧yF 304 10 303 10∧yP 304 [(0,1),(1,1),(2,1),(3,1),(4,1),(5,1),(6,1),(7,1),(8,1),(9,1),(10,1)]:=tk
theorem anw:yA 305 11 48 [yu,yu,.c (.int .u32 0),.c (.int .u8 0),.c (.int .u8 0),.c (.int .u8 0),.c (.int .u8 0),.c (.nilFunc),.c (.pointer none),.c (.int .i32 0),.c (.int .i32 0)]∧yF 305 0 12 0∧yF 305 1 12 1∧yF 305 2 197 2∧yF 305 3 299 3∧yF 305 4 5 4∧yF 305 5 5 5∧yF 305 6 300 6∧yF 305 7 301 7∧yF 305 8 152 8∧yF 305 9 302 9∧yF 305 10 303 10∧yP 305 [(0,1),(1,1),(2,1),(3,1),(4,1),(5,1),(6,1),(7,1),(8,1),(9,1),(10,1)]:=tk
theorem qQ:elemT Tryz.prog 23=some 9:=by kernel_rfl
theorem xZ:zelem Tryz.prog 9=some (.c (.string ⟨#[]⟩)):=by kernel_rfl
theorem x8:tapp Tryz.prog 9=some (1,16):=by kernel_rfl
theorem ak8:tsz Tryz.prog 9=some 1:=by kernel_rfl
theorem OA:elemT Tryz.prog 28=some 5:=by kernel_rfl
theorem ag4:zelem Tryz.prog 5=some (.c (.int .u8 0)):=by kernel_rfl
theorem ag5:tapp Tryz.prog 5=some (1,1):=by kernel_rfl
theorem ak9:tsz Tryz.prog 5=some 1:=by kernel_rfl
def tyf:=aI y2 (aI y3 (aI y4 (aI y5 (aI y6 (aI y7 (aI y9 (aI y12 (aI y13 (aI y16 (aI y17 (aI y18 (aI y21 (aI y22 (aI y23 (aI y24 (aI y25 (aI y26 (aI y27 (aI y28 (aI y29 (aI y30 (aI y31 (aI y32 (aI y37 (aI y45 (aI y48 (aI y53 (aI y54 (aI y55 (aI y56 (aI y57 (aI y58 (aI y59 (aI y63 (aI y64 (aI y66 (aI y68 (aI y69 (aI y79 (aI y80 (aI y81 (aI y82 (aI y83 (aI y84 (aI y85 (aI y86 (aI y87 (aI y88 (aI y89 (aI y90 (aI y91 (aI y92 (aI y93 (aI amN (aI amO (aI amP (aI amQ (aI amR (aI amS (aI amT (aI amU (aI amV (aI amW (aI amX (aI amY (aI amZ (aI am0 (aI am1 (aI am2 (aI am3 (aI am4 (aI am5 (aI am6 (aI am7 (aI am8 (aI am9 (aI ana (aI anb (aI anc (aI ane (aI anf (aI ang (aI anh (aI ani (aI anj (aI ank (aI anl (aI anm (aI ann (aI ano (aI anp (aI anq (aI anr (aI ant (aI anu (aI anv anw))))))))))))))))))))))))))))))))))))))))))))))))))))))))))))))))))))))))))))))))))))))))))))))))
end Go.Proofs.YtjiolbcdfgclaaaGreatDoor
