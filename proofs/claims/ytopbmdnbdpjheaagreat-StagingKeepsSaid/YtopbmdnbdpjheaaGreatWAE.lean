/-
  Merged texts.
-/
import Derived.IntWalk
import Derived.Test.YtopbmdnbdpjheaaGreatWAD
import Derived.Test.YtopbmdnbdpjheaaGreatProg
set_option linter.all false
set_option linter.unusedVariables false
set_option linter.unusedSimpArgs false
set_option linter.unusedSectionVars false
set_option linter.defProp false
set_option maxRecDepth 100000
set_option maxHeartbeats 8000000
section
namespace Go.Pg
open Go
def mkS(l:List V)(n:Nat):St:=⟨qw l 0,fun _=>none,n,fun _=>.top⟩
def GenE(l m:List Nat)(e:Nat->V):List V->Nat->Prop
 |[],_=>True
 |x::xs,k=>Gen l m (e k) x/\GenE l m e xs (k+1)
theorem wo(l m:List Nat)(e:Nat->V)(k:Nat):GenE l m e [] k=True:=rfl
theorem vZ(l m:List Nat)(e:Nat->V)(x:V)(xs:List V)(k:Nat):GenE l m e (x::xs) k=(Gen l m (e k) x/\GenE l m e xs (k+1)):=rfl
def GenE.at{l m:List Nat}{e:Nat->V}:∀(xs:List V) (k:Nat),GenE l m e xs k->∀t,Gen l m (e t) (qw xs k t):=by
 intro xs
 induction xs with
 |nil=>intro k _ t;exact .inl rfl
 |cons x xs i =>
  intro k h t;simp[qw,upd];split
  .rename_i a;subst a;exact h.1
  .exact i (k+1) h.2 t
theorem WV(l:List V)(n:Nat):mkS l n=⟨qw l 0,fun _=>none,n,fun _=>.top⟩:=rfl
theorem xw{l:List Nat}{s:St}{xs:List V}{n:Nat}(h:GenE l [] s.env xs 0)(hl:l.Nodup)(a:l.length<=n):Keep l [] s (mkS xs n) where
 env:=h.at xs 0
 hd:=fun _=>.inl rfl
 bx:=fun _ _ h=>by cases h
 ndl:=hl
 ndm:=.nil
 nidl:=a
 nidm:=ax _
def nS(l m:List Nat)(v:V):Gen l m v .top=True:=by simp[Gen]
theorem ku(l m:List Nat)(v:Value):Gen l m (.c v) (.c v)=True:=by simp[Gen,V.any,V.map]
theorem jS(l m:List Nat)(k:Nat)(xs:List V):Gen l m (.sl .fz k xs) (.sl .fz k xs)=True:=by simp[Gen,V.any,V.map,Tag.notIn,mr]
theorem aiy(l m:List Nat)(t:Tag)(k:Nat)(h:t.notNN=true):Gen l m (.c (.slice none 0 0)) (.sl t k [])=True:=by exact eq_true (.inr (.inr (.inl ⟨rfl,t,k,h,rfl⟩)))
def fE{l m:List Nat}{i j:Nat}{e:TypeId}{k:Nat}{xs ys:List V}(h:(l.contains i&&l.idxOf i == j)=true)(hx:xs=ys):Gen l m (.sl (.own i e) k xs) (.sl (.own j e) k ys):=by simp at h;subst hx;refine .inr (.inl ⟨by simp[V.any,Tag.notIn,h.1],by simp[V.map,mr,h.2]⟩)
theorem auV{α:Type}(f:Nat->α)(d:Nat)(v:α)(x:Nat):upd f d v x=if x=d then v else f x:=rfl
theorem aW(P:Program)(s:St)(t:Nat):kH P s [.tmp t]=some (s.env t):=rfl
theorem jW(P:Program)(s:St)(a b:Nat):kH P s [.tmp a,.tmp b]=some (.tup [s.env a,s.env b]):=rfl
theorem KU(P:Program)(s:St)(a b c:Nat):kH P s [.tmp a,.tmp b,.tmp c]=some (.tup [s.env a,s.env b,s.env c]):=rfl
theorem KT(P:Program)(s:St)(a b c d:Nat):kH P s [.tmp a,.tmp b,.tmp c,.tmp d]=some (.tup [s.env a,s.env b,s.env c,s.env d]):=rfl
def DC(P:Program)(b:List ResultVar)(r:V)(s:St):Prop:=∃a l,kH P s b=some a/\List.Nodup l/\a.any (Tag.notIn l) (fun _=>true) false=false/\a.map (mr l) id=r
theorem aqi(P:Program)(a:List ResultVar)(r:V)(s:St):KR P a r .ret s=DC P a r s:=rfl
theorem aqh(P:Program)(a:List ResultVar)(r:V)(s:St):KR P a r .normal s=DC P a r s:=rfl
theorem mD{P:Program}{b:List ResultVar}{r:V}{s:St}(l:List Nat)(a:V)(h:kH P s b=some a)(hl:l.Nodup)(hi:a.any (Tag.notIn l) (fun _=>true) false=false)(c:a.map (mr l) id=r):DC P b r s:=⟨a,l,h,hl,hi,c⟩
theorem ach(x y:Bool):(bif true then x else y)=x:=rfl
theorem acg(x y:Bool):(bif false then x else y)=y:=rfl
theorem acf(x y:Prop):(bif true then x else y)=x:=rfl
theorem ace(x y:Prop):(bif false then x else y)=y:=rfl
def pgx:=A8 @acf @ace @aiO @afh @ach @acg @auV @aiL (Ag @aiN @aiK @afe @afg @afd @aqi @aqh)
theorem lD{D:Dw}{P:Program}[Tb P]{b:Bool}{x y:Code}{Q:Exit->St->Prop}{s:St}(h:b=true->wpS D P x Q s)(hf:b=false->wpS D P y Q s):GR D P (.c (.bool b)) x y Q s:=adQ D P h hf
theorem lJ{P:Program}[Tb P]{b a:Bool}{d:List (Option Nat)}{Q:Exit->St->Prop}{o:Oper}{r:List Oper}{s:St}(h:b=a->aB P s o (EY P d Q r))(hf:b = !a->qH P d Q r (s.put o.dst (.c undef))) :
  yE P (some (.c (.bool b))) a d Q o r s:=aiM P h hf
section
variable {ι:Type} {D:Dw} {P:Program} [Tb P]
def uH(S:ι->St)(I:ι->Prop)(μ:ι->Nat)(i:ι)(s:St):Prop:=∃m a,m<μ i/\Weak s a/\∃j,I j/\μ j=m/\a=S j
theorem dn{S:ι->St}{I:ι->Prop}{μ:ι->Nat}{i:ι}{s:St}(j:ι)(l m:List Nat)(h1:I j)(h2:μ j<μ i)(h3:Keep l m s (S j)):uH S I μ i s:=⟨μ j,S j,h2,h3.weak,j,h1,rfl,rfl⟩
def CS(S:ι->St)(I:ι->Prop)(μ:ι->Nat)(i:ι)(Q:Exit->St->Prop):Exit->St->Prop:=nZ (uH S I μ i) Q
theorem yG(S:ι->St)(I:ι->Prop)(μ:ι->Nat)(i:ι)(Q:Exit->St->Prop)(s:St):CS S I μ i Q .normal s=uH S I μ i s:=rfl
theorem Ox(S:ι->St)(I:ι->Prop)(μ:ι->Nat)(i:ι)(Q:Exit->St->Prop)(id:Nat)(s:St):CS S I μ i Q (.exit id) s=Q (.exit id) s:=rfl
theorem Oy(S:ι->St)(I:ι->Prop)(μ:ι->Nat)(i:ι)(Q:Exit->St->Prop)(s:St):CS S I μ i Q .ret s=Q .ret s:=rfl
theorem OW{x:Code}{Q:Exit->St->Prop}{s:St}(S:ι->St)(I:ι->Prop)(μ:ι->Nat)(a:ι)(l m:List Nat)(hk:Keep l m s (S a))(h:I a)
  (b:∀i,I i->∀s,s=S i->wpS D P x (CS S I μ i Q) s):Aw D P x Q s:=by
 refine⟨fun n s1=>∃i,I i/\μ i=n/\s1=S i,μ a,⟨S a,hk.weak,a,h,rfl,rfl⟩,?_⟩
 rintro n s1 ⟨i,hi,rfl,rfl⟩
 exact b i hi _ rfl
end
end Go.Pg
end
namespace Go.Pg
open Go
def oct(l:List Nat):Prop:=∀b∈l,b<256
def sB(l:List Nat):ByteArray:=⟨(l.map UInt8.ofNat).toArray⟩
def bv(l:List Nat):List V:=l.map fun(b:Nat)=>V.c (.int .u8 (b:Int))
def sv(l:List (List Nat)):List V:=l.map fun b=>V.c (.string (sB b))
theorem vk:oct []:=fun b h=>by cases h
theorem yT{a:Nat}(h:a<256):oct [a]:=by intro x hx;simp at hx;omega
theorem bT{a b:List Nat}(h:oct a)(c:oct b):oct (a++b):=by intro x hx;rcases iG.1 hx with hx|hx;exact h x hx;exact c x hx
theorem Ie{a:Nat}{l:List Nat}(h:a<256)(b:oct l):oct (a::l):=bT (a:=[a]) (yT h) b
theorem vw{l:List Nat}(h:oct l)(e:Nat):oct (l.take e):=fun x hx=>h x (Gq hx)
theorem eG{l:List Nat}(h:oct l)(e:Nat):oct (l.drop e):=fun x hx=>h x (BG hx)
theorem kw{l:List Nat}(h:oct l)(i:Nat):l.getD i 0<256:=by
 rcases au i l.length with h1|h1
 .simp[dY h1];exact h _ (ji h1)
 .grind
def aA(l:List Nat):(bv l).length=l.length:=by simp[bv]
def lY(l:List Nat)(i:Nat)(h:i<l.length):(bv l)[i]?=some (.c (.int .u8 (l.getD i 0:Nat))):=by grind[bv]
theorem dE(l a:List Nat):bv l++bv a=bv (l++a):=by simp[bv]
def SI(l:List Nat)(n:Nat):(bv l).take n=bv (l.take n):=by simp_all[bv]
def adq(l:List Nat)(n:Nat):(bv l).drop n=bv (l.drop n):=by simp_all[bv]
def aga(l:List Nat):V.flatL (bv l)=true:=by
 induction l with
 |nil=>rfl
 |cons a l i=>simp[bv]at i⊢;exact i
def jA(l:List (List Nat)):(sv l).length=l.length:=by simp[sv]
def qJ(l:List (List Nat))(i:Nat)(h:i<l.length):(sv l)[i]?=some (.c (.string (sB (l.getD i [])))):=by grind[sv]
def Zm(l a:List (List Nat)):sv l++sv a=sv (l++a):=by simp[sv]
theorem mG(l:List Nat):(sB l).size=l.length:=by simp[sB,ByteArray.size]
theorem KX{l:List Nat}(h:oct l)(i:Nat):((sB l).data.toList.getD i 0).toNat=l.getD i 0:=by
 simp[sB];rcases au i l.length with h1|h1
 .have:=h _ (ji h1);simp_all
 .simp_all
theorem aqV(l:List Nat)(i j:Nat):(sB l).extract i j=sB ((l.take j).drop i):=by apply ByteArray.ext;rw[ByteArray.data_extract];grind[sB]
theorem Qv{a b:List Nat}(ha:oct a)(hb:oct b)(h:sB a=sB b):a=b:=by
 have hl:a.length=b.length:=by have:=mV ByteArray.size h;rwa [mG,mG]at this
 apply IW;intro i;rcases au i a.length with h1|h1
 .have c:=KX ha i;grind[KX]
 .grind
def vF{a b:List Nat}(ha:oct a)(hb:oct b):decide (sB a=sB b)=decide (a=b):=by grind[Qv]
def ZF(l:List Nat):u8s (bv l)=some (l.map fun(b:Nat)=>(b:Int)):=by
 induction l with
 |nil=>rfl
 |cons a l i=>simp[bv]at i⊢;simp only[u8s,i];rfl
end Go.Pg
section
namespace Go.Pg
open Go
def tzc(P:Program)(t:TypeId):Option (List V):=(lV P t).map fun z=>z.cells.toList.map .c
section
variable (P:Program) (e:Nat->V) (b:BX) (n:Nat) (h:Nat->V) (t:TypeId)
theorem aaL:BN P ⟨e,b,n,h⟩ t=(tzc P t).map fun l=>(.ref n 0,⟨e,upd b n (some (t,l)),n+1,h⟩):=by simp[tzc];rfl
theorem adb(x:V):BP ⟨e,b,n,h⟩ t x=x.cs.map fun l=>(.ref n 0,⟨e,upd b n (some (t,l)),n+1,h⟩):=rfl
theorem alx(k off:Nat):nV P ⟨e,b,n,h⟩ t k off=(b k).bind fun x=>jI P t x.2 off:=rfl
theorem atX(k off:Nat)(x:V):oZ P ⟨e,b,n,h⟩ t k off x=(b k).bind fun y=>x.cs.bind fun l=>if tsz P t=some l.length/\off+l.length<=y.2.length/\l.all V.one=true then some ⟨e,upd b k (some (y.1,y.2.take off++l++y.2.drop (off+l.length))),n,h⟩else none:=rfl
theorem auS(src d:TypeId)(k off:Nat):pY P ⟨e,b,n,h⟩ src d (.ref k off)=(b k).bind fun y=>if PX P src d y.1 y.2.length off=true then some (.ref k off)else none:=rfl
theorem Jf(len:Nat)(parts:List (Nat×V)):qp P ⟨e,b,n,h⟩ t len parts=(elemT P t).bind fun el=>(tapp P el).bind fun p=>(zelem P el).bind fun z=>(setAll p.1 (List.replicate len z) parts).bind fun xs =>if len*p.1<=16777216 then some (.sl (bsTag len n el) p.1 xs,⟨e,b,n+1,h⟩)else none:=rfl
theorem adi(id:Nat)(t:TypeId):bsTag 0 id t = .nn:=rfl
theorem adk(l id:Nat)(t:TypeId):bsTag (l+1) id t = .own id t:=rfl
def mkK(b:Nat)(l c:Int)(x:Option (V×St)):Option (V×St):=if 0<=l/\l<=c/\(b:Int)*c<=281474976710656/\c<=9223372036854775807 then x else none
theorem amm(b:Nat)(l c:Int)(x:Option (V×St))(h:0<=l/\l<=c/\(b:Int)*c<=281474976710656/\c<=9223372036854775807):mkK b l c x=x:=ah h
theorem alL(k a:IntKind)(l c:Int):yO P ⟨e,b,n,h⟩ t (.c (.int k l)) (.c (.int a c))=(elemT P t).bind fun el=>(tapp P el).bind fun p=>(zelem P el).bind fun z=>mkK p.2 l c (some (.sl (.own n el) p.1 (List.replicate l.toNat z),⟨e,b,n+1,h⟩)):=rfl
def apK(e:Nat->V)(b:BX)(n:Nat)(h:Nat->V)(el k bytes:Nat)(x:V)(ys:List V):Option (V×St) :=
 match x with
 | .c (.slice none 0 0)=>if Fits ys.length bytes then some (.sl (.own n el) k ys,⟨e,b,n+1,h⟩)else none
 | .sl (.own id e') a xs=>if e'=el/\a=k/\Fits (xs.length+ys.length) bytes then some (.sl (.own id el) k (xs++ys),⟨bD (aF id) e,df (aF id) b,max n (id+1),bD (aF id) h⟩)else none
 | .sl .nn _ []=>if Fits ys.length bytes then some (.sl (AP ys n el) k ys,⟨e,b,n+1,h⟩)else none
 |_=>none
theorem Sr(t2:TypeId)(x y:V):uG P ⟨e,b,n,h⟩ t t2 x y=(elemT P t).bind fun el=>(tapp P el).bind fun p=>(rQ P t2 p.1 y).bind fun ys=>apK e b n h el p.1 p.2 x ys:=by rfl
theorem abo(el k bytes:Nat)(ys:List V)(hf:Fits ys.length bytes):apK e b n h el k bytes (.c (.slice none 0 0)) ys=some (.sl (.own n el) k ys,⟨e,b,n+1,h⟩):=ah hf
theorem Gz(el k bytes c:Nat)(ys:List V)(hf:Fits ys.length bytes)(a:0<ys.length):apK e b n h el k bytes (.sl .nn c []) ys=some (.sl (.own n el) k ys,⟨e,b,n+1,h⟩):=by
 cases ys with
 |nil=>cases a
 |cons y ys=>exact ah hf
theorem abp(el k bytes a:Nat)(hf:Fits 0 bytes):apK e b n h el k bytes (.sl .nn a []) []=some (.sl .nn k [],⟨e,b,n+1,h⟩):=ah hf
theorem abr(el k bytes id:Nat)(xs ys:List V)(hf:Fits (xs.length+ys.length) bytes):apK e b n h el k bytes (.sl (.own id el) k xs) ys=some (.sl (.own id el) k (xs++ys),⟨bD (aF id) e,df (aF id) b,max n (id+1),bD (aF id) h⟩):=ah ⟨rfl,rfl,hf⟩
end
section
variable (P:Program) (t:TypeId)
def ldK(a:Option Bool)(s:Option Nat)(cs:List V)(off:Nat):Option V :=
 match a with
 |some true=>s.bind fun n=>if off+n<=cs.length then some (.agg ((cs.drop off).take n))else none
 |some false=>cs[off]?
 |none=>none
theorem ak4(cs:List V)(off:Nat):jI P t cs off=ldK (sZ P t) (tsz P t) cs off:=by rfl
theorem ak6(s:Option Nat)(cs:List V)(off:Nat):ldK (some false) s cs off=cs[off]?:=rfl
theorem ak7(n:Nat)(cs:List V)(off:Nat):ldK (some true) (some n) cs off=if off+n<=cs.length then some (.agg ((cs.drop off).take n))else none:=rfl
theorem afQ(k off f:Nat):faV P t (.ref k off) f=(sU P t f).bind fun p=>(tsz P p.1).bind fun a=>if a=0 then none else some (.ref k (off+p.2)):=rfl
theorem afP(a:Tag)(j:Nat)(xs:List V)(i off f:Nat):faV P t (.el a j xs i off) f=(sU P t f).bind fun p=>(tsz P p.1).bind fun k=>if k=0 then none else some (.el a j xs i (off+p.2)):=rfl
theorem afU(cs:List V)(f:Nat):EC P t (.agg cs) f=(sU P t f).bind fun p=>jI P p.1 cs p.2:=rfl
theorem ai4(a:Tag)(k:Nat)(xs:List V)(i:IntKind)(n:Int)(b:0<=n)(h:n<xs.length):iaV P t (.sl a k xs) (.c (.int i n))=if(elemT P t).bind (tsz P)=some k then some (.el a k xs n.toNat 0)else none:=by grind[ai3,elemT,tsz]
theorem ai0(b off:Nat)(i:IntKind)(n:Int):iaV P t (.ref b off) (.c (.int i n))=(sH P t).bind fun p=>(tsz P p.2).bind fun k=>if 0<=n/\n<p.1 then some (.ref b (off+n.toNat*k))else none:=rfl
theorem V6(z:ByteArray)(i:IntKind)(n:Int)(a:0<=n)(h:n<z.size):ixV P t (.c (.string z)) (.c (.int i n))=if iU P t=true then some (.c (.int .u8 ((z.data.toList.getD n.toNat 0).toNat)))else none:=by grind[ixV,iU]
theorem akJ(l:List Nat)(i:IntKind)(n:Int)(ho:oct l)(a:0<=n)(h:n<l.length):ixV P t (.c (.string (sB l))) (.c (.int i n))=if iU P t=true then some (.c (.int .u8 (l.getD n.toNat 0:Nat)))else none:=by grind[V6,mG,KX]
theorem akH(cs:List V)(i:IntKind)(n:Int):ixV P t (.agg cs) (.c (.int i n))=(sH P t).bind fun p=>(tsz P p.2).bind fun k=>if 0<=n/\n<p.1 then jI P p.2 cs (n.toNat*k)else none:=rfl
def cvK(d:Option IntKind)(f:Option FloatKind)(n:Int):Option V:=match d with|some k=>some (.c (.int k (k.wrap n)))|none=>f.map fun k=>.c (.float k (k.nearest n))
theorem adZ(src:TypeId)(k:IntKind)(n:Int):lZ P src t (.c (.int k n))=if(P.underlying src).isSome=true then cvK (kS P t) (G7 P t) n else none:=by
 unfold lZ
 cases kS P t with
 |none=>rfl
 |some a=>rfl
theorem aep(k:IntKind)(f:Option FloatKind)(n:Int):cvK (some k) f n=some (.c (.int k (k.wrap n))):=rfl
theorem adY(src:TypeId)(z:ByteArray):lZ P src t (.c (.string z))=if(P.underlying src).isSome&&iU P t then some (.c (.string z))else none:=by simp_all[lZ,kS]
theorem adp(parts:List (Nat×V)):BR P t parts=(tzc P t).bind fun l=>(KI P t).bind fun ps=>(uP ps l parts).map .agg:=by simp[BR,tzc];cases lV P t<;>rfl
theorem afX(p:List (Nat×Nat))(cells:List V):uP p cells []=some cells:=rfl
def Uj(p:Option (Nat×Nat))(c:Option (List V))(a:List (Nat×Nat))(cells:List V)(r:List (Nat×V)):Option (List V) :=
 p.bind fun p=>c.bind fun l=>if l.length=p.2/\p.1+l.length<=cells.length then uP a (cells.take p.1++l++cells.drop (p.1+l.length)) r else none
theorem afW(a:List (Nat×Nat))(cells:List V)(i:Nat)(v:V)(r:List (Nat×V)):uP a cells ((i,v)::r)=Uj (a[i]?) v.cs a cells r:=by
 rw[uP]
 cases a[i]? with
 |none=>rfl
 |some p=>cases v.cs<;>rfl
theorem afV(p:Nat×Nat)(l:List V)(a:List (Nat×Nat))(cells:List V)(r:List (Nat×V)):Uj (some p) (some l) a cells r=if l.length=p.2/\p.1+l.length<=cells.length then uP a (cells.take p.1++l++cells.drop (p.1+l.length)) r else none:=rfl
theorem aq7(k:Nat)(xs:List V):setAll k xs []=some xs:=rfl
def Qx(c:Option (List V))(fr:Bool)(k i:Nat)(v:V)(xs:List V)(r:List (Nat×V)):Option (List V) :=
 c.bind fun l=>if l.length=k/\fr=true/\l.all V.one=true/\i<xs.length then setAll k (xs.set i v) r else none
theorem aq6(k:Nat)(xs:List V)(i:Nat)(v:V)(r:List (Nat×V)):setAll k xs ((i,v)::r)=Qx v.cs v.free k i v xs r:=by grind[Qx,setAll]
theorem aq9(l:List V)(fr:Bool)(k i:Nat)(v:V)(xs:List V)(r:List (Nat×V)):Qx (some l) fr k i v xs r=if l.length=k/\fr=true/\l.all V.one=true/\i<xs.length then setAll k (xs.set i v) r else none:=rfl
theorem auL(b:Bool):unV .not (.c (.bool b))=some (.c (.bool (!b))):=rfl
theorem auK(k:IntKind)(n:Int):unV .neg (.c (.int k n))=some (.c (.int k (k.wrap (0-n)))):=rfl
theorem auQ(k:IntKind)(n:Int):unV .xor (.c (.int k n))=some (.c (.int k (bits .xor k (if k.signed then -1 else k.max) n))):=rfl
theorem afx(xs ys:List V):bU P .eql t (.agg xs) (.agg ys)=(oK P t).bind fun pl=>(eqL pl xs ys).map fun b=>.c (.bool b):=rfl
theorem afE(xs ys:List V):bU P .neq t (.agg xs) (.agg ys)=(oK P t).bind fun pl=>(eqL pl xs ys).map fun b=>.c (.bool (!b)):=rfl
theorem afC(xs ys:List V):eqL [] xs ys=some true:=rfl
theorem afB(o:Nat)(k:EqK)(r:List (Nat×EqK))(xs ys:List V):eqL ((o,k)::r) xs ys=eqK k xs[o]? ys[o]? (eqL r xs ys):=rfl
theorem afz(k:IntKind)(a b:Int)(z:Bool):eqK .n (some (.c (.int k a))) (some (.c (.int k b))) (some z)=some ((a == b)&&z):=by simp[eqK]
theorem afy(a b z:Bool):eqK .b (some (.c (.bool a))) (some (.c (.bool b))) (some z)=some ((a == b)&&z):=rfl
theorem afA(a b:ByteArray)(z:Bool):eqK .s (some (.c (.string a))) (some (.c (.string b))) (some z)=some (decide (a=b)&&z):=rfl
theorem apn:bU P .eql t (.c (.pointer none)) (.c (.pointer none))=if jh P t=true then some (.c (.bool true))else none:=rfl
theorem apr:bU P .neq t (.c (.pointer none)) (.c (.pointer none))=if jh P t=true then some (.c (.bool false))else none:=rfl
theorem apo(b o:Nat):bU P .eql t (.ref b o) (.c (.pointer none))=if jh P t=true then some (.c (.bool false))else none:=rfl
theorem aps(b o:Nat):bU P .neq t (.ref b o) (.c (.pointer none))=if jh P t=true then some (.c (.bool true))else none:=rfl
theorem apt(b o:Nat):bU P .neq t (.ref b o) (.ref b o)=if jh P t=true then some (.c (.bool false))else none:=by show(if jh P t=true/\b=b/\o=o then _ else _)=_;grind
theorem apq(b o:Nat):bU P .eql t (.ref b o) (.ref b o)=if jh P t=true then some (.c (.bool true))else none:=by show(if jh P t=true/\b=b/\o=o then _ else _)=_;grind
theorem arO:bU P .eql t (.c (.slice none 0 0)) (.c (.slice none 0 0))=if(elemT P t).isSome=true then some (.c (.bool true))else none:=rfl
theorem arP(k:Nat)(xs:List V)(hx:xs=[]):bU P .eql t (.sl .nn k xs) (.c (.slice none 0 0))=if(elemT P t).isSome=true then some (.c (.bool false))else none:=by subst hx;rfl
theorem arQ(a:Tag)(k:Nat)(x:V)(xs:List V):bU P .eql t (.sl a k (x::xs)) (.c (.slice none 0 0))=if(elemT P t).isSome=true then some (.c (.bool false))else none:=rfl
theorem apJ(k:IntKind)(a b:Int)(h:b≠0):bU P .quo t (.c (.int k a)) (.c (.int k b))=some (.c (.int k (k.wrap (a.tdiv b)))):=by grind[acH]
theorem ap3(k:IntKind)(a b:Int)(h:b≠0):bU P .rem t (.c (.int k a)) (.c (.int k b))=some (.c (.int k (a.tmod b))):=by grind[acI]
theorem arL(k k2:IntKind)(a b:Int)(h:0<=b):bU P .shl t (.c (.int k a)) (.c (.int k2 b))=some (.c (.int k (k.wrap (a*2^min b.toNat k.bits)))):=by grind[acN]
theorem arM(k k2:IntKind)(a b:Int)(h:0<=b):bU P .shr t (.c (.int k a)) (.c (.int k2 b))=some (.c (.int k (a.fdiv (2^min b.toNat k.bits)))):=by grind[acO]
theorem QA(l:List Nat)(lo hi:Option V)(a c:Int)(ha:bdV lo 0=some a)(b:bdV hi l.length=some c)(h:0<=a)(h1:a<=c)(h2:c<=l.length):slV P t (.c (.string (sB l))) lo hi=if iU P t=true then some (.c (.string (sB ((l.take c.toNat).drop a.toNat))))else none:=by grind[arV,mG,aqV]
theorem arU(l:List Nat)(k:IntKind)(a:Int)(h:0<=a)(h1:a<=l.length):slV P t (.c (.string (sB l))) (some (.c (.int k a))) none=if iU P t=true then some (.c (.string (sB (l.drop a.toNat))))else none:=by rw[QA P t l _ _ a l.length rfl rfl h h1 (rZ _)];simp
theorem arS(l:List Nat)(k:IntKind)(c:Int)(h:0<=c)(h1:c<=l.length):slV P t (.c (.string (sB l))) none (some (.c (.int k c)))=if iU P t=true then some (.c (.string (sB (l.take c.toNat))))else none:=by rw[QA P t l _ _ 0 c rfl rfl (rZ _) h h1];simp
theorem arT(l:List Nat)(k b:IntKind)(a c:Int)(h:0<=a)(h1:a<=c)(h2:c<=l.length):slV P t (.c (.string (sB l))) (some (.c (.int k a))) (some (.c (.int b c)))=if iU P t=true then some (.c (.string (sB ((l.take c.toNat).drop a.toNat))))else none :=
 QA P t l _ _ a c rfl rfl h h1 h2
end
theorem QY(n:Int)(h : -9223372036854775808<=n)(h1:n<=9223372036854775807):IntKind.i64.wrap n=n:=IntWalk.i64_in n ⟨h,h1⟩
theorem au5(n:Int)(h:0<=n)(h1:n<=255):IntKind.u8.wrap n=n:=IntWalk.u8_in n ⟨h,h1⟩
theorem ZX(n:Int)(h:0<=n)(h1:n<=18446744073709551615):IntKind.u64.wrap n=n:=IntWalk.u64_in n ⟨h,h1⟩
theorem ZW(n:Int)(h:0<=n)(h1:n<=4294967295):IntKind.u32.wrap n=n:=IntWalk.u32_in n ⟨h,h1⟩
def aeP(p:Prop)[Decidable p](h:p):decide p=true:=by grind
def aeO(p:Prop)[Decidable p](h:¬p):decide p=false:=by grind
def acd(a b:Int)(h:a=b):(a == b)=true:=by simp[h]
def acb(a b:Int)(h:a≠b):(a == b)=false:=by grind
def acV(a b:Int)(h:a≠b):(a != b)=true:=by simp[h]
def acU(a b:Int)(h:a=b):(a != b)=false:=by grind
def ja:List (Nat×V)->Nat->V
 |[],_=>.top
 |(k,v)::r,t=>if t=k then v else ja r t
theorem kW(t:Nat):ja [] t = .top:=rfl
theorem jQ(k:Nat)(v:V)(r:List (Nat×V))(t:Nat):ja ((k,v)::r) t=if t=k then v else ja r t:=rfl
def yh:List (Nat×TypeId×List V)->BX
 |[],_=>none
 |(k,v)::r,t=>if t=k then some v else yh r t
theorem afY(t:Nat):yh [] t=none:=rfl
theorem Um(k:Nat)(v:TypeId×List V)(r:List (Nat×TypeId×List V))(t:Nat):yh ((k,v)::r) t=if t=k then some v else yh r t:=rfl
def mkA(X:List (Nat×V))(B:List (Nat×TypeId×List V))(n:Nat)(h:Nat->V):St:=⟨ja X,yh B,n,h⟩
theorem aml(X:List (Nat×V))(B:List (Nat×TypeId×List V))(n:Nat)(h:Nat->V):mkA X B n h=⟨ja X,yh B,n,h⟩:=rfl
def GenA(l m:List Nat)(e:Nat->V):List (Nat×V)->Prop
 |[]=>True
 |(k,v)::r=>Gen l m (e k) v/\GenA l m e r
theorem RF(l m:List Nat)(e:Nat->V):GenA l m e []=True:=rfl
theorem RD(l m:List Nat)(e:Nat->V)(k:Nat)(v:V)(r:List (Nat×V)):GenA l m e ((k,v)::r)=(Gen l m (e k) v/\GenA l m e r):=rfl
def GenA.fin{l m:List Nat}{e:Nat->V}{X:List (Nat×V)}(h:GenA l m e X)(t:Nat):Gen l m (e t) (ja X t):=by
 induction X with
 |nil=>exact .inl rfl
 |cons x r i =>
  rw[jQ];split
  .rename_i hk;subst hk;exact h.1
  .exact i h.2
def GenB(l m:List Nat)(b:BX):List (Nat×TypeId×List V)->Prop
 |[]=>True
 |(k,x)::r=>(∃b0 cs0,m[k]?=some b0/\b b0=some (x.1,cs0)/\GenL l m cs0 x.2)/\GenB l m b r
theorem dQ{l m:List Nat}{b:BX}{k:Nat}{x:TypeId×List V}{r:List (Nat×TypeId×List V)}(b0:Nat)(cs0:List V)(h1:m[k]?=some b0)(h2:b b0=some (x.1,cs0))(h3:GenL l m cs0 x.2)(h4:GenB l m b r):GenB l m b ((k,x)::r):=⟨⟨b0,cs0,h1,h2,h3⟩,h4⟩
def GenB.fin{l m:List Nat}{b:BX}{B:List (Nat×TypeId×List V)}(h:GenB l m b B)(k:Nat)(x:TypeId×List V)(hx:yh B k=some x):∃b0 cs0,m[k]?=some b0/\b b0=some (x.1,cs0)/\GenL l m cs0 x.2:=by
 induction B with
 |nil=>cases hx
 |cons y r i =>
  rw[Um]at hx;split at hx
  .rename_i hk;subst hk;simp at hx;subst hx;exact h.1
  .exact i h.2 hx
theorem RH(l m:List Nat):GenL l m [] []=True:=rfl
theorem RG(l m:List Nat)(x y:V)(xs ys:List V):GenL l m (x::xs) (y::ys)=(Gen l m x y/\GenL l m xs ys):=rfl
theorem akP{l m:List Nat}{s:St}{X:List (Nat×V)}{B:List (Nat×TypeId×List V)}{n:Nat}{h:Nat->V}(b:GenA l m s.env X)(hB:GenB l m s.bx B)(c:∀t,Gen l m (s.hd t) (h t))(hl:l.Nodup)(hm:m.Nodup)(d:l.length<=n)(a:m.length<=n):Keep l m s (mkA X B n h) where
 env:=b.fin
 hd:=c
 bx:=hB.fin
 ndl:=hl
 ndm:=hm
 nidl:=d
 nidm:=a
theorem auw(l m:List Nat)(f:Nat->V):∀t,Gen l m (f t) ((fun _=>.top:Nat->V) t):=fun _=>.inl rfl
def aiA{l m:List Nat}{b a o:Nat}(h:(m.contains b&&m.idxOf b == a)=true):Gen l m (.ref b o) (.ref a o):=by simp at h;refine .inr (.inl ⟨by simp[V.any,EZ,h.1],by simp[V.map,h.2]⟩)
def aiz{l m:List Nat}{i j:Nat}{e:TypeId}{k:Nat}{xs ys:List V}(h:(l.contains i&&l.idxOf i == j)=true)(hx:elE k xs ys):Gen l m (.sl (.own i e) k xs) (.sl (.own j e) k ys):=by simp at h;refine .inr (.inr (.inr (.inl ⟨_,_,xs,ys,rfl,by simp[Tag.notIn,h.1],by simp[mr,h.2],hx⟩)))
def kZ{l m:List Nat}{u v:Value}(h:u=v):Gen l m (.c u) (.c v):=by grind[ku]
def eF{l m:List Nat}{k:IntKind}{a b:Int}(h:a=b):Gen l m (.c (.int k a)) (.c (.int k b)):=by grind[ku]
def Vs{l m:List Nat}{k:Nat}{xs ys:List V}(h:xs=ys):Gen l m (.sl .fz k xs) (.sl .fz k ys):=by grind[jS]
def iT{l m:List Nat}{t:Tag}{k:Nat}{xs:List V}(h:xs=[])(a:t.notNN=true:=by rfl):Gen l m (.c (.slice none 0 0)) (.sl t k xs):=by grind[aiy]
def aJ{ι:Type}{D:Dw}{P:Program}[Tb P]{x:Code}{Q:Exit->St->Prop}{s:St}(S:ι->St)(I:ι->Prop)(μ:ι->Nat)(a:ι)(l m:List Nat)(hk:Keep l m s (S a))(h:I a)
  (b:∀i,I i->wpS D P x (CS S I μ i Q) (S i)):Aw D P x Q s :=
 OW S I μ a l m hk h (fun i hi s c=>by subst c;exact b i hi)
theorem adD{ops:List Oper}{k:List Kd}{q:Prop}(h1:qV ops k=true)(h2:q):qV ops k=true/\q:=⟨h1,h2⟩
theorem lH{P:Program}[Tb P]{b a:Bool}{d:List (Option Nat)}{ops:List Oper}{Q:Exit->St->Prop}{o:Oper}{r:List Oper}{k:List Kd}{s:St}(h:b=a->aB P s o (Ey P d ops Q r k))(hf:b = !a->nP P d ops Q r (.p::k) (s.put o.dst (.c undef))) :
  yg P (some (.c (.bool b))) a d ops Q o r k s:=aff P h hf
def aU{P:Program}[Tb P]{g:FuncId}{args:List Operand}{d:Option Nat}{s s':St}{K:Kd->St->Prop}{vs:List V}(r:V)(hg:GoodZ P g vs s s' r)(h:args.map s.ev=vs)(hK:K .z (s'.put d r)):eX P (.fn g [] []) args d s K:=by refine .inr (.inl ⟨s',r,?_,hK⟩);grind
def adU{P:Program}[Tb P](s:St)(d:Option Nat)(src a:TypeId)(b off:Nat)(K:Kd->St->Prop):zL P s d src a (.ref b off) K=mi (pY P s src a (.ref b off)) s d K:=by simp_all[GU,lZ,vP,rP,nX,dM]
def x8{P:Program}[Tb P](s:St)(d:Option Nat)(src a:TypeId)(t:Tag)(l:List Nat)(K:Kd->St->Prop)(h:(elemT P src).bind (kS P)=some .u8)(hd:iU P a=true)(hi:kS P a=none)(he:elemT P a=none):zL P s d src a (.sl t 1 (bv l)) K=K (kq [.sl t 1 (bv l)] (.c (.string (sB l)))) (s.put d (.c (.string (sB l)))):=by
 have c:lZ P src a (.sl t 1 (bv l))=some (.c (.string (sB l))):=by
  have:strOfNums (l.map fun(b:Nat)=>(b:Int))=sB l:=by simp[strOfNums,sB]
  simp_all[lZ,ZF]
 rw[GU];have h1:(vP P src a (.sl t 1 (bv l))).map (fun r=>(r,s))=none:=rfl;have h2:rP P s src a (.sl t 1 (bv l))=none:=by cases t<;>simp[rP,he]
 grind[pY,Ky,dM,fZ]
theorem amJ(s:St)(d:Option Nat)(b o:Nat)(K:Kd->St->Prop):Ko s d (.ref b o) K=K (kq [.ref b o] (.ref b o)) (s.put d (.ref b o)):=rfl
theorem amH(s:St)(d:Option Nat)(t:Tag)(k:Nat)(xs:List V)(i o:Nat)(K:Kd->St->Prop):Ko s d (.el t k xs i o) K=K (kq [.el t k xs i o] (.el t k xs i o)) (s.put d (.el t k xs i o)):=rfl
theorem amI(s:St)(d:Option Nat)(f:FuncId)(x y:List V)(K:Kd->St->Prop):Ko s d (.fn f x y) K=K (kq [.fn f x y] (.fn f x y)) (s.put d (.fn f x y)):=rfl
theorem at6(P:Program)[Tb P](s:St)(d:Option Nat)(t:TypeId)(b off:Nat)(y:V)(K:Kd->St->Prop):Lr P s d t (.ref b off) y K=dN ((oZ P s t b off y).map fun s'=>(.top,s')) d .x K:=rfl
theorem at1(P:Program)[Tb P](s:St)(d:Option Nat)(t:TypeId)(id:Nat)(e:TypeId)(k:Nat)(xs:List V)(i off:Nat)(y:V)(K:Kd->St->Prop):Lr P s d t (.el (.own id e) k xs i off) y K=(dN ((rV P s t id k xs i off y).map fun s'=>(.top,s')) d (.w id k) K\/stZ P s d t id e k xs i off y K):=rfl
theorem apD(e:Nat->V)(b:BX)(n:Nat)(h:Nat->V)(v:V):St.put ⟨e,b,n,h⟩ none v=⟨e,b,n,h⟩:=rfl
def sbK(e:Nat->V)(bx:BX)(nn:Nat)(hd:Nat->V)(b off n:Nat)(s:Option Nat)(l h:Int)(cs:List V):Option (V×St) :=
 if off=0/\s=some 1/\cs.length=n/\cs.all (fun v=>v.free&&v.one)=true/\0<=l/\l<=h/\h<=n then some (.sl .fz 1 ((cs.take h.toNat).drop l.toNat),⟨bD (gY b) e,upd (df (gY b) bx) b none,nn,bD (gY b) hd⟩)else none
theorem ar1(P:Program)(e:Nat->V)(bx:BX)(nn:Nat)(hd:Nat->V)(d:Option Nat)(t:TypeId)(b off:Nat)(lo hi:Option V)(l:List V)(K:Kd->St->Prop):DK P ⟨e,bx,nn,hd⟩ d t (.ref b off) lo hi l K =
  dN ((bx b).bind fun y=>(sH P t).bind fun p=>(bdV lo 0).bind fun l=>(bdV hi p.1).bind fun h=>sbK e bx nn hd b off p.1 (tsz P p.2) l h y.2) d .z K:=rfl
theorem aq0(e:Nat->V)(bx:BX)(nn:Nat)(hd:Nat->V)(b n:Nat)(l h:Int)(cs:List V)(h1:cs.length=n)(h2:cs.all (fun v=>v.free&&v.one)=true)(h3:0<=l)(h4:l<=h)(h5:h<=n) :
  sbK e bx nn hd b 0 n (some 1) l h cs=some (.sl .fz 1 ((cs.take h.toNat).drop l.toNat),⟨bD (gY b) e,upd (df (gY b) bx) b none,nn,bD (gY b) hd⟩):=ah ⟨rfl,rfl,h1,h2,h3,h4,h5⟩
theorem akS(b:Nat)(v:V):gY b v=if v.any (fun _=>false) (fun j=>j == b) false then .top else v:=rfl
section
variable (v:Value) (e:TypeId) (id k i o b:Nat) (xs cs:List V) (f:FuncId)
theorem ajj:V.ids (.c v)=[]:=rfl
theorem ajr:V.ids (.sl (.own id e) k xs)=[id]:=rfl
theorem ajn:V.ids (.sl .fz k xs)=[]:=rfl
theorem ajq:V.ids (.sl .nn k xs)=[]:=rfl
theorem ajh:V.ids (.agg cs)=V.idsL cs:=rfl
theorem aju:V.ids (.tup cs)=V.idsL cs:=rfl
theorem ajs:V.ids (.ref b o)=[]:=rfl
theorem ajk:V.ids (.el (.own id e) k xs i o)=[id]:=rfl
theorem ajl:V.ids (.el .fz k xs i o)=[]:=rfl
theorem ajm:V.ids (.fn f xs cs)=V.idsL xs++V.idsL cs:=rfl
theorem ajt:V.ids .top=[]:=rfl
theorem ajp:V.ids .nif=[]:=rfl
theorem ajg:V.idsL []=[]:=rfl
theorem ajf(x:V):V.idsL (x::xs)=V.ids x++V.idsL xs:=rfl
theorem agw(s:St)(ids:List Nat):s.freezeAll (i::ids)=(s.mapV (frz i)).freezeAll ids:=rfl
theorem aeb:V.cs .nif=some [.nif]:=rfl
theorem anj:V.one .nif=true:=rfl
theorem aba(p:Tag->Bool)(q:Nat->Bool)(tp:Bool):V.any p q tp .nif=false:=rfl
theorem al5(τ:Tag->Tag)(ρ:Nat->Nat):V.map τ ρ .nif = .nif:=rfl
theorem arH(n:Nat):V.shift n .nif = .nif:=rfl
theorem aja:V.idb .nif=0:=rfl
theorem age:V.flat .nif=true:=rfl
theorem agv:V.free .nif=true:=rfl
end
section
variable (P:Program) (e:Nat->V) (b:BX) (n:Nat) (h:Nat->V)
theorem atZ(t:TypeId)(id k:Nat)(xs:List V)(i off:Nat)(x:V):rV P ⟨e,b,n,h⟩ t id k xs i off x=(xs[i]?).bind fun a=>a.cs.bind fun c=>x.cs.bind fun l=>(Be a (c.take off++l++c.drop (off+l.length))).bind fun x1 =>if tsz P t=some l.length/\off+l.length<=c.length/\l.all V.one=true/\x1.free=true then some ⟨bD (aY id k i x1) e,df (aY id k i x1) b,n,bD (aY id k i x1) h⟩else none:=rfl
theorem apQ(a l:List V):Be (.agg a) l=some (.agg l):=rfl
theorem apR(v:Value)(y:V):Be (.c v) [y]=if V.one (.c v)=true then some y else none:=rfl
theorem apT(t:Tag)(k:Nat)(xs:List V)(y:V):Be (.sl t k xs) [y]=some y:=rfl
variable (id k i:Nat) (x:V)
theorem arj(ty:TypeId)(xs:List V):aY id k i x (.sl (.own id ty) k xs) = .sl (.own id ty) k (xs.set i x):=by simp[aY]
theorem ark(j:Nat)(ty:TypeId)(a:Nat)(xs:List V)(hj:(j == id)=false):aY id k i x (.sl (.own j ty) a xs) = .sl (.own j ty) a xs:=by grind[aY]
theorem arc(ty:TypeId)(xs:List V)(a off:Nat):aY id k i x (.el (.own id ty) k xs a off) = .el (.own id ty) k (xs.set i x) a off:=by simp[aY]
theorem arf(j:Nat)(ty:TypeId)(b:Nat)(xs:List V)(a off:Nat)(hj:(j == id)=false):aY id k i x (.el (.own j ty) b xs a off) = .el (.own j ty) b xs a off:=by grind[aY]
theorem ari(a:Nat)(xs:List V):aY id k i x (.sl .fz a xs) = .sl .fz a xs:=rfl
theorem arn(a:Nat)(xs:List V):aY id k i x (.sl .nn a xs) = .sl .nn a xs:=rfl
theorem arb(v:Value):aY id k i x (.c v) = .c v:=rfl
theorem aro(c o:Nat):aY id k i x (.ref c o) = .ref c o:=rfl
theorem arq:aY id k i x .top = .top:=by rfl
theorem ara(l:List V):aY id k i x (.agg l)=aF id (.agg l):=rfl
theorem ars(l:List V):aY id k i x (.tup l)=aF id (.tup l):=rfl
theorem ard(b:Nat)(xs:List V)(a off:Nat):aY id k i x (.el .fz b xs a off) = .el .fz b xs a off:=rfl
theorem arh(f:FuncId)(l m:List V):aY id k i x (.fn f l m)=aF id (.fn f l m):=rfl
theorem arl:aY id k i x .nif = .nif:=rfl
theorem mmT(k:IntKind)(a b:Int):AC true (.c (.int k a)) (.c (.int k b))=some (.c (.int k (max a b))):=by
 have h:(if b > a then b else a)=max a b:=by split<;>omega
 rw[<-h];rfl
theorem mmF(k:IntKind)(a b:Int):AC false (.c (.int k a)) (.c (.int k b))=some (.c (.int k (min a b))):=by
 have h:(if b<a then b else a)=min a b:=by split<;>omega
 rw[<-h];rfl
end
def pgf:=A8 @anu @ant @atZ @apQ @apR @apT @arj @ark (A8 @arc @arf @ari @arn @arb @aro @arq @ara (A8 @ars @ard @arh @arl @mmT @mmF @ajj @ajr (A8 @ajn @ajq @ajh @aju @ajs @ajk @ajl @ajm (A8 @ajt @ajp @ajg @ajf @agw @aeb @anj @aba (A8 @al5 @arH @aja @age @agv @adh @SC @asr (Ad @asq @ast @agG @agF))))))
theorem abw:qO (.c (.slice none 0 0)) = .n:=rfl
theorem abx(k:Nat):qO (.sl .nn k []) = .n:=rfl
theorem aby(id k:Nat)(e:TypeId)(xs:List V):qO (.sl (.own id e) k xs) = .g id:=rfl
def pgw:=A8 @abw @abx @aby @ar1 @aq0 @akS @adi @adk (A8 @arP @ajW @ajS @amU @ap5 @arI @ajb @agf (A8 @amm @alL @afx @afE @afC @afB @afz @afy (A8 @afA @apD @amJ @amH @amI @at6 @at1 @aaL (A8 @adb @alx @atX @auS @Sr @abo @Gz @abr (A8 @ak4 @ak6 @ak7 @afQ @afP @afU @ai4 @ai0 (A8 @akJ @akH @adZ @aep @adY @adp @afX @afW (A8 @afV @aq7 @aq6 @aq9 @auL @auK @auQ @apn (A8 @apr @apo @aps @apt @apq @arO @arQ @apJ (A8 @ap3 @arL @arM @arU @arS @arT @kW @jQ (A8 @afY @Um @aml @adU @mG @aA @jA @yG (Ac @Ox @Oy @Sr)))))))))))
def pgb:=A8 @QY @au5 @ZX @ZW @aeP @aeO @acd @acb (aI @acV @acU)
def pgn:=A8 @decide_true @decide_false @Nat.max_def @Rl @fC @BD @zu @and_self (Ah @not_true_eq_false @not_false_eq_true @az @Nat.add_zero @nM @eq_self.{1} @aO.{0} (aI @List.getElem?_nil.{0} (Ad @if_true.{1} @if_false.{1} @if_true.{0} @if_false.{0})))
def pgd:=A8 @Ru @decide_eq_false_iff_not @beq_iff_eq.{0} @beq_eq_false_iff_ne.{0} @bne_iff_ne.{0} @bne_eq_false_iff_eq.{0} @Bool.not_eq_true' @Bool.not_eq_false' (A8 @Int.not_lt @Int.not_le @Nat.not_lt @Nat.not_le @ne_eq.{1} @vW @xN @Bool.not_not (Ae @Bool.true_eq_false @oq @not_false_eq_true @not_true_eq_false @Decidable.not_not))
def pgq:=Ag @aA @jA @aN.{0} @dB.{0} @o9.{0} @aj.{0,0} @mG
def pgo:=Af pgs pgl pgx pgw pgf pgn
section
variable (P:Program) (s:St)
theorem aqj(a:ResultVar):kH P s [a]=lT P s a:=rfl
theorem aqk(a b:ResultVar):kH P s [a,b]=(lT P s a).bind fun x=>(lT P s b).bind fun y=>some (.tup [x,y]):=by simp[kH];cases lT P s a<;>cases lT P s b<;>rfl
theorem aql(a b c:ResultVar):kH P s [a,b,c]=(lT P s a).bind fun x=>(lT P s b).bind fun y=>(lT P s c).bind fun z=>some (.tup [x,y,z]):=by simp[kH];cases lT P s a<;>cases lT P s b<;>cases lT P s c<;>rfl
theorem aqg(t:Nat):lT P s (.tmp t)=some (s.env t):=rfl
def YB(P:Program)(b:BX)(x:V)(t:TypeId):Option V:=match x with | .ref k off=>(b k).bind fun y=>jI P t y.2 off|_=>none
theorem aqf(e:Nat->V)(b:BX)(n:Nat)(h:Nat->V)(a:Nat)(t:TypeId):lT P ⟨e,b,n,h⟩ (.cell a t)=YB P b (e a) t:=by rfl
theorem aqe(b:BX)(k off:Nat)(t:TypeId):YB P b (.ref k off) t=(b k).bind fun y=>jI P t y.2 off:=rfl
end
def pgr:=Af @aqj @aqk @aql @aqg @aqf @aqe
end Go.Pg
end
namespace Go.Proofs.YtopbmdnbdpjheaaGreat
open Go Go.Pg
instance:Tb Tryz.prog where
 T _:=True
 keep _ _ _ _:=trivial
theorem amA(e:TypeId):Tb.nest Tryz.prog e=false:=rfl
def mix:Tryz.prog.follows .mixedOrders=true:=Za
abbrev Gxx (f : FuncId) (a : List V) (r : V) : Prop := Pg.Good Tryz.prog f a r
abbrev Gxz (f : FuncId) (a : List V) (s t : St) (r : V) : Prop := Pg.GoodZ Tryz.prog f a s t r
theorem tk{p:Prop}(h:p:=by(repeat' apply aI)<;>(show _=_)<;>kernel_rfl):p:=h
abbrev yB(t n:Nat)(a:Bool)(i:Option IntKind)(s b:Bool)(e:Option TypeId)(w:Nat):Prop:=(Tryz.prog.underlying t).isSome=true/\tsz Tryz.prog t=some n/\sZ Tryz.prog t=some a/\kS Tryz.prog t=i/\iU Tryz.prog t=s/\xu Tryz.prog t=b/\elemT Tryz.prog t=e/\tapp Tryz.prog t=some (n,w)
abbrev yS(t:Nat)(i:Option IntKind)(s b:Bool)(e:Option TypeId)(w:Nat)(z:Value):Prop:=yB t 1 false i s b e w/\tzc Tryz.prog t=some [.c z]/\zelem Tryz.prog t=some (.c z)
abbrev yI(t:Nat)(i:IntKind)(w:Nat):Prop:=yS t (some i) false false none w (.int i 0)
abbrev yL(t e:Nat):Prop:=yS t none false false (some e) 24 (.slice none 0 0)
abbrev yA(t n w:Nat)(l:List V):Prop:=yB t n true none false false none w/\tzc Tryz.prog t=some l/\zelem Tryz.prog t=some (.agg l)
abbrev yP(t:Nat)(l:List (Nat×Nat)):Prop:=KI Tryz.prog t=some l
abbrev y0:V:=.c (.int .i64 0)
abbrev yu:V:=.c (.int .u64 0)
abbrev yf:V:=.c (.bool false)
abbrev yn:V:=.c (.slice none 0 0)
abbrev dd(a b:Nat)(p:Nat->Prop):Prop:=p a/\p b
abbrev yF(t j a b:Nat):Prop:=sU Tryz.prog t j=some (a,b)
theorem y2:yI 2 .i64 8:=tk
theorem y3:yI 3 .i64 8:=tk
theorem y4:yS 4 none false true none 1 (.bool false):=tk
theorem y5:yI 5 .u8 1:=tk
theorem y6:yI 6 .u8 1:=tk
theorem y7:yA 7 4 24 [y0,y0,yf,.c (.int .u8 0)]/\yF 7 0 2 0/\yF 7 1 3 1/\yF 7 2 4 2/\yF 7 3 6 3/\yP 7 [(0,1),(1,1),(2,1),(3,1)]/\oK Tryz.prog 7=some [(0,.n),(1,.n),(2,.b),(3,.n)]:=tk
theorem y9:yS 9 none true false none 16 (.string ⟨#[]⟩):=tk
theorem y12:yI 12 .u64 8:=tk
theorem y13:yA 13 2 24 [.c (.string ⟨#[]⟩),yu]/\yF 13 0 9 0/\yF 13 1 12 1/\yP 13 [(0,1),(1,1)]:=tk
theorem y16:yS 16 none false false none 8 (.pointer none)/\jh Tryz.prog 16=true/\nY Tryz.prog 16=some 380:=tk
theorem y17:yS 17 none false false none 8 (.pointer none)/\jh Tryz.prog 17=true/\nY Tryz.prog 17=some 388:=tk
theorem y18:yA 18 1 8 [.c (.pointer none)]/\yF 18 0 17 0/\yP 18 [(0,1)]:=tk
theorem y21:yI 21 .i32 4:=tk
theorem y22:yL 22 3:=tk
theorem y23:yS 23 none false false none 8 (.pointer none)/\jh Tryz.prog 23=true/\nY Tryz.prog 23=some 139:=tk
theorem y24:dd 24 25 fun t=>yA t 7 56 [y0,y0,y0,y0,y0,y0,y0]/\yF t 0 3 0/\yF t 1 3 1/\yF t 2 3 2/\yF t 3 3 3/\yF t 4 3 4/\yF t 5 3 5/\yF t 6 3 6/\yP t [(0,1),(1,1),(2,1),(3,1),(4,1),(5,1),(6,1)]/\oK Tryz.prog t=some [(0,.n),(1,.n),(2,.n),(3,.n),(4,.n),(5,.n),(6,.n)]:=tk
theorem y26:yL 26 134:=tk
theorem y27:yL 27 142:=tk
theorem y28:yL 28 145:=tk
theorem y29:yL 29 224:=tk
theorem y30:dd 30 31 fun t=>yA t 2 32 [y0,yn]/\yF t 0 3 0/\yF t 1 29 1/\yP t [(0,1),(1,1)]:=tk
theorem y32:dd 32 33 fun t=>yA t 14 176 [y0,y0,y0,y0,y0,y0,y0,y0,y0,yn,yn,yn,y0,yn]/\yF t 0 25 0/\yF t 1 3 7/\yF t 2 3 8/\yF t 3 26 9/\yF t 4 27 10/\yF t 5 28 11/\yF t 6 31 12/\yP t [(0,7),(7,1),(8,1),(9,1),(10,1),(11,1),(12,2)]:=tk
theorem y34:dd 34 35 fun t=>yA t 15 184 [.c (.pointer none),y0,y0,y0,y0,y0,y0,y0,y0,y0,yn,yn,yn,y0,yn]/\yF t 0 23 0/\yF t 1 33 1/\yP t [(0,1),(1,14)]:=tk
theorem y39:yI 39 .u64 8:=tk
theorem y40:dd 40 41 fun t=>yA t 4 32 [y0,y0,y0,yu]/\yF t 0 3 0/\yF t 1 3 1/\yF t 2 3 2/\yF t 3 39 3/\yP t [(0,1),(1,1),(2,1),(3,1)]/\oK Tryz.prog t=some [(0,.n),(1,.n),(2,.n),(3,.n)]:=tk
theorem y42:dd 42 43 fun t=>yA t 3 24 [y0,y0,yf]/\yF t 0 3 0/\yF t 1 3 1/\yF t 2 4 2/\yP t [(0,1),(1,1),(2,1)]/\oK Tryz.prog t=some [(0,.n),(1,.n),(2,.b)]:=tk
theorem y44:dd 44 45 fun t=>yA t 5 56 [y0,y0,yu,yn,yf]/\yF t 0 3 0/\yF t 1 3 1/\yF t 2 39 2/\yF t 3 22 3/\yF t 4 4 4/\yP t [(0,1),(1,1),(2,1),(3,1),(4,1)]:=tk
theorem y46:dd 46 47 fun t=>yA t 3 40 [y0,yu,yn]/\yF t 0 3 0/\yF t 1 39 1/\yF t 2 22 2/\yP t [(0,1),(1,1),(2,1)]:=tk
theorem y48:yL 48 215:=tk
theorem y49:dd 49 50 fun t=>yA t 4 48 [y0,y0,yn,yf]/\yF t 0 3 0/\yF t 1 3 1/\yF t 2 48 2/\yF t 3 4 3/\yP t [(0,1),(1,1),(2,1),(3,1)]:=tk
theorem y51:dd 51 52 fun t=>yA t 5 56 [y0,y0,y0,yn,yf]/\yF t 0 3 0/\yF t 1 3 1/\yF t 2 3 2/\yF t 3 48 3/\yF t 4 4 4/\yP t [(0,1),(1,1),(2,1),(3,1),(4,1)]:=tk
theorem y53:yL 53 66:=tk
theorem y54:dd 54 55 fun t=>yA t 5 56 [y0,y0,y0,yn,yf]/\yF t 0 3 0/\yF t 1 3 1/\yF t 2 3 2/\yF t 3 53 3/\yF t 4 4 4/\yP t [(0,1),(1,1),(2,1),(3,1),(4,1)]:=tk
theorem y56:dd 56 57 fun t=>yA t 29 312 [y0,y0,y0,yu,y0,y0,yf,y0,y0,yu,yn,yf,y0,yu,yn,y0,y0,yn,yf,y0,y0,y0,yn,yf,y0,y0,y0,yn,yf]/\yF t 0 41 0/\yF t 1 43 4/\yF t 2 45 7/\yF t 3 47 12/\yF t 4 50 15/\yF t 5 52 19/\yF t 6 55 24/\yP t [(0,4),(4,3),(7,5),(12,3),(15,4),(19,5),(24,5)]:=tk
theorem y58:dd 58 59 fun t=>yA t 2 16 [y0,y0]/\yF t 0 3 0/\yF t 1 3 1/\yP t [(0,1),(1,1)]/\oK Tryz.prog t=some [(0,.n),(1,.n)]:=tk
theorem y60:yL 60 5:=tk
theorem y61:dd 61 62 fun t=>yA t 71 760 [y0,y0,yf,yn,y0,y0,y0,y0,yu,y0,y0,yf,y0,y0,yu,yn,yf,y0,yu,yn,y0,y0,yn,yf,y0,y0,y0,yn,yf,y0,y0,y0,yn,yf,y0,y0,y0,yu,y0,y0,yf,y0,y0,yu,yn,yf,y0,yu,yn,y0,y0,yn,yf,y0,y0,y0,yn,yf,y0,y0,y0,yn,yf,y0,y0,y0,y0,y0,y0,yn,yf]/\yF t 0 3 0/\yF t 1 3 1/\yF t 2 4 2/\yF t 3 22 3/\yF t 4 3 4/\yF t 5 57 5/\yF t 6 57 34/\yF t 7 3 63/\yF t 8 3 64/\yF t 9 3 65/\yF t 10 3 66/\yF t 11 59 67/\yF t 12 60 69/\yF t 13 4 70/\yP t [(0,1),(1,1),(2,1),(3,1),(4,1),(5,29),(34,29),(63,1),(64,1),(65,1),(66,1),(67,2),(69,1),(70,1)]:=tk
theorem y63:yI 63 .i64 8:=tk
theorem y66:yL 66 9:=tk
theorem y73:yI 73 .u64 8:=tk
theorem y82:dd 82 83 fun t=>yA t 5 104 [y0,yn,yn,yn,yn]/\yF t 0 3 0/\yF t 1 26 1/\yF t 2 27 2/\yF t 3 28 3/\yF t 4 29 4/\yP t [(0,1),(1,1),(2,1),(3,1),(4,1)]:=tk
theorem y93:yA 93 58 624 [y0,y0,y0,yu,y0,y0,yf,y0,y0,yu,yn,yf,y0,yu,yn,y0,y0,yn,yf,y0,y0,y0,yn,yf,y0,y0,y0,yn,yf,y0,y0,y0,yu,y0,y0,yf,y0,y0,yu,yn,yf,y0,yu,yn,y0,y0,yn,yf,y0,y0,y0,yn,yf,y0,y0,y0,yn,yf]/\sH Tryz.prog 93=some (2,57):=tk
theorem avK:dd 112 113 fun t=>yA t 4 48 [y0,y0,y0,yn]/\yF t 0 3 0/\yF t 1 3 1/\yF t 2 3 2/\yF t 3 22 3/\yP t [(0,1),(1,1),(2,1),(3,1)]:=tk
theorem avL:yL 117 60:=tk
theorem avM:yL 132 113:=tk
theorem avN:dd 133 134 fun t=>yA t 2 32 [y0,yn]/\yF t 0 3 0/\yF t 1 132 1/\yP t [(0,1),(1,1)]:=tk
theorem avO:dd 136 226 fun t=>yS t none false false none 8 (.map none):=tk
theorem avP:yS 137 none false false none 8 (.pointer none)/\jh Tryz.prog 137=true/\nY Tryz.prog 137=some 228:=tk
theorem avQ:dd 138 139 fun t=>yA t 13 136 [y0,y0,y0,y0,y0,y0,y0,y0,.c (.map none),y0,yn,yn,.c (.pointer none)]/\yF t 0 25 0/\yF t 1 3 7/\yF t 2 136 8/\yF t 3 3 9/\yF t 4 27 10/\yF t 5 28 11/\yF t 6 137 12/\yP t [(0,7),(7,1),(8,1),(9,1),(10,1),(11,1),(12,1)]:=tk
theorem avR:dd 141 142 fun t=>yA t 4 40 [.c (.string ⟨#[]⟩),y0,y0,y0]/\yF t 0 9 0/\yF t 1 3 1/\yF t 2 3 2/\yF t 3 3 3/\yP t [(0,1),(1,1),(2,1),(3,1)]/\oK Tryz.prog t=some [(0,.s),(1,.n),(2,.n),(3,.n)]:=tk
theorem avS:dd 144 145 fun t=>yA t 2 16 [y0,y0]/\yF t 0 3 0/\yF t 1 3 1/\yP t [(0,1),(1,1)]/\oK Tryz.prog t=some [(0,.n),(1,.n)]:=tk
theorem avT:yL 177 268:=tk
theorem avU:yL 190 4:=tk
theorem avV:dd 214 215 fun t=>yA t 3 32 [.c (.string ⟨#[]⟩),y0,y0]/\yF t 0 9 0/\yF t 1 3 1/\yF t 2 3 2/\yP t [(0,1),(1,1),(2,1)]/\oK Tryz.prog t=some [(0,.s),(1,.n),(2,.n)]:=tk
theorem avW:yI 216 .u32 4:=tk
theorem avX:dd 223 224 fun t=>yA t 3 40 [y0,y0,yn]/\yF t 0 3 0/\yF t 1 3 1/\yF t 2 60 2/\yP t [(0,1),(1,1),(2,1)]:=tk
theorem avY:dd 227 228 fun t=>yA t 2 16 [y0,.c (.map none)]/\yF t 0 3 0/\yF t 1 226 1/\yP t [(0,1),(1,1)]:=tk
theorem avZ:yS 229 none false false none 8 (.pointer none)/\jh Tryz.prog 229=true/\nY Tryz.prog 229=some 224:=tk
theorem av1:yA 233 3 24 [y0,y0,y0]/\sH Tryz.prog 233=some (3,3):=tk
theorem av2:yS 234 none false false none 8 (.pointer none)/\jh Tryz.prog 234=true/\nY Tryz.prog 234=some 236:=tk
theorem av3:dd 235 236 fun t=>yA t 2 32 [yn,yf]/\yF t 0 60 0/\yF t 1 4 1/\yP t [(0,1),(1,1)]:=tk
theorem av4:yS 242 none false false none 8 (.pointer none)/\jh Tryz.prog 242=true/\nY Tryz.prog 242=some 244:=tk
theorem av5:dd 243 244 fun t=>yA t 2 32 [yn,yf]/\yF t 0 60 0/\yF t 1 4 1/\yP t [(0,1),(1,1)]:=tk
theorem av6:yS 246 none false false none 8 (.pointer none)/\jh Tryz.prog 246=true/\nY Tryz.prog 246=some 248:=tk
theorem av7:dd 247 248 fun t=>yA t 2 32 [yn,yf]/\yF t 0 60 0/\yF t 1 4 1/\yP t [(0,1),(1,1)]:=tk
theorem av8:yS 249 none false false none 8 (.pointer none)/\jh Tryz.prog 249=true/\nY Tryz.prog 249=some 251:=tk
theorem av9:dd 250 251 fun t=>yA t 2 32 [yn,yf]/\yF t 0 60 0/\yF t 1 4 1/\yP t [(0,1),(1,1)]:=tk
theorem awc:yS 259 none false false none 8 (.pointer none)/\jh Tryz.prog 259=true/\nY Tryz.prog 259=some 261:=tk
theorem awd:dd 260 261 fun t=>yA t 3 40 [yn,y0,yf]/\yF t 0 60 0/\yF t 1 3 1/\yF t 2 4 2/\yP t [(0,1),(1,1),(2,1)]:=tk
theorem awe:dd 267 268 fun t=>yA t 2 24 [.c (.string ⟨#[]⟩),y0]/\yF t 0 9 0/\yF t 1 3 1/\yP t [(0,1),(1,1)]/\oK Tryz.prog t=some [(0,.s),(1,.n)]:=tk
theorem awf:yB 271 1 false none false false none 16:=tk
theorem awg:yB 273 1 false none false false none 8:=tk
theorem awh:yS 288 none false false none 8 (.pointer none)/\jh Tryz.prog 288=true/\nY Tryz.prog 288=some 113:=tk
theorem awi:yI 295 .i64 8:=tk
theorem awj:yI 331 .u64 8:=tk
theorem awk:yS 334 none false false none 8 (.pointer none)/\jh Tryz.prog 334=true/\nY Tryz.prog 334=some 3:=tk
theorem awl:yS 336 none false false none 8 (.map none):=tk
theorem awm:yS 357 none false false none 8 (.pointer none)/\jh Tryz.prog 357=true/\nY Tryz.prog 357=some 331:=tk
theorem awn:yL 367 39:=tk
theorem awo:yA 376 4 40 [.c (.pointer none),.c (.pointer none),.c (.pointer none),.c (.string ⟨#[]⟩)]/\yF 376 0 17 0/\yF 376 1 17 1/\yF 376 2 17 2/\yF 376 3 9 3/\yP 376 [(0,1),(1,1),(2,1),(3,1)]:=tk
theorem awp:(Tryz.prog.underlying 378).isSome=true/\tsz Tryz.prog 378=some 0/\sZ Tryz.prog 378=some true/\kS Tryz.prog 378=none/\iU Tryz.prog 378=false/\xu Tryz.prog 378=false/\elemT Tryz.prog 378=none/\sH Tryz.prog 378=some (0,16):=tk
theorem awq:(Tryz.prog.underlying 379).isSome=true/\tsz Tryz.prog 379=some 0/\sZ Tryz.prog 379=some true/\kS Tryz.prog 379=none/\iU Tryz.prog 379=false/\xu Tryz.prog 379=false/\elemT Tryz.prog 379=none/\yF 379 0 378 0/\yP 379 [(0,0)]:=tk
theorem awr:(Tryz.prog.underlying 380).isSome=true/\tsz Tryz.prog 380=some 0/\sZ Tryz.prog 380=some true/\kS Tryz.prog 380=none/\iU Tryz.prog 380=false/\xu Tryz.prog 380=false/\elemT Tryz.prog 380=none/\yF 380 0 378 0/\yP 380 [(0,0)]:=tk
theorem aws:yI 381 .u8 1:=tk
theorem awt:yI 382 .u8 1:=tk
theorem awu:(Tryz.prog.underlying 383).isSome=true:=tk
theorem awv:yS 384 none false false none 8 (.pointer none)/\jh Tryz.prog 384=true/\nY Tryz.prog 384=some 5:=tk
theorem aww:yI 385 .i32 4:=tk
theorem awx:yI 386 .i32 4:=tk
theorem awy:dd 387 388 fun t=>yA t 11 48 [yu,yu,.c (.int .u32 0),.c (.int .u8 0),.c (.int .u8 0),.c (.int .u8 0),.c (.int .u8 0),.c (.nilFunc),.c (.pointer none),.c (.int .i32 0),.c (.int .i32 0)]/\yF t 0 12 0/\yF t 1 12 1/\yF t 2 216 2/\yF t 3 381 3/\yF t 4 5 4/\yF t 5 5 5/\yF t 6 382 6/\yF t 7 383 7/\yF t 8 384 8/\yF t 9 385 9/\yF t 10 386 10/\yP t [(0,1),(1,1),(2,1),(3,1),(4,1),(5,1),(6,1),(7,1),(8,1),(9,1),(10,1)]:=tk
theorem awz:yS 389 none false false none 8 (.pointer none):=tk
def auz:elemT Tryz.prog 66=some 9:=Za
def auB:zelem Tryz.prog 9=some (.c (.string ⟨#[]⟩)):=Za
def auA:tapp Tryz.prog 9=some (1,16):=Za
def QT:elemT Tryz.prog 60=some 5:=Za
def Zz:zelem Tryz.prog 5=some (.c (.int .u8 0)):=Za
def Zy:tapp Tryz.prog 5=some (1,1):=Za
def auC:tsz Tryz.prog 5=some 1:=Za
def tyf:=A8 amA y2 y3 y4 y5 y6 y7 y9 (A8 y12 y13 y16 y17 y18 y21 y22 y23 (A8 y24 y26 y27 y28 y29 y30 y32 y34 (A8 y39 y40 y42 y44 y46 y48 y49 y51 (A8 y53 y54 y56 y58 y60 y61 y63 y66 (A8 y73 y82 y93 avK avL avM avN avO (A8 avP avQ avR avS avT avU avV avW (A8 avX avY avZ av1 av2 av3 av4 av5 (A8 av6 av7 av8 av9 awc awd awe awf (A8 awg awh awi awj awk awl awm awn (A8 awo awp awq awr aws awt awu awv (Ad aww awx awy awz)))))))))))
end Go.Proofs.YtopbmdnbdpjheaaGreat
section
namespace Go.Pg
open Go
inductive Ka where
 | q
 | rb (b:Nat)
 | xb (b:Nat)
 | z
def Ka.notZ:Ka->Bool
 | .z=>false
 |_=>true
def wrA(κ:Ka)(c:Option (TypeId×List V))(s:St):St:=match κ with | .xb b=>{s with bx:=upd s.bx b c}|_=>s
def stepA(P:Program)(n0 i:Nat)(s:St)(o:Oper):Option (Ka×St) :=
 match o.op with
 | .alloc e=>(lV P e).map fun z=>(.xb (n0+i),({s with bx:=upd s.bx (n0+i) (some (e,z.cells.toList.map .c))}:St).put o.dst (.ref (n0+i) 0))
 | .store t x y=>match s.ev x with
  | .ref b off=>(oZ P s t b off (s.ev y)).map fun s'=>(.xb b,s'.put o.dst .top)
  |_=>none
 | .load t x=>match s.ev x with
  | .ref b off=>(nV P s t b off).map fun r=>(.rb b,s.put o.dst r)
  |_=>(qv P s o.op).map fun r=>(.q,s.put o.dst r)
 | .box e x=>((s.ev x).cs).map fun l=>(.xb (n0+i),({s with bx:=upd s.bx (n0+i) (some (e,l))}:St).put o.dst (.ref (n0+i) 0))
 | .lookup t x k ok=>match s.ev x with
  | .mh false b=>(lkB P s t b (s.ev k) ok).map fun r=>(.rb b,s.put o.dst r)
  |_=>none
 | .mapUpdate t m k x=>match s.ev m with
  | .mh false b=>(rH P s t b (s.ev k) (s.ev x)).map fun s'=>(.xb b,s'.put o.dst .top)
  |_=>none
 | .makeMap t none=>(ny P t).map fun _=>(.xb (n0+i),({s with bx:=upd s.bx (n0+i) (some (t,mpC 0 []))}:St).put o.dst (.mh false (n0+i)))
 |op=>(qv P s op).map fun r=>(.q,s.put o.dst r)
section
variable {P:Program} [Tb P] {C:Cx} {s s':St} {L:Lay} {a:Act} {w:World} {o:Oper}
theorem Wf.leBoxAt(W:Wf C s.nid L w){m:Nat}(hm:L.box m=none)(g:Nat):L.Le (L.addBox m g) :=
 ⟨fun _ h=>h,fun _ _ h=>h,fun i a h=>by
  have:i≠m:=fun e=>by subst e;rw[hm]at h;cases h
  simp[Lay.addBox,upd,this,h]⟩
theorem Wf.addBoxAt{nid m:Nat}(W:Wf C nid L w)(hm:m<nid)(hB:C.B<=w.heap.size){w':World}(c:w.heap.size<w'.heap.size):Wf C nid (L.addBox m w.heap.size) w' where
 nidO:=W.nidO
 nidB:=fun id g h=>by
  simp[Lay.addBox,upd]at h;split at h
  .omega
  .exact W.nidB id g h
 own:=fun b g h=>by obtain⟨h1,h2,h3⟩:=W.own b g h;exact⟨by omega,h2,h3⟩
 boxW:=fun id g h=>by
  simp[Lay.addBox,upd]at h;split at h
  .simp at h;subst h;exact⟨c,.inl hB,fun h=>by have:=W.old _ h;omega⟩
  .obtain⟨h1,h2,h3⟩:=W.boxW id g h;exact⟨by omega,h2,h3⟩
 injO:=W.injO
 injB:=fun i j g h a=>by
  simp[Lay.addBox,upd]at h a;split at h<;>split at a
  .omega
  .simp at h;have:=(W.boxW j _ a).1;omega
  .simp at a;have:=(W.boxW i _ h).1;omega
  .exact W.injB i j g h a
 dis:=fun i j g h a=>by
  simp[Lay.addBox,upd]at a;split at a
  .simp at a;have:=(W.own i _ h).1;omega
  .exact W.dis i j g h a
 old:=fun g h=>by have:=W.old g h;omega
 frz:=W.frz
theorem Xe{m:Nat}{e:TypeId}{l:List V}{us:Array Value}(S:Sim C s L a w)(hm:m<s.nid)(hf:L.box m=none)(c:Reps L w l us.toList) :
  Sim C {s with bx:=upd s.bx m (some (e,l))} (L.addBox m w.heap.size) a (w.alloc (.cells us e))/\Rep (L.addBox m w.heap.size) (w.alloc (.cells us e)) (.ref m 0) (.pointer (some ⟨w.heap.size,0,none⟩)):=by
 have G:=Grow.alloc w (.cells us e)
 have E:=S.wf.leBoxAt hf w.heap.size
 refine⟨S.grow G E rfl ?_ (S.wf.addBoxAt hm S.hB Aa),w.heap.size,⟨by simp[Lay.addBox,upd],us,e,heap_alloc_new w _⟩,rfl⟩
 intro b cs h
 simp[upd]at h
 split at h
 .rename_i hb;subst hb;simp at h;subst h;exact .inr (BoxOk.mk (g:=w.heap.size) (arr:=us) (by simp[Lay.addBox,upd]) (heap_alloc_new w _) (c.whole (S.wf.whole G E)).takeAll)
 .exact .inl h
theorem amB{m:Nat}{t:TypeId}(S:Sim C s L a w)(hm:m<s.nid)(hf:L.box m=none) :
  Sim C {s with bx:=upd s.bx m (some (t,mpC 0 []))} (L.addBox m w.heap.size) a (w.alloc (.map #[] 0))/\Rep (L.addBox m w.heap.size) (w.alloc (.map #[] 0)) (.mh false m) (.map (some w.heap.size)):=by
 have c:(w.alloc (.map #[] 0)).heap[w.heap.size]?=some (.map #[] 0):=heap_alloc_new w _
 have G:=Grow.alloc w (.map #[] 0)
 have E:=S.wf.leBoxAt hf w.heap.size
 refine⟨S.grow G E rfl ?_ (S.wf.addBoxAt hm S.hB Aa),w.heap.size,⟨by simp[Lay.addBox,upd],_,_,c⟩,rfl⟩
 intro b cs h
 simp[upd]at h
 split at h
 .rename_i hb;subst hb;simp at h;subst h;exact .inr ⟨w.heap.size,_,_,by simp[Lay.addBox,upd],⟨c,rfl⟩,⟨_,_,rfl,rfl,_,_,rfl,rfl,rfl⟩⟩
 .exact .inl h
theorem asE{n0 i:Nat}{κ:Ka}(h:stepA P n0 i s o=some (κ,s'))(S:Sim C s L a w)(hm:n0+i<s.nid)(hf:L.box (n0+i)=none)(hd:∀t,o.dst=some t->t<C.n) :
  ∃u w' L',Does P o a w u w'/\Sim C s' L' (a.put o.dst u) w'/\∀b,b≠n0+i->L'.box b=L.box b/\L'.own b=L.own b:=by
 obtain⟨f,op,j,pos,d,g⟩:=o
 simp only at hd
 have q:∀r,qv P s op=some r->s'=s.put f r->∃u w' L',Does P ⟨f,op,j,pos,d,g⟩ a w u w'/\Sim C s' L' (a.put f u) w'/\∀b,b≠n0+i->L'.box b=L.box b/\L'.own b=L.own b:=by rintro r c rfl;obtain⟨u,h1,h2⟩:=Yr (o:=⟨f,op,j,pos,d,g⟩) c S;exact⟨u,w,L,h1,S.put h2 hd,fun _ _=>⟨rfl,rfl⟩⟩
 unfold stepA at h
 simp only at h
 split at h
 .rename_i e;simp only[bF,dR]at h;obtain⟨z,p,rfl,rfl⟩:=h;obtain⟨n,c⟩:=Xe (e:=e) (us:=z.cells) S hm hf (FM L w z.cells.toList);refine⟨_,_,_,.inl ?_,n.put c hd,fun b hb=>by simp[Lay.addBox,upd,hb]⟩;have:(Instr.alloc e true (.tuple #[])).run P w = .ok (.pointer (some ⟨w.heap.size,0,none⟩)) (w.alloc (.cells z.cells e)):=by simp[Instr.alloc,DF p,newVar,newRow]
  simp only[execOp,Sem.run_bind,this,Result.andThen_ok,Sem.run_pure]
 .rename_i t x y;split at h
  .rename_i b off hx;simp only[bF,dR]at h;obtain⟨s1,h,rfl,rfl⟩:=h;have c:=S.ev x;rw[hx]at c;obtain⟨w',h1,h2⟩:=QI h S c (S.ev y);exact⟨undef,w',L,.inr ⟨by simp only[execOp,Sem.run_bind,h1,Result.andThen_ok,Sem.run_pure],rfl⟩,h2.put (v:=.top) ae hd,fun _ _=>⟨rfl,rfl⟩⟩
  .cases h
 .rename_i t x;split at h
  .rename_i b off hx;simp only[bF,dR]at h;obtain⟨r,h,rfl,rfl⟩:=h;have c:=S.ev x;rw[hx]at c;obtain⟨u,h1,h2⟩:=OV h S c;exact⟨u,w,L,.inl (by simp only[execOp,Sem.run_bind,h1,Result.andThen_ok,Sem.run_pure]),S.put h2 hd,fun _ _=>⟨rfl,rfl⟩⟩
  .grind[Option.map_eq_some_iff,Prod.mk.injEq]
 .rename_i e x;simp only[bF,dR]at h;obtain⟨l,hl,rfl,rfl⟩:=h;obtain⟨n,c⟩:=Xe (e:=e) (us:=(a.eval x).cells) S hm hf (xE (S.ev x) hl);refine⟨_,_,_,.inl ?_,n.put c hd,fun b hb=>by simp[Lay.addBox,upd,hb]⟩;have:(Instr.box e (a.eval x)).run P w = .ok (.pointer (some ⟨w.heap.size,0,none⟩)) (w.alloc (.cells (a.eval x).cells e)):=by simp[Instr.box,newVar,newRow]
  simp only[execOp,Sem.run_bind,this,Result.andThen_ok,Sem.run_pure]
 .rename_i t x k ok;split at h
  .rename_i b hx;simp only[bF,dR]at h;obtain⟨r,h,rfl,rfl⟩:=h;have c:=S.ev x;rw[hx]at c;obtain⟨u,h1,h2⟩:=Wu h S c (S.ev k);exact⟨u,w,L,.inl (by simp only[execOp,Sem.run_bind,h1,Result.andThen_ok,Sem.run_pure]),S.put h2 hd,fun _ _=>⟨rfl,rfl⟩⟩
  .cases h
 .rename_i t m k x;split at h
  .rename_i b hx;simp only[bF,dR]at h;obtain⟨s1,h,rfl,rfl⟩:=h;have c:=S.ev m;rw[hx]at c;obtain⟨w',h1,h2⟩:=Xb h S c (S.ev k) (S.ev x);exact⟨undef,w',L,.inr ⟨by simp only[execOp,Sem.run_bind,h1,Result.andThen_ok,Sem.run_pure],rfl⟩,h2.put (v:=.top) ae hd,fun _ _=>⟨rfl,rfl⟩⟩
  .cases h
 .rename_i t;simp only[bF,dR]at h;obtain⟨_,_,rfl,rfl⟩:=h;obtain⟨n,c⟩:=amB (t:=t) S hm hf;refine⟨_,_,_,.inl ?_,n.put c hd,fun b hb=>by simp[Lay.addBox,upd,hb]⟩;have:(Instr.makeMap t none).run P w = .ok (.map (some w.heap.size)) (w.alloc (.map #[] 0)):=rfl;simp only[execOp,IX,Sem.run_bind,this,Result.andThen_ok,Sem.run_pure]
 .grind[Option.map_eq_some_iff,Prod.mk.injEq]
theorem aah(κ:Ka)(c:Option (TypeId×List V))(t:Nat):(wrA κ c s).env t=s.env t:=by cases κ<;>rfl
theorem avH(κ:Ka)(c:Option (TypeId×List V))(d:Option Nat)(v:V):wrA κ c (s.put d v)=(wrA κ c s).put d v:=by cases κ<;>cases d<;>rfl
theorem avG(κ:Ka)(c:Option (TypeId×List V)):(wrA κ c s).nid=s.nid:=by cases κ<;>rfl
theorem apC(d:Option Nat)(v:V):(s.put d v).nid=s.nid:=by cases d<;>rfl
theorem asI{n0 i:Nat}{κ:Ka}(h:stepA P n0 i s o=some (κ,s')):∃(v:V) (c:Option (TypeId×List V)),s'=(wrA κ c s).put o.dst v /\
  ∀s2:St,(∀t∈lkO o,s2.env t=s.env t)->(∀b,(κ = .rb b\/κ = .xb b)->s2.bx b=s.bx b)->stepA P n0 i s2 o=some (κ,(wrA κ c s2).put o.dst v):=by
 obtain⟨j,op,f,pos,a,g⟩:=o
 have u:∀r,qv P s op=some r->s'=s.put j r->κ = .q->(∀s2:St,(∀x∈op.operands.toList,s2.ev x=s.ev x)->stepA P n0 i s2 ⟨j,op,f,pos,a,g⟩=(qv P s2 op).map fun r=>(.q,s2.put j r)) ->
   ∃(v:V) (c:Option (TypeId×List V)),s'=(wrA κ c s).put j v/\∀s2:St,(∀t∈lkO ⟨j,op,f,pos,a,g⟩,s2.env t=s.env t)->(∀b,(κ = .rb b\/κ = .xb b)->s2.bx b=s.bx b)->stepA P n0 i s2 ⟨j,op,f,pos,a,g⟩=some (κ,(wrA κ c s2).put j v):=by
  rintro r E rfl rfl F
  refine⟨r,none,rfl,fun s2 he _ => ?_⟩
  have d:=jV (o:=⟨j,op,f,pos,a,g⟩) he
  rw[F s2 d,Qd d,E]
  rfl
 unfold stepA at h
 simp only at h
 split at h
 .simp only[bF,dR]at h;obtain⟨z,H,rfl,rfl⟩:=h;refine⟨.ref (n0+i) 0,_,rfl,fun s2 _ _ => ?_⟩;simp only[stepA,H,mQ];rfl
 .rename_i t x y;split at h
  .rename_i b off hx;simp only[bF,dR]at h;obtain⟨s1,h,rfl,rfl⟩:=h;simp only[oZ,bg,dh,aO]at h;obtain⟨⟨e,cs⟩,A,l,hl,h1,rfl⟩:=h;refine⟨.top,_,rfl,fun s2 he hb => ?_⟩;have d:=jV (o:=⟨j,.store t x y,f,pos,a,g⟩) he;have n:s2.ev x = .ref b off:=by rw[d x (by simp[Op.operands]),hx]
   have G:s2.ev y=s.ev y:=d y (by simp[Op.operands]);simp only[stepA,n,oZ,G,hb b (.inr rfl),A,dZ,hl,ah h1,mQ];rfl
  .cases h
 .rename_i t x;split at h
  .rename_i b off hx;simp only[bF,dR]at h;obtain⟨r,h,rfl,rfl⟩:=h;refine⟨r,none,rfl,fun s2 he hb => ?_⟩;have d:=jV (o:=⟨j,.load t x,f,pos,a,g⟩) he;have n:s2.ev x = .ref b off:=by rw[d x (by simp[Op.operands]),hx]
   have:nV P s2 t b off=some r:=by unfold nV at h⊢;rw[hb b (.inl rfl)];exact h
   simp only[stepA,n,this,mQ];rfl
  .rename_i I;simp only[bF,dR]at h;obtain⟨r,h,hk,K⟩:=h;refine u r h K.symm hk.symm (fun s2 d => ?_);have n:s2.ev x=s.ev x:=d x (by simp[Op.operands]);simp only[stepA];split
   .grind
   .rfl
 .rename_i e x;simp only[bF,dR]at h;obtain⟨l,hl,rfl,rfl⟩:=h;refine⟨.ref (n0+i) 0,some (e,l),rfl,fun s2 he _ => ?_⟩;have d:=jV (o:=⟨j,.box e x,f,pos,a,g⟩) he;simp only[stepA,d x (by simp[Op.operands]),hl,mQ];rfl
 .rename_i t x k ok;split at h
  .rename_i b hx;simp only[bF,dR]at h;obtain⟨r,h,rfl,rfl⟩:=h;refine⟨r,none,rfl,fun s2 he hb => ?_⟩;have d:=jV (o:=⟨j,.lookup t x k ok,f,pos,a,g⟩) he;have n:s2.ev x = .mh false b:=by rw[d x (by simp[Op.operands]),hx]
   have p:s2.ev k=s.ev k:=d k (by simp[Op.operands]);have:lkB P s2 t b (s2.ev k) ok=some r:=by unfold lkB at h⊢;rw[hb b (.inl rfl),p];exact h
   simp only[stepA,n,this,mQ];rfl
  .cases h
 .rename_i t m k x;split at h
  .rename_i b hx;simp only[bF,dR]at h;obtain⟨s1,h,rfl,rfl⟩:=h;simp only[rH,bg,bF]at h;obtain⟨y,L,q,J,r,E,rfl⟩:=h;refine⟨.top,_,rfl,fun s2 he hb => ?_⟩;have d:=jV (o:=⟨j,.mapUpdate t m k x,f,pos,a,g⟩) he;have C:s2.ev m = .mh false b:=by rw[d m (by simp[Op.operands]),hx]
   have p:s2.ev k=s.ev k:=d k (by simp[Op.operands]);have n:s2.ev x=s.ev x:=d x (by simp[Op.operands]);simp only[stepA,C,rH,p,n,hb b (.inr rfl),L,dZ,J,E,mQ];rfl
  .cases h
 .rename_i t;simp only[bF,dR]at h;obtain⟨z,H,rfl,rfl⟩:=h;refine⟨.mh false (n0+i),_,rfl,fun s2 _ _ => ?_⟩;simp only[stepA,H,mQ];rfl
 .grind[stepA,Option.map_eq_some_iff,Prod.mk.injEq]
theorem Wf.leOwnAt(W:Wf C s.nid L w){m:Nat}(hm:L.own m=none)(g:Nat):L.Le (L.addOwn m g) :=
 ⟨fun _ h=>h,fun i a h=>by
  have:i≠m:=fun e=>by subst e;rw[hm]at h;cases h
  simp[Lay.addOwn,upd,this,h],fun _ _ h=>h⟩
theorem Wf.addOwnAt{nid m:Nat}(W:Wf C nid L w)(hm:m<nid)(hB:C.B<=w.heap.size){w':World}(c:w.heap.size<w'.heap.size):Wf C nid (L.addOwn m w.heap.size) w' where
 nidO:=fun id g h=>by
  simp[Lay.addOwn,upd]at h;split at h
  .omega
  .exact W.nidO id g h
 nidB:=W.nidB
 own:=fun id g h=>by
  simp[Lay.addOwn,upd]at h;split at h
  .simp at h;subst h;exact⟨c,.inl hB,fun h=>by have:=W.old _ h;omega⟩
  .obtain⟨h1,h2,h3⟩:=W.own id g h;exact⟨by omega,h2,h3⟩
 boxW:=fun b g h=>by obtain⟨h1,h2,h3⟩:=W.boxW b g h;exact⟨by omega,h2,h3⟩
 injO:=fun i j g h a=>by
  simp[Lay.addOwn,upd]at h a;split at h<;>split at a
  .omega
  .simp at h;have:=(W.own j _ a).1;omega
  .simp at a;have:=(W.own i _ h).1;omega
  .exact W.injO i j g h a
 injB:=W.injB
 dis:=fun i j g h a=>by
  simp[Lay.addOwn,upd]at h;split at h
  .simp at h;have:=(W.boxW j _ a).1;omega
  .exact W.dis i j g h a
 old:=fun g h=>by have:=W.old g h;omega
 frz:=W.frz
theorem amC{m:Nat}{e:TypeId}{k cap:Nat}{xs:List V}{arr:Array Value}(S:Sim C s L a w)(hm:m<s.nid)(hf:L.own m=none)(c:arr.size=cap*k)(d:xs.length<=cap)(hx:cap<=maxLen)(f:RepE L w k xs (arr.toList.take (xs.length*k))) :
  Sim C s (L.addOwn m w.heap.size) a (w.alloc (.cells arr e))/\Rep (L.addOwn m w.heap.size) (w.alloc (.cells arr e)) (.sl (.own m e) k xs) (.slice (some ⟨w.heap.size,0,none⟩) xs.length cap):=by
 have G:=Grow.alloc w (.cells arr e)
 have E:=S.wf.leOwnAt hf w.heap.size
 have K:qN L (L.addOwn m w.heap.size) w (w.alloc (.cells arr e)):=S.wf.whole G E
 refine⟨S.grow G E rfl (fun b cs h=>.inl h) (S.wf.addOwnAt hm S.hB Aa),_,_,_,rfl,f.trans (p:=fun _=>false) (q:=fun _=>false) rfl K,?_⟩
 exact .inr ⟨w.heap.size,arr,by simp[Lay.addOwn,upd],rfl,heap_alloc_new w _,d,hx,c,rfl⟩
theorem adv{f:FuncId}{vs:List V}{us:List Value}{r:V}{m:Nat}(X:C.TOk P)(S:Sim C s L a w)(hm:m<s.nid)(hf:L.own m=none)(h1:r.idb<=1)(U:Reps L w vs us)(hg:Good P f (vs.map V.erase) r)(y:noRefs vs=true)(T:r.noRef=true)(R:(ownFree vs||r.flat)=true) :
  Calls P f us.toArray w fun e w'=>∃u L',e = .returned u/\Sim C s L' a w'/\Rep L' w' (r.shift m) u/\∀b,b≠m->L'.box b=L.box b/\L'.own b=L.own b:=by
 have hB:=S.hB
 let H:Nat->Prop:=fun g=>L.A g\/(r.flat=true/\∃id,L.own id=some g)
 have Q:∀g,H g->g<w.heap.size:=fun g h=>h.elim (S.wf.old g) (fun⟨_,id,h⟩=>(S.wf.own id g h).1)
 have F:Reps ⟨H,fun _=>none,fun _=>none⟩ w (vs.map V.erase) us:=by
  cases v:r.flat with
  |true =>
   have K:Trans (fun _=>false) (fun _=>true) (fun _=>.fz) id L ⟨H,fun _=>none,fun _=>none⟩ w w :=
    ⟨rfl,fun g h=>⟨.inl h,.of rfl⟩,fun i e _ g h=>⟨.inr ⟨v,i,h⟩,rfl⟩,fun b hb=>by simp at hb⟩
   have:=U.trans rfl K (by simpa[noRefs]using y);rwa [H6]at this
  |false =>
   have K:Trans Tag.isOwn (fun _=>true) (fun _=>.fz) id L ⟨H,fun _=>none,fun _=>none⟩ w w :=
    ⟨rfl,fun g h=>⟨.inl h,.of rfl⟩,fun i e h=>by simp[Tag.isOwn]at h,fun b hb=>by simp at hb⟩
   have h1:ownFree vs=true:=by simpa[v]using R
   have h3:=(Jd (p:=Tag.isOwn) (p':=fun _=>false) (q:=fun _=>false) (q':=fun _=>true)).2 vs (by simpa[ownFree]using h1) (by simpa[noRefs]using y);have:=U.trans (p:=Tag.isOwn) (q:=fun _=>true) rfl K (by simpa using h3);rwa [H6]at this
 refine(hg.2 H w us (Zu X S) Q F).mono ?_
 rintro e w' ⟨u,I,rfl,J,l,d⟩
 have G:Grow w w':=⟨l.os,l.tape,l.output,l.size,fun k hk=>l.block k hk (fun h=>h),l.drawn⟩
 let n:Lay:={A:=fun g=>L.A g\/(I.A g/\w.heap.size<=g),own:=fun j=>if j=m then(if 0<r.idb then I.own 0 else none)else L.own j,box:=L.box}
 have E:L.Le n:=⟨fun g h=>.inl h,fun i g h=>by
  have:i≠m:=fun e=>by subst e;rw[hf]at h;cases h
  simp[n,this,h],fun _ _ h=>h⟩
 have W:=S.wf
 have wf:Wf C s.nid n w':={
  nidO:=fun j g h=>by
   simp only[n]at h
   split at h
   .omega
   .exact W.nidO j g h
  nidB:=W.nidB
  own:=fun j g h=>by
   simp only[n]at h
   split at h
   .split at h
    .obtain⟨h1,h2,h3⟩:=d.own _ g h
     exact⟨h2,.inl Om,fun c=>c.elim (fun c=>by have:=W.old g c;omega) (fun⟨c,_⟩=>h3 c)⟩
    .cases h
   .obtain⟨h1,h2,h3⟩:=W.own j g h
    exact⟨by have:=G.size;omega,h2,fun c=>c.elim h3 (fun⟨_,c⟩=>by omega)⟩
  boxW:=fun b g h=>by
   obtain⟨h1,h2,h3⟩:=W.boxW b g h
   exact⟨by have:=G.size;omega,h2,fun c=>c.elim h3 (fun⟨_,c⟩=>by omega)⟩
  injO:=fun i j g h c=>by
   simp only[n]at h c
   split at h<;>split at c
   .omega
   .split at h
    .have:=(W.own j g c).1;have:=(d.own _ g h).1;omega
    .cases h
   .split at c
    .have:=(W.own i g h).1;have:=(d.own _ g c).1;omega
    .cases c
   .exact W.injO i j g h c
  injB:=W.injB
  dis:=fun i j g h c=>by
   simp only[n]at h
   split at h
   .split at h
    .have:=(d.own _ g h).1;have:=(W.boxW j g c).1;omega
    .cases h
   .exact W.dis i j g h c
  old:=fun g h=>h.elim (fun h=>by have:=W.old g h;have:=G.size;omega) (fun⟨h,c⟩=>by
   rcases d.A g h with h1|h1
   .grind
   .exact h1.2)
  frz:=fun g h=>h.elim (W.frz g) (fun⟨_,c⟩=>.inr (.inl Om))}
 refine⟨u,n,rfl,S.grow G E rfl (fun b cs h=>.inl h) wf,?_,fun b hb=>⟨rfl,by simp[n,hb]⟩⟩
 have N:∀id e,Tag.ge r.idb (.own id e)=false->∀g,I.own id=some g->n.own (id+m)=some g:=by grind[Tag.ge]
 have x:r.any (fun t=>Tag.ge r.idb t||false) (fun b=>false||true) false=false:=by have:=(Jd (p:=Tag.ge r.idb) (p':=fun _=>false) (q:=fun _=>false) (q':=fun _=>true)).1 r ((OA r.idb).1 r (az _)) (by simpa[V.noRef]using T);exact this
 cases v:r.flat with
 |true =>
  have M:=(Yw (fun _=>False)).1 r u v J
  have K:Trans (fun t=>Tag.ge r.idb t||false) (fun b=>false||true) (fun t=>match t with | .fz=>.fz | .nn=>.nn | .own id e=>.own (id+m) e) id {I with A:=fun _=>False} n w' w' :=
   ⟨rfl,fun g h=>h.elim,fun id e hid g h=>⟨⟨rfl,N id e (by simpa using hid) g h⟩,rfl⟩,fun b hb=>by simp at hb⟩
  exact M.trans rfl K x
 |false =>
  have K:Trans (fun t=>Tag.ge r.idb t||false) (fun b=>false||true) (fun t=>match t with | .fz=>.fz | .nn=>.nn | .own id e=>.own (id+m) e) id I n w' w':=by
   refine⟨rfl,fun g h=>⟨?_,.of rfl⟩,fun id e hid g h=>⟨⟨rfl,N id e (by simpa using hid) g h⟩,rfl⟩,fun b hb=>by simp at hb⟩;rcases d.A g h with h1|h1
   .grind
   .grind
  exact J.trans rfl K x
def apN(m el k bytes:Nat)(x:V)(ys:List V):Option V :=
 match x with
 | .c (.slice none 0 0)=>if Fits ys.length bytes then some (.sl (.own m el) k ys)else none
 | .sl .nn _ []=>if Fits ys.length bytes then some (.sl (AP ys m el) k ys)else none
 |_=>none
def apA(P:Program)(m:Nat)(t t2:TypeId)(x y:V):Option V:=(elemT P t).bind fun e=>(tapp P e).bind fun p=>(rQ P t2 p.1 y).bind fun ys=>apN m e p.1 p.2 x ys
theorem abj{m:Nat}{t t2 ty:TypeId}{x y v:V}{T H:Value}(h:apA P m t t2 x y=some v)(S:Sim C s L a w)(hm:m<s.nid)(hf:L.own m=none)(hx:Rep L w x T)(W:Rep L w y H) :
  ∃u w' L',(Builtin.append_ #[t,t2] ty #[T,H]).run P w = .ok u w'/\Sim C s L' a w'/\Rep L' w' v u/\∀b,b≠m->L'.box b=L.box b/\L'.own b=L.own b:=by
 simp[apA,bg]at h
 obtain⟨e,he,k,bytes,hk,ys,M,h⟩:=h
 obtain⟨i,z,hi,R,A,rfl,rfl,Q⟩:=pW hk
 have F:=iw he
 obtain⟨news,d,l⟩:=QE M W
 have j:=l.length
 unfold apN at h
 split at h
 .simp at h;obtain⟨⟨f,g⟩,rfl⟩:=h;simp[Rep]at hx;subst hx;rcases gG ys.length with I|I
  .have r:ys=[]:=kJ I;subst r;exact⟨_,w,L,Qu F hi d,S,⟨none,0,[],rfl,rfl,.inl ⟨rfl,rfl,rfl⟩⟩,fun _ _=>⟨rfl,rfl⟩⟩
  .have c:=run_append_grow_src (P:=P) w t t2 ty e i z F hi R none 0 0 [] (by simp[Builtin.firstCells]) H ys.length news d Om
    (by simp[maxLen]at f;omega) (growslice_fits Om (by rw[nM];exact g))
   simp at c;have G:=Grow.drewAlloc w (iJ w [] news ys.length 0 e z);have E:=S.wf.leOwnAt hf w.heap.size;have J:(w.drew.alloc (iJ w [] news ys.length 0 e z)).heap[w.heap.size]?=some (iJ w [] news ys.length 0 e z):=heap_alloc_new w.drew _;refine⟨_,_,L.addOwn m w.heap.size,c,S.grow G E rfl (fun b cs h=>.inl h) (S.wf.addOwnAt hm S.hB Aa),⟨_,_,news,rfl,?_,?_⟩,fun b hb=>by simp[Lay.addOwn,upd,hb]⟩
   .exact l.trans (p:=fun _=>false) (q:=fun _=>false) rfl (S.wf.whole G E)
   .exact Hq (olds:=[]) (id:=m) (L':=L.addOwn m w.heap.size) (by simp[Lay.addOwn,upd]) J A (by simpa using j) f
 .simp only[dh,aO]at h;obtain⟨⟨f,g⟩,rfl⟩:=h;obtain⟨ad,cap,cells,rfl,U,_,n,rfl⟩:=hx;obtain⟨N,rfl⟩:=pF.1 n;cases ys with
  |nil =>have K:news=[]:=kJ (by simpa using j);subst K;exact⟨_,w,L,YL F hi d,S,⟨some N,0,[],rfl,rfl,rfl,rfl,rfl⟩,fun _ _=>⟨rfl,rfl⟩⟩
  |cons y0 ys =>
   have I:0<(y0::ys).length:=Aa
   have c:=run_append_grow_src (P:=P) w t t2 ty e i z F hi R (some N) 0 0 [] (by simp[Builtin.firstCells,loadCells,loadCellsFrom]) H (y0::ys).length news d Om
    (by simp only[maxLen]at f;omega) (growslice_fits Om (by rw[nM];exact g))
   simp only[nM]at c;have G:=Grow.drewAlloc w (iJ w [] news (y0::ys).length 0 e z);have E:=S.wf.leOwnAt hf w.heap.size;have J:(w.drew.alloc (iJ w [] news (y0::ys).length 0 e z)).heap[w.heap.size]?=some (iJ w [] news (y0::ys).length 0 e z):=heap_alloc_new w.drew _;refine⟨_,_,L.addOwn m w.heap.size,c,S.grow G E rfl (fun b cs h=>.inl h) (S.wf.addOwnAt hm S.hB Aa),⟨_,_,news,rfl,?_,?_⟩,fun b hb=>by simp[Lay.addOwn,upd,hb]⟩
   .exact l.trans (p:=fun _=>false) (q:=fun _=>false) rfl (S.wf.whole G E)
   .exact Hq (olds:=[]) (id:=m) (L':=L.addOwn m w.heap.size) (by simp[Lay.addOwn,upd]) J A (by simpa using j) f
 .cases h
inductive RA (P:Program) [Tb P] (n0 i:Nat) (s:St) (o:Oper):Ka->St->Prop
 | st {κ:Ka} {s':St} (h:stepA P n0 i s o=some (κ,s')):RA P n0 i s o κ s'
 | bs {t:TypeId} {len:Nat} {parts:Array (Nat × Operand)} {e:TypeId} {k bytes:Nat} {v:V} {xs:List V} (ho:o.op = .buildSlice t len parts) (he:elemT P t=some e) (hk:tapp P e=some (k,bytes)) (hv:zelem P e=some v)
   (hxs:setAll k (List.replicate len v) (parts.toList.map fun p=>(p.1,s.ev p.2))=some xs) (hl:len*k<=16777216):RA P n0 i s o .q (s.put o.dst (.sl (bsTag len (n0+i) e) k xs))
 | call {f:Operand} {args:Array Operand} {ts:Array TypeId} {g:FuncId} {fs cs:List V} {r:V} (ho:o.op = .call { callee := .value f,args:=args,argTypes:=ts }) (hf:s.ev f = .fn g fs cs) (hg:Good P g ((fs++args.toList.map s.ev++cs).map V.erase) r)
   (h1:ownFree (fs++cs)=true) (h2:noRefs (fs++args.toList.map s.ev++cs)=true) (h3:r.noRef=true) (h4:(ownFree (args.toList.map s.ev)||r.flat)=true) (h5:r.idb<=1):RA P n0 i s o .q (s.put o.dst (r.shift (n0+i)))
 | ap {x y:Operand} {t t2:TypeId} {v:V} (ho:o.op = .call { callee := .builtin .append,args:=#[x,y],argTypes:=#[t,t2] }) (h:apA P (n0+i) t t2 (s.ev x) (s.ev y)=some v):RA P n0 i s o .q (s.put o.dst v)
 | z {f:Operand} {args:Array Operand} {ts:Array TypeId} {g:FuncId} {fs cs:List V} {s1:St} {r:V} (ho:o.op = .call { callee := .value f,args:=args,argTypes:=ts }) (hf:s.ev f = .fn g fs cs) (hg:GoodZ P g (fs++args.toList.map s.ev++cs) s s1 r):RA P n0 i s o .z (s1.put o.dst r)
theorem MB{n0 i:Nat}{κ:Ka}(h:RA P n0 i s o κ s')(l:κ ≠ .z):∃(v:V) (c:Option (TypeId×List V)),s'=(wrA κ c s).put o.dst v /\
  ∀s2:St,(∀t∈lkO o,s2.env t=s.env t)->(∀b,(κ = .rb b\/κ = .xb b)->s2.bx b=s.bx b)->RA P n0 i s2 o κ ((wrA κ c s2).put o.dst v):=by
 cases h with
 |st h =>obtain⟨v,c,h1,h2⟩:=asI h;exact⟨v,c,h1,fun s2 ha hb=>.st (h2 s2 ha hb)⟩
 |bs ho he hk hv hxs hl =>
  rename_i t len parts e k bytes v xs;refine⟨_,none,rfl,fun s2 ha _ => ?_⟩;have a:=jV ha
  have:(parts.toList.map fun p=>(p.1,s2.ev p.2))=parts.toList.map fun p=>(p.1,s.ev p.2):=by
   refine kN fun p hp => ?_
   rw[a p.2 (by rw[ho];simp[Op.operands];simpa using⟨p.1,by simpa using hp⟩)]
  exact .bs ho he hk hv (by rw[this];exact hxs) hl
 |call ho hf hg h1 h2 h3 h4 h5 =>
  rename_i f args ts g fs cs r;refine⟨_,none,rfl,fun s2 ha _ => ?_⟩;have a:=jV ha;rw[ho]at a;have j:s2.ev f=s.ev f:=a f (by simp[Op.operands,Call.operands]);have d:args.toList.map s2.ev=args.toList.map s.ev:=kN fun x hx=>a x (by simp[Op.operands,Call.operands]at hx⊢;simp[hx])
  exact .call ho (by rw[j];exact hf) (by rw[d];exact hg) h1 (by rw[d];exact h2) h3 (by rw[d];exact h4) h5
 |ap ho h =>rename_i x y t t2 v;refine⟨_,none,rfl,fun s2 ha _ => ?_⟩;have a:=jV ha;rw[ho]at a;exact .ap ho (by rw[a x (by simp[Op.operands,Call.operands]),a y (by simp[Op.operands,Call.operands])];exact h)
 |z=>exact absurd rfl l
theorem aaB{n0 i:Nat}{κ:Ka}(h:RA P n0 i s o κ s')(a:κ ≠ .z):s'.nid=s.nid:=by grind[MB,apC,avG]
theorem aaC{n0 i:Nat}{κ:Ka}{next:Act->World->Prop}{Q:Exit->Act->World->Prop}(h:RA P n0 i s o κ s')(Z:C.TOk P)(S:Sim C s L a w)(hm:n0+i<s.nid)(U:L.box (n0+i)=none)(G:L.own (n0+i)=none)
  (hd:∀t,o.dst=some t->t<C.n) (J:∀L' Y w',Sim C s' L' Y w'->(κ ≠ .z->∀b,b≠n0+i->L'.box b=L.box b/\L'.own b=L.own b)->next Y w'):o.wp P a w next Q:=by
 cases h with
 |st h =>obtain⟨u,w',L',h1,h2,h3⟩:=asE h S hm U hd;exact h1.wp (J L' _ _ h2 fun _=>h3)
 |bs ho he hk hv hxs hl =>
  rename_i t len parts e k bytes v xs;obtain⟨X,h1,N,h3,h2,hx⟩:=MS S.ev he hk hv hxs hl;obtain⟨S',hr⟩:=amC (e:=e) (k:=k) (cap:=len) (xs:=xs) (arr:=X) S hm G N Om hx (by rw[h3,<-N,<-iQ,gB];exact h2);rw[h3]at hr
  have W:Rep (L.addOwn (n0+i) w.heap.size) (w.alloc (.cells X e)) (.sl (bsTag len (n0+i) e) k xs) (.slice (some ⟨w.heap.size,0,none⟩) len len):=by
   cases len with
   |zero =>have hx:xs=[]:=kJ h3;subst hx;exact⟨_,0,[],rfl,rfl,rfl,rfl,rfl⟩
   |succ n=>exact hr
  have F:Does P o a w (.slice (some ⟨w.heap.size,0,none⟩) len len) (w.alloc (.cells X e)):=by refine .inl ?_;simp only[execOp,ho,Sem.run_bind,h1,Result.andThen_ok,Sem.run_pure]
  exact F.wp (J _ _ _ (S'.put W hd) fun _ b hb=>by simp[Lay.addOwn,upd,hb])
 |call ho hf hg h1 h2 h3 h4 h5 =>
  rename_i f args ts g fs cs r;have l:=S.ev f;rw[hf]at l;obtain⟨q,p,A,I,H⟩:=l;have j:Reps L w (fs++args.toList.map s.ev++cs) (q.toList++args.toList.map a.eval++p.toList):=(I.append (evs S args.toList)).append H;have R:(q.toList++args.toList.map a.eval++p.toList).toArray=q++args.map a.eval++p:=by grind
  have M:(ownFree (fs++args.toList.map s.ev++cs)||r.flat)=true:=by grind[Pn]
  have c:=adv Z S hm G h5 j hg h2 h3 M;rw[R]at c;have d:(execOp a.eval o).run P w = .ok (.enter g (q++args.map a.eval++p)) w:=by simp only[execOp,ho,resolve,A,Deferred.ofValue,Sem.run_bind,Sem.run_pure,Result.andThen_ok,invoke];exact Ez hg.1 _
  unfold Oper.wp;rw[d];simp only[Oper.upon];refine c.mono ?_;rintro e w' ⟨u,L2,rfl,K,m,hk⟩;exact J _ _ _ (K.put m hd) fun _=>hk
 |ap ho h =>
  rename_i x y t t2 v;obtain⟨u,w',L',h1,h2,h3,h4⟩:=abj (ty:=o.type) h S hm G (S.ev x) (S.ev y);have F:Does P o a w u w':=by refine .inl ?_;simp only[execOp,ho,resolve,Sem.run_bind,Sem.run_pure,Result.andThen_ok,invoke,builtin,uw,dm,dS];rw[h1,Result.andThen_ok]
  exact F.wp (J L' _ _ (h2.put h3 hd) fun _=>h4)
 |z ho hf hg =>
  rename_i f args ts g fs cs s1 r;have l:=S.ev f;rw[hf]at l;obtain⟨q,p,A,I,H⟩:=l;have j:Reps L w (fs++args.toList.map s.ev++cs) (q.toList++args.toList.map a.eval++p.toList):=(I.append (evs S args.toList)).append H;have R:(q.toList++args.toList.map a.eval++p.toList).toArray=q++args.map a.eval++p:=by grind
  rcases hg C L a w _ Z S j with⟨T,c⟩|⟨u,w',L',E,K,m⟩
  .rw[R]at c;have d:(execOp a.eval o).run P w = .ok (.enter g (q++args.map a.eval++p)) w:=by simp only[execOp,ho,resolve,A,Deferred.ofValue,Sem.run_bind,Sem.run_pure,Result.andThen_ok,invoke];exact Ez T _
   unfold Oper.wp;rw[d];simp only[Oper.upon];refine c.mono ?_;rintro e w' ⟨u,L2,rfl,K,m⟩;exact J _ _ _ (K.put m hd) fun h=>absurd rfl h
  .rw[R]at E;have d:(execOp a.eval o).run P w = .ok (.value u) w':=by simp only[execOp,ho,resolve,A,Deferred.ofValue,Sem.run_bind,Sem.run_pure,Result.andThen_ok,invoke];exact E
   unfold Oper.wp;rw[d];simp only[Oper.upon];exact J _ _ _ (K.put m hd) fun h=>absurd rfl h
def pG:Ka->Ka->Bool
 | .z,_=>false
 |_,.z=>false
 | .rb b,.xb c=>b != c
 | .xb b,.rb c=>b != c
 | .xb b,.xb c=>b != c
 |_,_=>true
theorem aag{a d:Ka}(h:pG a d=true)(c:Option (TypeId×List V))(b:Nat)(hb:d = .rb b\/d = .xb b):(wrA a c s).bx b=s.bx b:=by
 cases a with
 |q=>rfl
 |rb f=>rfl
 |z=>simp[pG]at h
 |xb f =>
  have:b≠f:=by grind[pG]
  simp[wrA,upd,this]
theorem adP{a b:Ka}(h:pG a b=true):pG b a=true:=by cases a<;>cases b<;>simp[pG]at h⊢<;>exact fun e=>h e.symm
theorem Nc{a b:Ka}(h:pG a b=true):a ≠ .z/\b ≠ .z:=by grind[pG]
theorem avF{a b:Ka}(h:pG a b=true)(c1 f:Option (TypeId×List V)):wrA a c1 (wrA b f s)=wrA b f (wrA a c1 s):=by
 cases a with
 |q=>rfl
 |rb c=>rfl
 |z=>rfl
 |xb c =>
  cases b with
  |q=>rfl
  |rb d=>rfl
  |z=>rfl
  |xb d =>
   have g:c≠d:=by simpa[pG]using h
   simp[wrA];grind[upd]
theorem auh{d:List (Option Nat)}{m c:Oper}{n0 i j:Nat}{n f:Ka}{s1 s2:St}(h1:RA P n0 i s m n s1)(h2:RA P n0 j s1 c f s2)(h:D8 d m c=true)(g:pG n f=true) :
  ∃a,RA P n0 j s c f a/\RA P n0 i a m n s2:=by
 obtain⟨ha,hb,k⟩:=Sm h
 obtain⟨u,x⟩:=Nc g
 obtain⟨v1,c1,rfl,q⟩:=MB h1 u
 obtain⟨v,p,rfl,r⟩:=MB h2 x
 have A:=r s (fun t l=>by rw[kU (fun e=>ha t e (by simp[lk,l])),aah]) (fun b hb=>by rw[Dt,aag g c1 b hb])
 have y:=q ((wrA f p s).put c.dst v) (fun t l=>by rw[kU (fun e=>k t e (by simp[lk,l])),aah]) (fun b hb=>by rw[Dt,aag (adP g) p b hb])
 grind[avH,avF,tZ]
abbrev xQ:=Nat×Oper×Ka
def Gw(P:Program)[Tb P](n0:Nat):List xQ->St->St->Prop
 |[],s,s'=>s=s'
 |e::r,s,s'=>∃s1,RA P n0 e.1 s e.2.1 e.2.2 s1/\Gw P n0 r s1 s'
def xP(d:List (Option Nat))(x y:xQ):Bool:=pG x.2.2 y.2.2&&D8 d x.2.1 y.2.1
theorem adz{d:List (Option Nat)}{n0:Nat}{x:xQ}:∀{l a:List xQ} {s s':St},Gw P n0 (l++x::a) s s'->(∀y∈l,xP d y x=true)->Gw P n0 (x::(l++a)) s s':=by
 intro l
 induction l with
 |nil=>intro a s s' h _;exact h
 |cons y l i =>rintro a s s' ⟨s1,h1,h2⟩ hb;obtain⟨s2,h3,h4⟩:=i h2 (fun z g=>hb z (by simp[g]));have b:=hb y Aa;simp[xP]at b;obtain⟨c,h5,f⟩:=auh h1 h3 b.2 b.1;exact⟨c,h5,s2,f,h4⟩
theorem asW{ops:Array Oper}{n0 i:Nat}{κ:Ka}{K:Act->World->Prop}{Q:Exit->Act->World->Prop}(d:C.TOk P)(ho:ops[i]?=some o)(hg:o.guard=none)(h:RA P n0 i s o κ s')(S:Sim C s L a w)(hm:n0+i<s.nid)(hf:L.box (n0+i)=none/\L.own (n0+i)=none)
  (hd:∀t,o.dst=some t->t<C.n) (hK:∀L' c w',Sim C s' L' c w'->(κ ≠ .z->∀b,b≠n0+i->L'.box b=L.box b/\L'.own b=L.own b)->K c w'):wpOp P ops Q i K a w:=by
 unfold wpOp
 rw[ho]
 simp only
 rw[ah (by simp[Region.wanted,hg])]
 grind[aaC]
theorem abb{C:Cx}{n0:Nat}{ops:Array Oper}{Q:Exit->Act->World->Prop}(hT:C.TOk P)(T:∀i o,ops[i]?=some o->∀e∈edgesOf o,e<i)(hd:∀o∈ops.toList,∀t,o.dst=some t->t<C.n)(hg:∀o∈ops,o.guard=none)
  (hQ:∀L a w,Sim C s' L a w->Q .normal a w):∀(m:Nat) (l:List xQ) (b:Array Bool) (s:St) (L:Lay) (a:Act) (w:World),l.length<=m->b.size=ops.size ->
  (∀x∈l,ops[x.1]?=some x.2.1/\b.getD x.1 true=false)->(∀i,i<ops.size->b.getD i true=false->∃x∈l,x.1=i)->(l.map (·.1)).Pairwise (·<·) ->
  (∀i o,ops[i]?=some o->b.getD i false=true->∀e∈edgesOf o,b.getD e false=true) ->
  l.Pairwise (fun x y=>((x.2.2.notZ&&((sK [] ops.toList).getD y.1 0).testBit x.1)||xP (ops.toList.map (·.dst)) x y)=true) ->
  Gw P n0 l s s'->Sim C s L a w->(l≠[]->n0+ops.size<=s.nid)->(∀x∈l,L.box (n0+x.1)=none/\L.own (n0+x.1)=none)->wpAny P .any ops Q m b a w:=by
 intro m
 induction m with
 |zero =>
  intro l b s L a w H hsz d n g J f F S I u
  have hl:l=[]:=kJ Om
  subst hl
  have N:s=s':=F
  subst N
  refine⟨?_,hQ L a w S⟩
  rw[LY]
  intro i hi
  obtain⟨h0,o,ho,_⟩:=mem_ready.1 hi
  obtain⟨x,hx,_⟩:=n i (by have:=(lW.1 ho).1;exact this) h0
  cases hx
 |succ m ih =>
  intro l b s L a w H hsz d n g J f F S I u
  refine⟨fun hno => ?_,fun i hi => ?_⟩
  .
   cases l with
   |nil=>have N:s=s':=F;subst N;exact hQ L a w S
   |cons x r =>
    exfalso
    obtain⟨h1,h2⟩:=d x Aa
    have:x.1∈Region.ready .any ops b:=by
     refine mem_ready.2 ⟨h2,x.2.1,h1,fun e he hb => ?_⟩
     have hlt:=T x.1 x.2.1 h1 e.on (by simp[edgesOf];exact⟨e,⟨by simpa using he,hb⟩,rfl⟩)
     have hx1:x.1<ops.size:=(lW.1 h1).1
     cases hle:b.getD e.on false with
     |true=>rfl
     |false =>
      exfalso
      have W:b.getD e.on true=false:=by grind
      obtain⟨y,c,hye⟩:=n e.on Om W
      rcases fG.1 c with rfl|c
      .omega
      .grind[List.pairwise_cons]
    rw[hno]at this
    cases this
  .obtain⟨h0,o,ho,A⟩:=mem_ready.1 hi
   have U:i<ops.size:=(lW.1 ho).1
   obtain⟨x,hx,rfl⟩:=n i U h0
   obtain⟨l1,l2,rfl⟩:=List.append_of_mem hx
   have hxo:x.2.1=o:=by
    have:=(d x hx).1
    rw[ho]at this
    simpa using this.symm
   have G:∀y∈l1,xP (ops.toList.map (·.dst)) y x=true:=by
    intro y c
    have h1:=(List.pairwise_append.1 f).2.2 y c x Aa
    simp only[LV,lL]at h1
    rcases h1 with⟨_,h1⟩|h1
    .exfalso
     have v:=MP (fun i=>b.getD i false=true) ops.toList [] (fun k j _ h=>by simp at h)
      (fun k o hk hD e he=>J k o (by simpa using hk) (by simpa using hD) e he) x.1 o (by simpa using ho)
      (fun e he=>by
       simp only[edgesOf,dP,Gl]at he
       obtain⟨e',⟨h2,h3⟩,rfl⟩:=he
       exact A e' (by simpa using h2) h3) y.1 (by simpa using h1)
     have h2:=(d y (by simp[c])).2
     have h3:y.1<b.size:=by
      have:=(lW.1 (d y (by simp[c])).1).1;omega
     simp[Array.getD,h3]at v h2
     rw[h2]at v
     cases v
    .exact h1
   obtain⟨s1,lK,M⟩:=adz F G
   rw[hxo]at lK
   have Z:=u x hx
   have K:=I (by intro e;rw[e]at hx;cases hx)
   have E:x.2.2 = .z->l1++l2=[]:=by
    intro R
    have e1:l1=[]:=LY.2 fun y c=>by
     have:=G y c
     simp only[xP,lL]at this
     exact(Nc this.1).2 R
    have e2:l2=[]:=LY.2 fun y c=>by
     have h1:=(uz.1 (List.pairwise_append.1 f).2.1).1 y c
     rw[R]at h1
     simp only[Ka.notZ,nH,Bool.false_or,xP,lL]at h1
     exact(Nc h1.1).1 R
    rw[e1,e2];rfl
   refine asW hT ho (hg o (LU ho)) lK S Om Z (hd o (by rw[<-Array.mem_toList_iff.symm];exact LU ho)) (fun L' a' w' S' hL' => ?_)
   have X:∀y∈l1++l2,y.1≠x.1:=by
    intro y c
    rw[nJ,dm]at g
    have hp:=List.pairwise_append.1 g
    rcases iG.1 c with c|c
    .have:=hp.2.2 y.1 (dP.2 ⟨y,c,rfl⟩) x.1 Aa;omega
    .have:=(uz.1 hp.2.1).1 y.1 (dP.2 ⟨y,c,rfl⟩);omega
   refine ih (l1++l2) (b.setIfInBounds x.1 true) s1 L' a' w' (by simp at H⊢;omega) (by simp[hsz]) ?_ ?_ ?_ ?_ ?_ M S' (fun Y=>by rw[aaB lK (fun R=>Y (E R))];exact K) (fun y c=>by
    have h6:=hL' (fun R=>by rw[E R]at c;cases c) (n0+y.1) (by have:=X y c;omega)
    rw[h6.1,h6.2]
    exact u y (by rcases iG.1 c with h|h<;>simp[h]))
   .intro y c
    obtain⟨h4,h5⟩:=d y (by rcases iG.1 c with h|h<;>simp[h])
    exact⟨h4,by rw[getD_set_ne true (jY (X y c))];exact h5⟩
   .intro j hj q
    by_cases p:j=x.1
    .subst p
     have:x.1<b.size:=Om
     simp[Array.getD,this]at q
    .rw[getD_set_ne true (fun e=>p e.symm)]at q
     obtain⟨y,c,rfl⟩:=n j hj q
     refine⟨y,?_,rfl⟩
     rcases iG.1 c with c|c
     .simp[c]
     .rcases fG.1 c with rfl|c
      .exact absurd rfl p
      .simp[c]
   .exact g.sublist (by simp only[nJ,dm];exact(List.Sublist.refl _).append (List.sublist_cons_self _ _))
   .intro j o' hj q e he
    by_cases p:j=x.1
    .subst p
     rw[ho]at hj
     simp only[aO]at hj
     subst hj
     simp only[edgesOf,dP,Gl]at he
     obtain⟨e',⟨h2,h3⟩,rfl⟩:=he
     exact getD_set_true (A e' (by simpa using h2) h3)
    .rw[getD_set_ne false (fun e=>p e.symm)]at q
     exact getD_set_true (J j o' hj q e he)
   .exact f.sublist ((List.Sublist.refl _).append (List.sublist_cons_self _ _))
end
def GL(d:List (Option Nat))(b:List Nat):List xQ->Bool
 |[]=>true
 |x::r=>(r.all fun y=>(x.2.2.notZ&&(b.getD y.1 0).testBit x.1)||xP d x y)&&GL d b r
def oJ(k:Nat):List Oper->List Ka->List xQ
 |o::os,κ::a=>(k,o,κ)::oJ (k+1) os a
 |_,_=>[]
def qU(ops:List Oper)(k:List Ka):Bool :=
 ops.length == k.length&&(ops.zipIdx.all fun x=>(edgesOf x.1).all fun e=>decide (e<x.2))&&ops.all (fun o=>o.guard.isNone)&&GL (ops.map (·.dst)) (sK [] ops) (oJ 0 ops k)
def mX(P:Program)[Tb P](m:Nat)(f:V)(args:List Operand)(d:Option Nat)(s:St)(K:Ka->St->Prop):Prop :=
 match f with
 | .fn g fs cs=>(∃r,Good P g ((fs++args.map s.ev++cs).map V.erase) r/\ownFree (fs++cs)=true/\noRefs (fs++args.map s.ev++cs)=true/\r.noRef=true/\(ownFree (args.map s.ev)||r.flat)=true/\r.idb<=1/\K .q (s.put d (r.shift m))) \/
   ∃s1 r,GoodZ P g (fs++args.map s.ev++cs) s s1 r/\K .z (s1.put d r)
 |_=>False
def bsA(P:Program)(m t len:Nat)(parts:List (Nat×V)):Option V :=
 (elemT P t).bind fun e=>(tapp P e).bind fun p=>(zelem P e).bind fun v=>(setAll p.1 (List.replicate len v) parts).bind fun xs=>if len*p.1<=16777216 then some (.sl (bsTag len m e) p.1 xs)else none
def oO(r:Option (Ka×St))(K:Ka->St->Prop):Prop:=match r with|some (κ,s')=>K κ s'|none=>False
def jg(P:Program)[Tb P](n0 i:Nat)(s:St)(o:Oper)(K:Ka->St->Prop):Prop :=
 match o.op with
 | .call {callee:=.value f,args,..}=>mX P (n0+i) (s.ev f) args.toList o.dst s K
 | .buildSlice t len parts=>oO ((bsA P (n0+i) t len (parts.toList.map fun p=>(p.1,s.ev p.2))).map fun r=>(.q,s.put o.dst r)) K
 | .call {callee:=.builtin .append,args:=⟨[x,y]⟩,argTypes:=⟨[t,t2]⟩}=>oO ((apA P (n0+i) t t2 (s.ev x) (s.ev y)).map fun r=>(.q,s.put o.dst r)) K
 |_=>oO (stepA P n0 i s o) K
def asn{P:Program}[Tb P]{n0 i:Nat}{s:St}{o:Oper}{K:Ka->St->Prop}(h:jg P n0 i s o K):∃κ s',RA P n0 i s o κ s'/\K κ s':=by
 unfold jg at h;split at h
 .rename_i f args ts ho;unfold mX at h;split at h
  .rename_i g fs cs hf;rcases h with⟨r,h1,h2,h3,h4,h5,b,c⟩|⟨s1,r,h1,h2⟩
   .exact⟨_,_,.call ho hf h1 h2 h3 h4 h5 b,c⟩
   .exact⟨_,_,.z ho hf h1,h2⟩
  .cases h
 .rename_i t len parts ho;unfold oO at h;split at h
  .rename_i κ s' a;simp only[bsA,bF,bg,dh,aO]at a;obtain⟨r,⟨e,he,p,hp,v,hv,xs,hxs,hl,rfl⟩,rfl,rfl⟩:=a;exact⟨_,_,.bs (bytes:=p.2) ho he hp hv hxs hl,h⟩
  .cases h
 .rename_i x y t t2 ho;unfold oO at h;split at h
  .rename_i κ s' a;simp at a;obtain⟨r,a,rfl,rfl⟩:=a;exact⟨_,_,.ap ho a,h⟩
  .cases h
 .unfold oO at h;split at h
  .rename_i κ s' a;exact⟨κ,s',.st a,h⟩
  .cases h
def IM(P:Program)[Tb P](n0:Nat)(ops:List Oper)(K:St->Prop):List Oper->List Ka->Nat->St->Prop
 |[],k,_,s=>qU ops k.reverse=true/\K s
 |o::r,k,i,s=>jg P n0 i s o fun κ s'=>IM P n0 ops K r (κ::k) (i+1) s'
def Ce(P:Program)[Tb P](ops:Array Oper)(K:St->Prop)(s:St):Prop:=IM P s.nid ops.toList K ops.toList [] 0 {s with nid:=s.nid+ops.size}
def VJ(o:Oper):Bool:=match o.op with | .alloc _=>true | .buildSlice _ _ _=>true|_=>false
def okA(o:Oper):Bool:=match o.op with
 | .call {callee:=.builtin .append,args:=⟨[.const (.slice none 0 0),_]⟩,argTypes:=⟨[_,_]⟩}=>o.guard.isNone
 | .call {callee:=.builtin .append,..}=>false
 | .makeSlice _ _ _=>false
 | .slice _ _ _ _ _=>false
 | .box _ _=>false
 |_=>o.guard.isNone
def FW(ops:List Oper):Bool:=decide (1<=(ops.filter VJ).length)&&ops.all okA
def dD(cuts:List Nat):Dw:=⟨fun P _ ops K s=>if FW ops.toList=true then Ce P ops K s else Et P ops K s,cuts,[]⟩
instance (cuts:List Nat):Plain (dD cuts):=⟨rfl⟩
section
variable {P:Program} [Tb P] {dsts:List (Option Nat)} {s s':St} {o:Oper}
theorem ava{n0:Nat}{ops:List Oper}{K:St->Prop}:∀(r:List Oper) (b:List Ka) (k:Nat) (s:St),IM P n0 ops K r b k s ->
  ∃a s',r.length=a.length/\Gw P n0 (oJ k r a) s s'/\qU ops (b.reverse++a)=true/\K s':=by
 intro r
 induction r with
 |nil=>intro b k s h;exact⟨[],s,rfl,rfl,by simpa using h.1,h.2⟩
 |cons o r i =>intro b k s h;obtain⟨κ,s1,d,h⟩:=asn h;obtain⟨a,s',h3,h4,h5,c⟩:=i (κ::b) (k+1) s1 h;exact⟨κ::a,s',by simp[h3],⟨s1,d,h4⟩,by simpa using h5,c⟩
theorem afv:∀(os:List Oper) (a:List Ka) (k:Nat) (x:xQ),x∈oJ k os a->k<=x.1/\os[x.1-k]?=some x.2.1:=by
 intro os
 induction os with
 |nil=>intro a k x h;simp[oJ]at h
 |cons o os i =>
  intro a k x h
  cases a with
  |nil=>simp[oJ]at h
  |cons κ a=>grind[oJ]
theorem afw:∀(os:List Oper) (a:List Ka) (k:Nat),os.length=a.length->(oJ k os a).map (·.1)=List.range' k os.length:=by
 intro os
 induction os with
 |nil=>intro a k h;cases a<;>rfl
 |cons o os i =>
  intro a k h
  cases a with
  |nil=>simp at h
  |cons κ a=>simp[oJ,List.range'_succ];rw[i a (k+1) (by simpa using h)]
theorem adC{b:List Nat}:∀{l:List xQ},GL dsts b l=true->l.Pairwise fun x y=>((x.2.2.notZ&&(b.getD y.1 0).testBit x.1)||xP dsts x y)=true:=by intro l;induction l<;>simp_all[GL]
theorem Jr(hm:P.follows .mixedOrders=true)(id:Nat)(C:Cx)(ops:Array Oper)(Q:Exit->St->Prop)(s:St)(L:Lay)(a:Act)(w:World)(F:C.TOk P)(q:Ig C.n ops.toList=true)(h:Ce P ops (Q .normal) s)(S:Sim C s L a w):(Code.region id ops true).wp P (zH C Q) a w:=by
 unfold Ce at h;obtain⟨u,s',r,v,f,hK⟩:=ava ops.toList [] 0 _ h;simp only[List.reverse_nil,iY,qU,lL]at f;obtain⟨⟨⟨_,y⟩,c⟩,d⟩:=f
 have j:∀n,L.box (s.nid+n)=none:=by
  intro n
  cases hb:L.box (s.nid+n)with
  |none=>rfl
  |some g=>have:=S.wf.nidB _ g hb;omega
 have p:∀n,L.own (s.nid+n)=none:=by
  intro n
  cases hb:L.own (s.nid+n)with
  |none=>rfl
  |some g=>have:=S.wf.nidO _ g hb;omega
 have E:Sim C {s with nid:=s.nid+ops.size} L a {w with drawn:=w.drawn+1}:=by have K:qN L L w w.drew:=⟨rfl,fun g h=>⟨h,.of rfl⟩,fun id e _ g h=>⟨⟨rfl,h⟩,rfl⟩,fun _ _ _ h=>⟨h,.of rfl⟩⟩;exact⟨S.defers,S.size,fun t=>(S.env t).whole K,fun t=>(S.hid t).whole K,fun b cs h=>(S.box b cs h).keep rfl rfl (fun _ k=>⟨k,rfl⟩) (fun _ k=>k.whole K),S.wf.mono (Nat.le_add_right _ _) (az _),S.kp.drew⟩
 have m:=afw ops.toList u 0 (by simpa using r);refine wp_region_any hm (abb (s':=s') F ?_ (Dl q) ?_ (fun L a w A=>⟨s',L,hK,A⟩) ops.size (oJ 0 ops.toList u) (Array.replicate ops.size false) _ L a _ ?_ Aa ?_ ?_ ?_ ?_ (adC d) v E (fun _=>az _) (fun x _=>⟨j x.1,p x.1⟩))
 .intro i o ho e he;have hm:(o,i)∈ops.toList.zipIdx:=by grind
  grind
 .intro o ho;have:=lM.1 c o (by simpa using ho);simp_all
 .have:(oJ 0 ops.toList u).length=ops.size:=by have:=mV List.length m;grind
  omega
 .intro x hx;obtain⟨_,h2⟩:=afv ops.toList u 0 x hx;simp only[Nat.sub_zero,Array.getElem?_toList]at h2;have l:=(lW.1 h2).1;exact⟨h2,by simp[Array.getD,l]⟩
 .intro i hi _;have:i∈(oJ 0 ops.toList u).map (·.1):=by grind
  obtain⟨x,hx,rfl⟩:=dP.1 this;exact⟨x,hx,rfl⟩
 .grind[List.pairwise_lt_range']
 .intro i o ho hl;have l:=(lW.1 ho).1;simp[Array.getD,l]at hl
theorem aeV(cuts:List Nat)(hm:P.follows .mixedOrders=true):nN P (dD cuts):=by
 intro id C ops K Q s L a w d b c h S;subst c;simp[dD]at h;split at h;case isFalse=>exact Es cuts hm id C ops _ Q s L a w d b rfl h S
 grind[Jr]
end
end Go.Pg
end
section
namespace Go.Pg
open Go
section
variable {P:Program} [Tb P]
end
def adt{P:Program}[Tb P]{g:FuncId}{fs cs:List V}{args:List Operand}{d:Option Nat}{s s':St}{K:Kd->St->Prop}{vs:List V}(r:V)(hg:GoodZ P g vs s s' r)(h:fs++args.map s.ev++cs=vs)(hK:K .z (s'.put d r)):eX P (.fn g fs cs) args d s K :=
 .inr (.inl ⟨s',r,by rw[h];exact hg,hK⟩)
section
variable (P:Program) [Tb P]
def alC(n0:Nat)(ops:List Oper)(Q:Exit->St->Prop)(r:List Oper)(k:List Ka)(i:Nat)(s:St):Prop:=IM P n0 ops (Q .normal) r k i s
def alN(n0:Nat)(ops:List Oper)(Q:Exit->St->Prop)(r:List Oper)(k:List Ka)(i:Nat)(κ:Ka)(s:St):Prop:=IM P n0 ops (Q .normal) r (κ::k) (i+1) s
theorem avu(x y:Code)(Q:Exit->St->Prop)(s:St):wpS (dD []) P (.seq x y) Q s=wpS (dD []) P x (nD (dD []) P y Q) s:=by
 have:pI (dD []).cuts (gm y)=false:=by cases h:gm y<;>rfl
 grind[wpS,nD]
def aq4(cuts:List Nat)(x y:Code)(Q:Exit->St->Prop)(s:St):Prop:=wpS (dD cuts) P (.seq x y) Q s
theorem avv(n:Nat)(cuts:List Nat)(x y:Code)(Q:Exit->St->Prop)(s:St):wpS (dD (n::cuts)) P (.seq x y) Q s=bif pI (n::cuts) (gm y)then aq4 P (n::cuts) x y Q s else wpS (dD (n::cuts)) P x (nD (dD (n::cuts)) P y Q) s:=by
 cases h:pI (n::cuts) (gm y)with
 |true=>rfl
 |false=>grind[dD,wpS,nD]
def gJ(b:Bool)(l:List Oper)(Q:Exit->St->Prop)(s:St):Prop:=match b with|true=>alC P s.nid l Q l [] 0 ⟨s.env,s.bx,s.nid+l.length,s.hd⟩|false=>nP P (l.map (·.dst)) l Q l [] s
theorem avi(cuts:List Nat)(id:Nat)(l:List Oper)(Q:Exit->St->Prop)(s:St):wpS (dD cuts) P (.region id l.toArray true) Q s=gJ P (FW l) l Q s:=by grind[wpS,dD,gJ,Ce,alC,Et,nP]
theorem afc(e:Nat->V)(b:BX)(n:Nat)(h:Nat->V)(l:List Oper)(Q:Exit->St->Prop):gJ P true l Q ⟨e,b,n,h⟩=alC P n l Q l [] 0 ⟨e,b,n+l.length,h⟩:=rfl
theorem afb(l:List Oper)(Q:Exit->St->Prop)(s:St):gJ P false l Q s=nP P (l.map (·.dst)) l Q l [] s:=rfl
theorem aaH(n0:Nat)(ops:List Oper)(Q:Exit->St->Prop)(k:List Ka)(i:Nat)(s:St):alC P n0 ops Q [] k i s=(qU ops k.reverse=true/\Q .normal s):=rfl
theorem aaG(n0:Nat)(ops:List Oper)(Q:Exit->St->Prop)(o:Oper)(r:List Oper)(k:List Ka)(i:Nat)(s:St):alC P n0 ops Q (o::r) k i s=jg P n0 i s o (alN P n0 ops Q r k i):=rfl
theorem aaI(n0:Nat)(ops:List Oper)(Q:Exit->St->Prop)(r:List Oper)(k:List Ka)(i:Nat)(κ:Ka)(s:St):alN P n0 ops Q r k i κ s=alC P n0 ops Q r (κ::k) (i+1) s:=rfl
theorem anp(κ:Ka)(s:St)(K:Ka->St->Prop):oO (some (κ,s)) K=K κ s:=rfl
theorem adA{ops:List Oper}{k:List Ka}{q:Prop}(h1:qU ops k=true)(h2:q):qU ops k=true/\q:=⟨h1,h2⟩
section
variable (n0 i:Nat) (s:St) (d:Option Nat) (ty:TypeId) (pos:String) (af:Array Edge) (g:Option (Nat × Bool)) (K:Ka->St->Prop)
def stA(t:TypeId)(x y:V):Option (Ka×St):=match x with | .ref b off=>(oZ P s t b off y).map fun s'=>(.xb b,s'.put d .top)|_=>none
def ldA(t:TypeId)(x:V)(r:Option V):Option (Ka×St):=match x with | .ref b off=>(nV P s t b off).map fun r=>(.rb b,s.put d r)|_=>r.map fun r=>(.q,s.put d r)
def pU(s:St)(d:Option Nat)(r:Option V)(K:Ka->St->Prop):Prop:=match r with|some v=>K .q (s.put d v)|none=>False
theorem anr(s:St)(d:Option Nat)(v:V)(K:Ka->St->Prop):pU s d (some v) K=K .q (s.put d v):=rfl
theorem rM(s:St)(d:Option Nat)(r:Option V)(K:Ka->St->Prop):oO (r.map fun r=>(.q,s.put d r)) K=pU s d r K:=by cases r<;>rfl
theorem aso(t:TypeId)(b off:Nat)(y:V):stA P s d t (.ref b off) y=(oZ P s t b off y).map fun s'=>(.xb b,s'.put d .top):=rfl
def ldS(t:TypeId)(x:V):Option (Ka×V):=match x with | .ref b off=>(nV P s t b off).map fun r=>(.rb b,r) | .el _ _ xs j off=>((xs[j]?).bind fun y=>y.cs.bind fun cs=>jI P t cs off).map fun r=>(.q,r)|_=>none
def Pj(r:Option (Ka×V)):Prop:=match r with|some (κ,v)=>K κ (s.put d v)|none=>False
theorem anq(κ:Ka)(v:V):Pj s d K (some (κ,v))=K κ (s.put d v):=rfl
theorem ak9(t:TypeId)(b off:Nat):ldS P s t (.ref b off)=(nV P s t b off).map fun r=>(.rb b,r):=rfl
theorem ak8(t:TypeId)(a:Tag)(k:Nat)(xs:List V)(j off:Nat):ldS P s t (.el a k xs j off)=((xs[j]?).bind fun y=>y.cs.bind fun cs=>jI P t cs off).map fun r=>(.q,r):=rfl
theorem asv(e:Nat->V)(b:BX)(n:Nat)(h:Nat->V)(t:TypeId):jg P n0 i ⟨e,b,n,h⟩ ⟨d,.alloc t,ty,pos,af,g⟩ K=oO ((tzc P t).map fun l=>(.xb (n0+i),St.put ⟨e,upd b (n0+i) (some (t,l)),n,h⟩ d (.ref (n0+i) 0))) K:=by simp[tzc];rfl
theorem asU(t:TypeId)(x y:Operand):jg P n0 i s ⟨d,.store t x y,ty,pos,af,g⟩ K=oO (stA P s d t (s.ev x) (s.ev y)) K:=rfl
theorem asM(t:TypeId)(x:Operand):jg P n0 i s ⟨d,.load t x,ty,pos,af,g⟩ K=Pj s d K (ldS P s t (s.ev x)):=by
 have e:jg P n0 i s ⟨d,.load t x,ty,pos,af,g⟩ K=oO (ldA P s d t (s.ev x) (qv P s (.load t x))) K:=rfl
 rw[e]
 unfold ldA ldS
 simp only[qv]
 cases s.ev x with
 |ref b off=>cases h:nV P s t b off<;>simp[oO,Pj,h]
 |el a k xs j off =>simp only;generalize((xs[j]?).bind fun y=>y.cs.bind fun cs=>jI P t cs off)=r;cases r<;>rfl
 |_=>rfl
theorem asz(e:Nat->V)(b:BX)(n:Nat)(h:Nat->V)(t:TypeId)(x:Operand):jg P n0 i ⟨e,b,n,h⟩ ⟨d,.box t x,ty,pos,af,g⟩ K=oO (((St.ev ⟨e,b,n,h⟩ x).cs).map fun l=>(.xb (n0+i),St.put ⟨e,upd b (n0+i) (some (t,l)),n,h⟩ d (.ref (n0+i) 0))) K:=rfl
theorem asP(e:Nat->V)(b:BX)(n:Nat)(h:Nat->V)(t:TypeId):jg P n0 i ⟨e,b,n,h⟩ ⟨d,.makeMap t none,ty,pos,af,g⟩ K=oO ((ny P t).map fun _=>(.xb (n0+i),St.put ⟨e,upd b (n0+i) (some (t,mpC 0 [])),n,h⟩ d (.mh false (n0+i)))) K:=rfl
def mhA(x:V)(f:Nat->Option (Ka×St)):Option (Ka×St):=match x with | .mh false b=>f b|_=>none
theorem amd(b:Nat)(f:Nat->Option (Ka×St)):mhA (.mh false b) f=f b:=rfl
theorem asN(t:TypeId)(x k:Operand)(ok:Bool):jg P n0 i s ⟨d,.lookup t x k ok,ty,pos,af,g⟩ K=oO (mhA (s.ev x) fun b=>(lkB P s t b (s.ev k) ok).map fun r=>(.rb b,s.put d r)) K:=rfl
theorem asQ(t:TypeId)(m k x:Operand):jg P n0 i s ⟨d,.mapUpdate t m k x,ty,pos,af,g⟩ K=oO (mhA (s.ev m) fun b=>(rH P s t b (s.ev k) (s.ev x)).map fun s'=>(.xb b,s'.put d .top)) K:=rfl
theorem asR(x:Operand):jg P n0 i s ⟨d,.move x,ty,pos,af,g⟩ K=K .q (s.put d (s.ev x)):=rfl
theorem asx(x:Operand):jg P n0 i s ⟨d,.assign x,ty,pos,af,g⟩ K=K .q (s.put d (s.ev x)):=rfl
theorem asH(t:TypeId)(x:Operand)(f:Nat):jg P n0 i s ⟨d,.fieldAddr t x f,ty,pos,af,g⟩ K=pU s d (faV P t (s.ev x) f) K:=rM _ _ _ _
theorem asG(t:TypeId)(x:Operand)(f:Nat):jg P n0 i s ⟨d,.field t x f,ty,pos,af,g⟩ K=pU s d (EC P t (s.ev x) f) K:=rM _ _ _ _
theorem asJ(t:TypeId)(x y:Operand):jg P n0 i s ⟨d,.index t x y,ty,pos,af,g⟩ K=pU s d (ixV P t (s.ev x) (s.ev y)) K:=rM _ _ _ _
theorem asK(t:TypeId)(x y:Operand):jg P n0 i s ⟨d,.indexAddr t x y,ty,pos,af,g⟩ K=pU s d (iaV P t (s.ev x) (s.ev y)) K:=rM _ _ _ _
theorem asB(t:TypeId)(ps:Array (Nat×Operand)):jg P n0 i s ⟨d,.build t ps,ty,pos,af,g⟩ K=pU s d (BR P t (ps.toList.map fun p=>(p.1,s.ev p.2))) K:=rM _ _ _ _
theorem asy(op:BinOp)(t t2:TypeId)(x y:Operand):jg P n0 i s ⟨d,.binOp op t x y t2,ty,pos,af,g⟩ K=pU s d (qQ P op t (s.ev x) (s.ev y) y) K:=rM _ _ _ _
theorem asV(op:UnOp)(t:TypeId)(x:Operand):jg P n0 i s ⟨d,.unOp op t x,ty,pos,af,g⟩ K=pU s d (unV op (s.ev x)) K:=rM _ _ _ _
theorem asD(t t2:TypeId)(x:Operand):jg P n0 i s ⟨d,.convert t t2 x,ty,pos,af,g⟩ K=pU s d (lZ P t t2 (s.ev x)) K:=rM _ _ _ _
theorem asF(x:Operand)(k:Nat):jg P n0 i s ⟨d,.extract x k,ty,pos,af,g⟩ K=pU s d (exV (s.ev x) k) K:=rM _ _ _ _
theorem asO(f:FuncId)(fs cs:Array Operand):jg P n0 i s ⟨d,.makeFunc (.func f) fs cs,ty,pos,af,g⟩ K=K .q (s.put d (.fn f (fs.toList.map s.ev) (cs.toList.map s.ev))):=rfl
theorem asL(x:Operand)(t:TypeId):jg P n0 i s ⟨d,.call {callee:=.builtin .len,args:=#[x],argTypes:=#[t]},ty,pos,af,g⟩ K=pU s d (rC P t (s.ev x)) K:=rM _ _ _ _
theorem asC(f:Operand)(args:Array Operand)(ts:Array TypeId):jg P n0 i s ⟨d,.call {callee:=.value f,args:=args,argTypes:=ts},ty,pos,af,g⟩ K=mX P (n0+i) (s.ev f) args.toList d s K:=rfl
theorem asA(t:TypeId)(len:Nat)(parts:Array (Nat×Operand)):jg P n0 i s ⟨d,.buildSlice t len parts,ty,pos,af,g⟩ K=pU s d (bsA P (n0+i) t len (parts.toList.map fun p=>(p.1,s.ev p.2))) K:=rM _ _ _ _
theorem asw(x y:Operand)(t t2:TypeId):jg P n0 i s ⟨d,.call {callee:=.builtin .append,args:=#[x,y],argTypes:=#[t,t2]},ty,pos,af,g⟩ K=pU s d (apA P (n0+i) t t2 (s.ev x) (s.ev y)) K:=rM _ _ _ _
theorem abk(m:Nat)(t t2:TypeId)(x y:V):apA P m t t2 x y=(elemT P t).bind fun e=>(tapp P e).bind fun p=>(rQ P t2 p.1 y).bind fun ys=>apN m e p.1 p.2 x ys:=rfl
theorem abA(m el k bytes:Nat)(ys:List V)(hf:Fits ys.length bytes):apN m el k bytes (.c (.slice none 0 0)) ys=some (.sl (.own m el) k ys):=ah hf
theorem adg(m t len:Nat)(parts:List (Nat×V)):bsA P m t len parts=(elemT P t).bind fun e=>(tapp P e).bind fun p=>(zelem P e).bind fun v=>(setAll p.1 (List.replicate len v) parts).bind fun xs=>if len*p.1<=16777216 then some (.sl (bsTag len m e) p.1 xs)else none:=rfl
end
end
def ads{P:Program}[Tb P]{m:Nat}{g:FuncId}{fs cs:List V}{args:List Operand}{d:Option Nat}{s:St}{K:Ka->St->Prop}{vs:List V}(r:V)(hg:Good P g vs r)(h:(fs++args.map s.ev++cs).map V.erase=vs)(a:ownFree (fs++cs)=true)(h1:noRefs (fs++args.map s.ev++cs)=true)
  (h2:r.noRef=true) (h3:(ownFree (args.map s.ev)||r.flat)=true) (h5:r.idb<=1) (hK:K .q (St.put s d (r.shift m))):mX P m (.fn g fs cs) args d s K:=.inl ⟨r,by rw[h];exact hg,a,h1,h2,h3,h5,hK⟩
def lG{P:Program}[Tb P]{e:Nat->V}{b:BX}{n:Nat}{h:Nat->V}{l:List Oper}{Q:Exit->St->Prop}(h1:FW l=true)(h2:alC P n l Q l [] 0 ⟨e,b,n+l.length,h⟩):gJ P (FW l) l Q ⟨e,b,n,h⟩:=by rw[h1];exact h2
def lF{P:Program}[Tb P]{l:List Oper}{Q:Exit->St->Prop}{s:St}(h1:FW l=false)(h2:nP P (l.map (·.dst)) l Q l [] s):gJ P (FW l) l Q s:=by rw[h1];exact h2
theorem abB(m el k bytes a:Nat)(ys:List V)(hf:Fits ys.length bytes):apN m el k bytes (.sl .nn a []) ys=some (.sl (AP ys m el) k ys):=ah hf
def pga:=A8 @abB @asz @asP @amd @asN @asQ @avu @avv (A8 @avi @afc @afb @aaH @aaG @aaI @anp @anr (A8 @anq @aso @ak9 @ak8 @asv @asU @asM @asR (A8 @asx @asH @asG @asJ @asK @asB @asy @asV (A8 @asD @asF @asO @asL @asC @asA @asw @abk (aI @abA @adg)))))
end Go.Pg
end
section
namespace Go.Pg
open Go
def QZ{e e':Nat->V}{bx bx':BX}{n n':Nat}{h:Nat->V}(he:∀t,e' t=e t\/e' t = .top)(hb:∀b,bx' b=bx b\/bx' b=none)(f:n<=n'):Weak ⟨e,bx,n,h⟩ ⟨e',bx',n',h⟩:=by
 intro C L a w S;refine⟨L,S.defers,S.size,fun t => ?_,S.hid,fun b cs d => ?_,S.wf.mono f (az _),S.kp⟩
 .show Rep L w (e' t) _;rcases he t with h1|h1
  .rw[h1];exact S.env t
  .rw[h1];trivial
 .have c:bx' b=some cs:=d;rcases hb b with h1|h1
  .rw[h1]at c;exact S.box b cs c
  .grind
def BK(e:Nat->V):List (Nat×V)->Prop
 |[]=>True
 |(k,v)::r=>e k=v/\BK e r
def lI{e:Nat->V}:∀{X:List (Nat×V)},BK e X->∀t,ja X t=e t\/ja X t = .top:=by
 intro X
 induction X with
 |nil=>intro _ t;exact .inr rfl
 |cons p r i =>rintro⟨h1,h2⟩ t;grind[jQ]
section
variable {ι:Type} {D:Dw} {P:Program} [Tb P]
theorem lw(e:Nat->V):BK e []=True:=rfl
theorem lu(e:Nat->V)(k:Nat)(v:V)(r:List (Nat×V)):BK e ((k,v)::r)=(e k=v/\BK e r):=rfl
end
end Go.Pg
end
section
namespace Go.Pg
open Go
def Tag.gf(n:Nat):Tag->Bool
 | .fz=>false
 | .nn=>false
 | .own i _=>decide (n<=i)
def Fr(n:Nat)(v:V):Prop:=v.any (Tag.gf n) (fun b=>decide (n<=b)) false=false
def FrE(n:Nat)(e:Nat->V):Prop:=∀t,Fr n (e t)
def FrB(n:Nat)(b:BX):Prop:=∀k x,b k=some x->∀v∈x.2,Fr n v
def Jc{p p':Tag->Bool}{q q':Nat->Bool}(hp:∀t,p' t=true->p t=true)(g:∀b,q' b=true->q b=true):(∀v:V,v.any p q false=false->v.any p' q' false=false)/\(∀l,V.anyL p q false l=false->V.anyL p' q' false l=false):=by
 have c:∀t,p t=false->p' t=false:=fun t h=>by grind
 have a:∀t,q t=false->q' t=false:=fun t h=>by grind
 refine V.ind ?_ ?_ ?_ ?_ ?_ ?_ ?_ ?_ ?_ ?_ ?_ ?_ ?_
 .intro v _;rfl
 .intro _;rfl
 .intro t k xs _ h;exact c t h
 .intro i b h;exact a b h
 .intro cs d h;exact d h
 .intro cs d h;exact d h
 .intro b o h;exact a b h
 .intro b be bo f bn h;exact a b h
 .intro t k xs i o _ h;exact c t h
 .grind[V.any]
 .intro h;exact h
 .intro _;rfl
 .grind[V.anyL]
def Yd{n id:Nat}{v:V}(h:Fr n v)(hi:n<=id):aF id v=v:=by
 unfold aF
 have:=(Jc (p:=Tag.gf n) (p':=Tag.is id) (q:=fun b=>decide (n<=b)) (q':=fun _=>false) (fun t a=>by
  cases t with
  |own i e=>simp[Tag.is]at a;simp[Tag.gf];omega
  |_=>simp[Tag.is]at a) (fun b hb=>by cases hb)).1 v h
 simp[V.has,this]
theorem J4{n id:Nat}{e:Nat->V}(h:FrE n e)(hi:n<=id):bD (aF id) e=e:=funext fun t=>Yd (h t) hi
def J3{n id:Nat}{b:BX}(h:FrB n b)(hi:n<=id):df (aF id) b=b:=by
 funext k
 unfold df
 cases hb:b k with
 |none=>rfl
 |some x =>
  simp;refine Prod.ext rfl ?_;conv=>rhs;rw[<-List.map_id x.2]
  exact kN fun v hv=>Yd (h k x hb v hv) hi
theorem FrB.upd{n:Nat}{b:BX}(h:FrB n b)(k:Nat)(x:TypeId×List V)(hx:∀v∈x.2,Fr n v):FrB n (upd b k (some x)):=by
 intro j y a;unfold Go.Pg.upd at a;split at a
 .grind
 .exact h j y a
mutual
def V.cl(n:Nat):V->V
 | .c v => .c v
 | .sl (.own i e) k []=>if n<=i then .c (.slice none 0 0) else .sl (.own i e) k []
 | .sl t k xs => .sl t k xs
 | .agg cs => .agg (V.clL n cs)
 | .tup cs => .tup (V.clL n cs)
 | .ref b off => .ref b off
 | .el t k xs i off => .el t k xs i off
 | .fn f fs cs => .fn f (V.clL n fs) (V.clL n cs)
 | .top => .top
 | .nif => .nif
 | .mh i b => .mh i b
 | .bs b e o k m=>if n<=b/\m=0 then .c (.slice none 0 0) else .bs b e o k m
def V.clL(n:Nat):List V->List V
 | []=>[]
 | x::xs=>V.cl n x::V.clL n xs
end
def Ed(n:Nat)(l:List V):V.clL n l=l.map (V.cl n):=by induction l<;>grind[V.clL]
section
variable {L L':Lay} {w w':World} {n:Nat}
theorem Tq(M:∀id g,L.own id=some g->id<n)(hB:∀b g,L.box b=some g->b<n) :
  (∀v u,Rep L w v u->(Rep L w (V.cl n v) u/\Fr n (V.cl n v))/\∀L' w' c,Rep L' w' (V.cl n v) c->Rep L' w' v c) /\
  (∀l,(∀us,Reps L w l us->(Reps L w (V.clL n l) us/\V.anyL (Tag.gf n) (fun b=>decide (n<=b)) false (V.clL n l)=false)/\∀L' w' p,Reps L' w' (V.clL n l) p->Reps L' w' l p)/\True):=by
 refine V.ind ?_ ?_ ?_ ?_ ?_ ?_ ?_ ?_ ?_ ?_ ?_ ?_ ?_
 .intro v u h;exact⟨⟨h,rfl⟩,fun _ _ _ h=>h⟩
 .intro u h;exact⟨⟨h,rfl⟩,fun _ _ _ h=>h⟩
 .intro t k xs _ u h;have key:∀(y:t.gf n=false),V.cl n (.sl t k xs) = .sl t k xs->(Rep L w (V.cl n (.sl t k xs)) u/\Fr n (V.cl n (.sl t k xs)))/\∀L' w' c,Rep L' w' (V.cl n (.sl t k xs)) c->Rep L' w' (.sl t k xs) c:=by intro y e;rw[e];exact⟨⟨h,y⟩,fun _ _ _ h=>h⟩
  cases t with
  |fz=>exact key rfl (by cases xs<;>rfl)
  |nn=>exact key rfl (by cases xs<;>rfl)
  |own i e =>
   by_cases hi:n<=i
   .obtain⟨a,cap,cells,rfl,h2,h3⟩:=h;rcases h3 with⟨h3,rfl,rfl⟩|⟨g,arr,h3,_⟩
    .have hx:xs=[]:=kJ h3;subst hx;have s:V.cl n (.sl (.own i e) k []) = .c (.slice none 0 0):=by simp[V.cl,hi]
     rw[s];refine⟨⟨rfl,rfl⟩,fun L' w' c E => ?_⟩;exact⟨none,0,[],E,rfl,.inl ⟨rfl,rfl,rfl⟩⟩
    .have:=M i g h3;omega
   .refine key (by simp[Tag.gf];omega) ?_;cases xs with
    |nil=>simp[V.cl,hi]
    |cons x xs=>rfl
 .rintro i b u ⟨g,h1,h2⟩;have:=hB b g h1.1;exact⟨⟨⟨g,h1,h2⟩,by simp[Fr,V.cl,V.any];omega⟩,fun _ _ _ h=>h⟩
 .rintro cs ⟨A,_⟩ u ⟨a,h1,h2⟩;obtain⟨⟨d,i2⟩,m⟩:=A _ h2;exact⟨⟨⟨a,h1,d⟩,i2⟩,fun L' w' c ⟨q,h1',h2'⟩=>⟨q,h1',m L' w' _ h2'⟩⟩
 .rintro cs ⟨A,_⟩ u ⟨a,h1,h2⟩;obtain⟨⟨d,i2⟩,m⟩:=A _ h2;exact⟨⟨⟨a,h1,d⟩,i2⟩,fun L' w' c ⟨q,h1',h2'⟩=>⟨q,h1',m L' w' _ h2'⟩⟩
 .rintro b off u ⟨g,h1,h2⟩;have:=hB b g h1.1;exact⟨⟨⟨g,h1,h2⟩,by simp[Fr,V.cl,V.any];omega⟩,fun _ _ _ h=>h⟩
 .rintro b be bo C bn u h;by_cases hi:n<=b/\bn=0
  .have s:V.cl n (.bs b be bo C bn) = .c (.slice none 0 0):=by simp[V.cl,hi]
   rw[s];obtain⟨_,rfl⟩|⟨g,cap,arr,h1,_⟩:=h
   .exact⟨⟨rfl,rfl⟩,fun L' w' c E=>.inl ⟨hi.2,E⟩⟩
   .have:=hB b g h1;omega
  .have s:V.cl n (.bs b be bo C bn) = .bs b be bo C bn:=by simp only[V.cl,ag hi]
   rw[s];refine⟨⟨h,?_⟩,fun _ _ _ h=>h⟩;obtain⟨N,rfl⟩|⟨g,cap,arr,h1,_⟩:=h
   .simp[Fr,V.any];omega
   .have:=hB b g h1;simp[Fr,V.any];omega
 .rintro t k xs i off _ u ⟨g,o,cells,h1,h2,h3⟩;refine⟨⟨⟨g,o,cells,h1,h2,h3⟩,?_⟩,fun _ _ _ h=>h⟩;cases t with
  |fz=>rfl
  |nn=>exact h3.elim
  |own j e=>have:=M j g h3.1;simp[Fr,V.cl,V.any,Tag.gf];omega
 .rintro f fs cs ⟨F,_⟩ ⟨G,_⟩ u ⟨a,b,h1,h2,h3⟩;obtain⟨⟨d,i2⟩,m⟩:=F _ h2;obtain⟨⟨I,J⟩,K⟩:=G _ h3;refine⟨⟨⟨a,b,h1,d,I⟩,by simp[Fr,V.cl,V.any,i2,J]⟩,fun L' w' c ⟨q,b',h1',h2',h3'⟩ => ?_⟩;exact⟨q,b',h1',m L' w' _ h2',K L' w' _ h3'⟩
 .intro u _;exact⟨⟨trivial,rfl⟩,fun _ _ _ h=>h⟩
 .exact⟨fun us h=>⟨⟨h,rfl⟩,fun _ _ _ h=>h⟩,trivial⟩
 .rintro x xs H ⟨A,_⟩;refine⟨?_,trivial⟩;rintro us ⟨u,r,h1,h2,h3⟩;obtain⟨⟨d,i2⟩,m⟩:=H u h2;obtain⟨⟨I,J⟩,K⟩:=A r h3;refine⟨⟨⟨u,r,h1,d,I⟩,by simp only[V.clL,V.anyL,qh];exact⟨i2,J⟩⟩,fun L' w' p ⟨c,r',h1',h2',h3'⟩ => ?_⟩;exact⟨c,r',h1',m L' w' _ h2',K L' w' _ h3'⟩
end
def Tt(n:Nat):(∀v:V,v.any (Tag.gf n) (fun b=>decide (n<=b)) false=false->V.cl n v=v)/\(∀l,V.anyL (Tag.gf n) (fun b=>decide (n<=b)) false l=false->V.clL n l=l):=by
 refine V.ind ?_ ?_ ?_ ?_ ?_ ?_ ?_ ?_ ?_ ?_ ?_ ?_ ?_
 .intro v _;rfl
 .intro _;rfl
 .intro t k xs _ h;cases t with
  |own i e =>
   have hi:¬n<=i:=by simpa[V.any,Tag.gf]using h
   cases xs with
   |nil=>simp[V.cl,hi]
   |cons x xs=>rfl
  |fz=>cases xs<;>rfl
  |nn=>cases xs<;>rfl
 .intro t m h;rfl
 .intro cs d h;simp only[V.cl];rw[d h]
 .intro cs d h;simp only[V.cl];rw[d h]
 .intro b o h;rfl
 .intro b be bo j bn h;have g:¬n<=b:=by simpa[V.any]using h
  simp[V.cl,g]
 .intro t k xs i o _ h;rfl
 .intro f fs cs a c h;simp only[V.any,qh]at h;simp only[V.cl];rw[a h.1,c h.2]
 .intro h;rfl
 .intro _;rfl
 .intro x xs a c h;simp only[V.anyL,qh]at h;simp only[V.clL];rw[a h.1,c h.2]
end Go.Pg
end
namespace Go.Pg
open Go
theorem Weak.freeze(s:St)(id:Nat):Weak s (s.mapV (frz id)):=by intro C L a w S;exact⟨_,(S.freeze id).1⟩
def alA{D:Dw}{P:Program}[Tb P]{x:Code}{Q:Exit->St->Prop}{e:Nat->V}{bx:BX}{n:Nat}{h:Nat->V}(id:Nat)(H:Aw D P x Q ⟨bD (frz id) e,df (frz id) bx,n,bD (frz id) h⟩):Aw D P x Q ⟨e,bx,n,h⟩:=by obtain⟨I,m,⟨s,c,h1⟩,h2⟩:=H;refine⟨I,m,⟨s,?_,h1⟩,h2⟩;intro C L a w S;obtain⟨L',b⟩:=Weak.freeze ⟨e,bx,n,h⟩ id C L a w S;exact c C L' a w b
def SY{P:Program}[Tb P]{g:FuncId}{args:List Operand}{d:Option Nat}{s:St}{K:Kd->St->Prop}{vs:List V}(ids:List Nat)(r:V)(hg:Good P g vs r)(h:(args.map (s.freezeAll ids).ev).map V.erase=vs)(h1:noRefs (args.map (s.freezeAll ids).ev)=true)
  (h2:r.noRef=true) (h3:(ownFree (args.map (s.freezeAll ids).ev)||r.flat)=true) (hK:K (kc (.fn g [] []::args.map s.ev) ids r) (St.put {s.freezeAll ids with nid:=s.nid+r.idb} d (r.shift s.nid))):eX P (.fn g [] []) args d s K:=by
 refine .inl ⟨ids,r,?_,rfl,?_,h2,?_,hK⟩
 .simpa[h]using hg
 .simpa using h1
 .simpa using h3
end Go.Pg
section
namespace Go.Pg
open Go
section
variable (P:Program) [Tb P] (F:Nat->Bool)
def uM(d:List (Option Nat))(ops:List Oper)(Q:Exit->St->Prop)(r:List Oper)(k:List Kd)(s:St):Prop:=vU P F d ops (Q .normal) r k s
def Ew(d:List (Option Nat))(ops:List Oper)(Q:Exit->St->Prop)(r:List Oper)(k:List Kd)(κ:Kd)(s:St):Prop:=vU P F d ops (Q .normal) r (κ::k) s
def Eu(v:Option V)(a:Bool)(d:List (Option Nat))(ops:List Oper)(Q:Exit->St->Prop)(o:Oper)(r:List Oper)(k:List Kd)(s:St):Prop :=
 match v with|some (.c (.bool b))=>if b=a then aB P s o (Ew P F d ops Q r k)else vU P F d ops (Q .normal) r (.p::k) (s.put o.dst (.c undef))|some (.c _)=>vU P F d ops (Q .normal) r (.p::k) (s.put o.dst (.c undef))|_=>False
theorem avw(x y:Code)(Q:Exit->St->Prop)(s:St):wpS (dF F []) P (.seq x y) Q s=wpS (dF F []) P x (nD (dF F []) P y Q) s:=by
 have:pI (dF F []).cuts (gm y)=false:=by cases h:gm y<;>rfl
 simp[wpS,this];rfl
theorem avj(id:Nat)(l:List Oper)(Q:Exit->St->Prop)(s:St):wpS (dF F []) P (.region id l.toArray true) Q s=uM P F (l.map (·.dst)) l Q l [] s:=by rfl
theorem aeY(d:List (Option Nat))(ops:List Oper)(Q:Exit->St->Prop)(k:List Kd)(s:St):uM P F d ops Q [] k s=(qV ops k.reverse=true/\Q .normal s):=rfl
theorem ae0(a:List (Option Nat))(ops:List Oper)(Q:Exit->St->Prop)(k:List Kd)(s:St)(d:Nat)(op:Op)(ty:TypeId)(pos:String)(b:Array Edge)(r:List Oper) :
  uM P F a ops Q (⟨some d,op,ty,pos,b,none⟩::r) k s=bif F d then iP (mvE P s op) s (some d) (iV s ⟨some d,op,ty, "",#[],none⟩) (Ew P F a ops Q r k)else aB P s ⟨some d,op,ty, "",#[],none⟩ (Ew P F a ops Q r k):=by rfl
theorem aeZ(d:List (Option Nat))(ops:List Oper)(Q:Exit->St->Prop)(k:List Kd)(s:St)(op:Op)(ty:TypeId)(pos:String)(a:Array Edge)(r:List Oper) :
  uM P F d ops Q (⟨none,op,ty,pos,a,none⟩::r) k s=aB P s ⟨none,op,ty, "",#[],none⟩ (Ew P F d ops Q r k):=by rfl
theorem aeX(a:List (Option Nat))(ops:List Oper)(Q:Exit->St->Prop)(k:List Kd)(s:St)(d:Option Nat)(op:Op)(ty:TypeId)(pos:String)(c:Array Edge)(j:Nat)(b:Bool)(r:List Oper) :
  uM P F a ops Q (⟨d,op,ty,pos,c,some (j,b)⟩::r) k s=Eu P F (jT s a j) b a ops Q ⟨d,op,ty, "",#[],none⟩ r k s:=by rfl
theorem ae5(d:List (Option Nat))(ops:List Oper)(Q:Exit->St->Prop)(r:List Oper)(k:List Kd)(κ:Kd)(s:St):Ew P F d ops Q r k κ s=uM P F d ops Q r (κ::k) s:=rfl
theorem ae2(b:Bool)(d:List (Option Nat))(ops:List Oper)(Q:Exit->St->Prop)(o:Oper)(r:List Oper)(k:List Kd)(s:St):Eu P F (some (.c (.bool b))) b d ops Q o r k s=aB P s o (Ew P F d ops Q r k):=by simp[Eu]
theorem ae3(d:List (Option Nat))(ops:List Oper)(Q:Exit->St->Prop)(o:Oper)(r:List Oper)(k:List Kd)(s:St):Eu P F (some (.c (.bool true))) false d ops Q o r k s=uM P F d ops Q r (.p::k) (s.put o.dst (.c undef)):=by rfl
theorem ae1(d:List (Option Nat))(ops:List Oper)(Q:Exit->St->Prop)(o:Oper)(r:List Oper)(k:List Kd)(s:St):Eu P F (some (.c (.bool false))) true d ops Q o r k s=uM P F d ops Q r (.p::k) (s.put o.dst (.c undef)):=by rfl
theorem ae4(a:Bool)(d:List (Option Nat))(ops:List Oper)(Q:Exit->St->Prop)(o:Oper)(r:List Oper)(k:List Kd)(s:St):Eu P F (some (.c undef)) a d ops Q o r k s=uM P F d ops Q r (.p::k) (s.put o.dst (.c undef)):=rfl
theorem ams(s:St)(t n:Nat)(parts:Array (Nat×Operand)):mvE P s (.buildSlice t n parts)=mvS P t n (parts.toList.map fun p=>(p.1,s.ev p.2)):=rfl
theorem amv(t len:Nat)(parts:List (Nat×V)):mvS P t len parts=(elemT P t).bind fun e=>(tapp P e).bind fun p=>(zelem P e).bind fun z=>(setAll p.1 (List.replicate len z) parts).bind fun xs=>if len*p.1<=16777216 then some (.sl .fz p.1 xs)else none:=rfl
theorem ano(s:St)(d:Option Nat)(t n:Nat)(parts:Array (Nat×Operand))(ty:TypeId)(pos:String)(a:Array Edge)(g:Option (Nat×Bool)):iV s ⟨d,.buildSlice t n parts,ty,pos,a,g⟩=parts.toList.map fun p=>s.ev p.2:=by simp[iV,Op.operands]
end
def pgF:=A8 @avw @avj @aeY @ae0 @aeZ @aeX @ae5 @ae2 (Ah @ae3 @ae1 @ae4 @ams @amv @ano @cond_true.{1} @cond_false.{1})
end Go.Pg
end
