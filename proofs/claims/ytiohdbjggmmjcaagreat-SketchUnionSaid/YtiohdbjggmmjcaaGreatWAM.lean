/-
  Merged texts.
-/
import Derived.Handy
import Derived.KernelRfl
import Derived.Test.YtiohdbjggmmjcaaGreatWAL
import Derived.IntWalk
set_option linter.unusedVariables false
set_option linter.unusedSimpArgs false
set_option linter.unusedSectionVars false
set_option linter.defProp false
set_option maxRecDepth 100000
set_option maxHeartbeats 8000000
section
namespace Go.Pg
open Go
theorem IJ(k:IntKind)(n:Int):fJ (.int k n) = .c (.int k n):=rfl
theorem EQ(b:Bool):fJ (.bool b) = .c (.bool b):=rfl
theorem Bg(z:ByteArray):fJ (.string z) = .c (.string z):=rfl
theorem Di(a:Option Addr)(n c:Nat):fJ (.slice a n c) = .c (.slice a n c):=rfl
theorem zu(a:Option Addr):fJ (.pointer a) = .c (.pointer a):=rfl
theorem IK(l:List Value):fJ (.agg l.toArray) = .agg (l.map .c):=by simp [fJ]
theorem VC(l:List V):Hy l=⟨qJ l 0,fun _=>none,0,fun _ => .top⟩:=rfl
theorem QB(k:Nat):qJ [] k=fun _ => .top:=rfl
theorem Lj(x:V)(xs:List V)(k:Nat):qJ (x::xs) k=upd (qJ xs (k+1)) k x:=rfl
theorem VD(k:IntKind)(n:Int):V.cs (.c (.int k n))=some [.c (.int k n)]:=rfl
theorem QC(b:Bool):V.cs (.c (.bool b))=some [.c (.bool b)]:=rfl
theorem IL(z:ByteArray):V.cs (.c (.string z))=some [.c (.string z)]:=rfl
theorem Lm(a:Option Addr)(n c:Nat):V.cs (.c (.slice a n c))=some [.c (.slice a n c)]:=rfl
theorem adC(l:List V):V.cs (.agg l)=some l:=rfl
theorem afE(t:Tag)(k:Nat)(xs:List V):V.cs (.sl t k xs)=some [.sl t k xs]:=rfl
theorem adD(b o:Nat):V.cs (.ref b o)=some [.ref b o]:=rfl
theorem afF(f:FuncId)(x y:List V):V.cs (.fn f x y)=some [.fn f x y]:=rfl
theorem QD(k:IntKind)(n:Int):V.one (.c (.int k n))=true:=rfl
theorem Lp(b:Bool):V.one (.c (.bool b))=true:=rfl
theorem ER(z:ByteArray):V.one (.c (.string z))=true:=rfl
theorem IM(a:Option Addr)(n c:Nat):V.one (.c (.slice a n c))=true:=rfl
theorem adE(t:Tag)(k:Nat)(xs:List V):V.one (.sl t k xs)=true:=rfl
theorem aac(b o:Nat):V.one (.ref b o)=true:=rfl
theorem adF(f:FuncId)(x y:List V):V.one (.fn f x y)=true:=rfl
theorem adG(v:Value):V.free (.c v)=true:=rfl
theorem aad(k:Nat)(xs:List V):V.free (.sl .fz k xs)=true:=rfl
theorem VE(l:List V):V.free (.agg l) = !V.anyL Tag.isOwn (fun _=>true) true l:=rfl
theorem VF(p:Tag→Bool)(q:Nat→Bool)(tp:Bool):V.anyL p q tp []=false:=rfl
theorem aae(p:Tag→Bool)(q:Nat→Bool)(tp:Bool)(x:V)(xs:List V):V.anyL p q tp (x::xs)=(V.any p q tp x||V.anyL p q tp xs):=rfl
theorem afG(p:Tag→Bool)(q:Nat→Bool)(tp:Bool)(v:Value):V.any p q tp (.c v)=false:=rfl
theorem adH(p:Tag→Bool)(q:Nat→Bool)(tp:Bool)(t:Tag)(k:Nat)(xs:List V):V.any p q tp (.sl t k xs)=p t:=rfl
theorem aaf(p:Tag→Bool)(q:Nat→Bool)(tp:Bool)(l:List V):V.any p q tp (.agg l)=V.anyL p q tp l:=rfl
theorem aag(p:Tag→Bool)(q:Nat→Bool)(tp:Bool)(l:List V):V.any p q tp (.tup l)=V.anyL p q tp l:=rfl
theorem zL(p:Tag→Bool)(q:Nat→Bool)(tp:Bool)(b o:Nat):V.any p q tp (.ref b o)=q b:=rfl
theorem adI(p:Tag→Bool)(q:Nat→Bool)(tp:Bool)(t:Tag)(k:Nat)(xs:List V)(i o:Nat):V.any p q tp (.el t k xs i o)=p t:=rfl
theorem adJ(p:Tag→Bool)(q:Nat→Bool)(tp:Bool)(f:FuncId)(x y:List V):V.any p q tp (.fn f x y)=(V.anyL p q tp x||V.anyL p q tp y):=rfl
theorem aah(p:Tag→Bool)(q:Nat→Bool)(tp:Bool):V.any p q tp .top=tp:=rfl
theorem VG(τ:Tag→Tag)(ρ:Nat→Nat):V.mapL τ ρ []=[]:=rfl
theorem aai(τ:Tag→Tag)(ρ:Nat→Nat)(x:V)(xs:List V):V.mapL τ ρ (x::xs)=V.map τ ρ x::V.mapL τ ρ xs:=rfl
theorem afH(τ:Tag→Tag)(ρ:Nat→Nat)(v:Value):V.map τ ρ (.c v) = .c v:=rfl
theorem adK(τ:Tag→Tag)(ρ:Nat→Nat)(t:Tag)(k:Nat)(xs:List V):V.map τ ρ (.sl t k xs) = .sl (τ t) k xs:=rfl
theorem aaj(τ:Tag→Tag)(ρ:Nat→Nat)(l:List V):V.map τ ρ (.agg l) = .agg (V.mapL τ ρ l):=rfl
theorem aak(τ:Tag→Tag)(ρ:Nat→Nat)(l:List V):V.map τ ρ (.tup l) = .tup (V.mapL τ ρ l):=rfl
theorem aal(τ:Tag→Tag)(ρ:Nat→Nat)(b o:Nat):V.map τ ρ (.ref b o) = .ref (ρ b) o:=rfl
theorem adM(τ:Tag→Tag)(ρ:Nat→Nat)(t:Tag)(k:Nat)(xs:List V)(i o:Nat):V.map τ ρ (.el t k xs i o) = .el (τ t) k xs i o:=rfl
theorem adN(τ:Tag→Tag)(ρ:Nat→Nat)(f:FuncId)(x y:List V):V.map τ ρ (.fn f x y) = .fn f (V.mapL τ ρ x) (V.mapL τ ρ y):=rfl
theorem aam(τ:Tag→Tag)(ρ:Nat→Nat):V.map τ ρ .top = .top:=rfl
theorem adO(i j:Nat)(e:TypeId):Tag.is i (.own j e)=(j == i):=rfl
theorem afI(i:Nat):Tag.is i .fz=false:=rfl
theorem afJ(i:Nat):Tag.is i .nn=false:=rfl
theorem VH:Tag.isOwn .nn=true:=rfl
theorem VI(l:List Nat):Tag.notIn l .nn=false:=rfl
theorem aan(l:List Nat):nz l .nn = .nn:=rfl
theorem VJ(n:Nat)(k:Nat)(xs:List V):V.shift n (.sl .nn k xs) = .sl .nn k xs:=rfl
theorem adP(k:Nat)(xs:List V):V.idb (.sl .nn k xs)=0:=rfl
theorem aao(k:Nat)(xs:List V):V.flat (.sl .nn k xs)=V.flatL xs:=rfl
theorem QE(j:Nat)(e:TypeId):Tag.isOwn (.own j e)=true:=rfl
theorem VK:Tag.isOwn .fz=false:=rfl
theorem QF(l:List Nat)(i:Nat)(e:TypeId):Tag.notIn l (.own i e) = !l.contains i:=rfl
theorem VL(l:List Nat):Tag.notIn l .fz=false:=rfl
theorem VM(l:List Nat)(i:Nat)(e:TypeId):nz l (.own i e) = .own (l.idxOf i) e:=rfl
theorem aap(l:List Nat):nz l .fz = .fz:=rfl
theorem VN(v:V):v.erase=v.map (fun _ => .fz) id:=rfl
theorem aaq(n:Nat)(v:Value):V.shift n (.c v) = .c v:=rfl
theorem QG(n id:Nat)(e:TypeId)(k:Nat)(xs:List V):V.shift n (.sl (.own id e) k xs) = .sl (.own (id+n) e) k xs:=rfl
theorem VO(n:Nat)(k:Nat)(xs:List V):V.shift n (.sl .fz k xs) = .sl .fz k xs:=rfl
theorem Lr(n:Nat)(l:List V):V.mapL (fun t=>match t with | .fz => .fz | .nn => .nn | .own id e => .own (id+n) e) id l=l.map (V.shift n):=vw _ _ _
theorem QH(n:Nat)(l:List V):V.shift n (.agg l) = .agg (l.map (V.shift n)):=by rw[←Lr];rfl
theorem QI(n:Nat)(l:List V):V.shift n (.tup l) = .tup (l.map (V.shift n)):=by rw[←Lr];rfl
theorem afK(v:Value):V.idb (.c v)=0:=rfl
theorem aar(id:Nat)(e:TypeId)(k:Nat)(xs:List V):V.idb (.sl (.own id e) k xs)=id+1:=rfl
theorem adQ(k:Nat)(xs:List V):V.idb (.sl .fz k xs)=0:=rfl
theorem aas(l:List V):V.idb (.agg l)=V.idbL l:=rfl
theorem aat(l:List V):V.idb (.tup l)=V.idbL l:=rfl
theorem VP:V.idbL []=0:=rfl
theorem QJ(x:V)(xs:List V):V.idbL (x::xs)=max (V.idb x) (V.idbL xs):=rfl
theorem adR(v:Value):V.flat (.c v)=true:=rfl
theorem VQ(id:Nat)(e:TypeId)(k:Nat)(xs:List V):V.flat (.sl (.own id e) k xs)=V.flatL xs:=rfl
theorem aau(k:Nat)(xs:List V):V.flat (.sl .fz k xs)=false:=rfl
theorem VR(l:List V):V.flat (.agg l)=V.flatL l:=rfl
theorem VS(l:List V):V.flat (.tup l)=V.flatL l:=rfl
theorem QK:V.flatL []=true:=rfl
theorem Ls(x:V)(xs:List V):V.flatL (x::xs)=(V.flat x&&V.flatL xs):=rfl
theorem ES(l l':List V):V.flatL (l++l')=(V.flatL l&&V.flatL l'):=by
 induction l with
 | nil=>rfl
 | cons x xs ih=>simp [V.flatL,ih,Bool.and_assoc]
theorem VT(v:V):v.noRef = !v.any (fun _=>false) (fun _=>true) false:=rfl
theorem Lt(l:List V):ownFree l = !V.anyL Tag.isOwn (fun _=>false) false l:=rfl
theorem QL(l:List V):noRefs l = !V.anyL (fun _=>false) (fun _=>true) false l:=rfl
theorem Dj(s:St):s.freezeAll []=s:=rfl
def dX(ψ:V→V)(e:Nat→V):Nat→V:=fun t=>ψ (e t)
def mapB(ψ:V→V)(b:Bxx):Bxx:=fun x=>(b x).map fun y=>(y.1,y.2.map ψ)
theorem adS(P:Program)(s:St)(d:Option Nat)(t t2:TypeId)(u v:Value)(K:Kd→St→Prop):apZ P s d t t2 (.c u) (.c v) K=False:=rfl
theorem adT(P:Program)(s:St)(d:Option Nat)(t t2:TypeId)(u:Value)(tg:Tag)(k:Nat)(xs:List V)(K:Kd→St→Prop):apZ P s d t t2 (.c u) (.sl tg k xs) K=False:=rfl
theorem adU(P:Program)(s:St)(d:Option Nat)(t t2:TypeId)(v:Value)(tg:Tag)(k:Nat)(xs:List V)(K:Kd→St→Prop):apZ P s d t t2 (.sl tg k xs) (.c v) K=False:=rfl
theorem adV(P:Program)(s:St)(d:Option Nat)(t t2:TypeId)(tg tg':Tag)(k k':Nat)(xs ys:List V)(K:Kd→St→Prop):apZ P s d t t2 (.sl tg k xs) (.sl tg' k' ys) K=False:=rfl
theorem afL(P:Program)(s:St)(d:Option Nat)(t t2:TypeId)(b:Nat)(e:TypeId)(o k n:Nat)(y:V)(K:Kd→St→Prop):apZ P s d t t2 (.bs b e o k n) y K=iq (kD P s t t2 (.bs b e o k n) y) d .z K:=rfl
theorem adW(P:Program)(s:St)(d:Option Nat)(t t2:TypeId)(u:Value)(b:Nat)(e:TypeId)(o k n:Nat)(K:Kd→St→Prop):apZ P s d t t2 (.c u) (.bs b e o k n) K=iq (kD P s t t2 (.c u) (.bs b e o k n)) d .z K:=rfl
theorem afM(P:Program)[Tb P](s:St)(d:Option Nat)(t:TypeId)(n:Nat)(parts:List (Nat × V))(ids:List Nat)(K:Kd→St→Prop):bsZ P s d t n parts ids K=match Hr P t with|true=>iq (DT P s t n parts) d .z K|false=>bsF P s d t n parts ids K:=rfl
theorem aav(P:Program)[Tb P](t:TypeId):Hr P t=match elemT P t with|some e=>Tb.nest P e|none=>false:=rfl
theorem afN(P:Program)[Tb P](s:St)(d:Option Nat)(t:TypeId)(id:Nat)(e:TypeId)(k:Nat)(xs:List V)(i off:Nat)(y:V)(K:Kd→St→Prop):stZ P s d t id e k xs i off y K=match Tb.nest P e with|true=>iq ((tV P s t id e k xs i off y).map fun s'=>(.top,s')) d .z K|false=>stF P s d t (.el (.own id e) k xs i off) y y.ids K:=rfl
theorem aaw(ψ:V→V)(e:Nat→V)(t:Nat):dX ψ e t=ψ (e t):=rfl
theorem iG(ψ:V→V)(b:Bxx)(x:Nat):mapB ψ b x=(b x).map fun y=>(y.1,y.2.map ψ):=rfl
theorem QM(ψ:V→V):mapB ψ (fun _=>none)=fun _=>none:=rfl
theorem aax(e:Nat→V)(b:Bxx)(n:Nat)(h:Nat→V)(ψ:V→V):St.mapV ⟨e,b,n,h⟩ ψ=⟨dX ψ e,mapB ψ b,n,dX ψ h⟩:=rfl
theorem QN(id:Nat)(v:V):aJ id v=if v.has id then .top else v:=rfl
theorem adX(id:Nat)(v:V):v.has id=v.any (Tag.is id) (fun _=>false) false:=rfl
theorem oZ(id:Nat)(v:V):frz id v=v.map (fun t=>if t.is id then .fz else t) _root_.id:=rfl
theorem adY(P:Program)(t:TypeId)(tg:Tag)(k:Nat)(xs:List V)(ik:IntKind)(n:Int):iaV P t (.sl tg k xs) (.c (.int ik n))=if (elemT P t).bind (tsz P)=some k∧0≤n∧n<xs.length then some (.el tg k xs n.toNat 0) else none:=rfl
theorem aay(P:Program)(t:TypeId)(tg:Tag)(k:Nat)(xs:List V):Ej P t (.sl tg k xs)=if (elemT P t).isSome then some (.c (.int .i64 xs.length)) else none:=rfl
theorem VU(P:Program)(t:TypeId)(n c:Nat):Ej P t (.c (.slice none n c))=if (elemT P t).isSome then some (.c (.int .i64 n)) else none:=rfl
theorem VV(P:Program)(t:TypeId)(z:ByteArray):Ej P t (.c (.string z))=if gy P t then some (.c (.int .i64 z.size)) else none:=rfl
theorem QO(P:Program)[Tb P](s:St)(d:Option Nat)(t:TypeId)(b off:Nat)(K:Kd→St→Prop):Om P s d t (.ref b off) K=xu (lH P s t b off) s d K:=rfl
theorem VW(P:Program)(s:St)(d:Option Nat)(t:TypeId)(tg:Tag)(k:Nat)(xs:List V)(i off:Nat)(K:Kd→St→Prop):Om P s d t (.el tg k xs i off) K=kz ((xs[i]?).bind fun y=>y.cs.bind fun cs=>dY P t cs off) s d [.el tg k xs i off] K:=rfl
theorem vY(P:Program)(s:St)(d:Option Nat)(src dst:TypeId)(x:V)(K:Kd→St→Prop):Bc P s d src dst x K=(kz (kW P src dst x) s d [x] K∨xu (jg P s src dst x) s d K∨iq ((jG P src dst x).map fun r=>(r,s)) d .x K∨iq (mZ P s src dst x) d .z K):=rfl
theorem ET(P:Program)(src dst:TypeId)(k':IntKind)(n:Int):jG P src dst (.c (.int k' n))=none:=rfl
theorem VX(P:Program)(s:St)(src dst:TypeId)(v:Value):mZ P s src dst (.c v)=none:=rfl
theorem QP(P:Program)(s:St)(d:Option Nat)(src dst:TypeId)(k:IntKind)(n:Int)(K:Kd→St→Prop):Bc P s d src dst (.c (.int k n)) K=kz (kW P src dst (.c (.int k n))) s d [.c (.int k n)] K:=by
 rw[vY]
 have h1:(jG P src dst (.c (.int k n))).map (fun r=>(r,s))=none:=rfl
 have h2:mZ P s src dst (.c (.int k n))=none:=rfl
 have h3:jg P s src dst (.c (.int k n))=none:=rfl
 rw[h1,h2,h3]
 simp only[aP,bC,or_false]
theorem aaz(l:List V)(i:Nat):exV (.tup l) i=l[i]?:=rfl
theorem QQ(P:Program)(s:St)(d:Option Nat)(t:TypeId)(k:Nat)(xs:List V)(lo hi:Option V)(l:List V)(K:Kd→St→Prop):uM P s d t (.sl .fz k xs) lo hi l K=kz (slV P t (.sl .fz k xs) lo hi) s d l K:=rfl
theorem VY(P:Program)(s:St)(d:Option Nat)(t:TypeId)(v:Value)(lo hi:Option V)(l:List V)(K:Kd→St→Prop):uM P s d t (.c v) lo hi l K=kz (slV P t (.c v) lo hi) s d l K:=rfl
theorem Lu(P:Program)(s:St)(d:Option Nat)(t:TypeId)(id:Nat)(e:TypeId)(k:Nat)(xs:List V)(lo hi:Option V)(l:List V)(K:Kd→St→Prop):uM P s d t (.sl (.own id e) k xs) lo hi l K=if lo.all isC&&hi.all isC then iq (lI P s t id k xs lo hi) d .z K else False:=rfl
theorem EU(P:Program)(t:TypeId)(k:Nat)(xs:List V)(lo hi:Option V):slV P t (.sl .fz k xs) lo hi=(bdV lo 0).bind fun l=>(bdV hi xs.length).bind fun h=>if (elemT P t).bind (tsz P)=some k∧0≤l∧l≤h∧h≤xs.length then some (.sl .fz k ((xs.take h.toNat).drop l.toNat)) else none:=rfl
theorem aaA(P:Program)(t:TypeId)(z:ByteArray)(lo hi:Option V):slV P t (.c (.string z)) lo hi=(bdV lo 0).bind fun l=>(bdV hi z.size).bind fun h=>if gy P t=true∧0≤l∧l≤h∧h≤z.size then some (.c (.string (z.extract l.toNat h.toNat))) else none:=rfl
theorem VZ(n:Nat):bdV none n=some (n:Int):=rfl
theorem aaB(k:IntKind)(i:Int)(n:Nat):bdV (some (.c (.int k i))) n=some i:=rfl
theorem aaC(P:Program)(t:TypeId)(k:Nat)(tg:Tag)(k':Nat)(ys:List V):vH P t k (.sl tg k' ys)=if k'=k∧(elemT P t).isSome then some ys else none:=rfl
theorem V3(P:Program)(t:TypeId)(k n:Nat):vH P t k (.c (.slice none 0 n))=if (elemT P t).isSome then some [] else none:=rfl
theorem V4(P:Program)(t:TypeId)(k:Nat)(z:ByteArray):vH P t k (.c (.string z))=if k=1∧gy P t=true then some (qi z) else none:=rfl
theorem ah{P:Program}[Tb P]{g:FuncId}{args:List Operand}{d:Option Nat}{s:St}{K:Kd→St→Prop}{vs:List V}(r:V)(hg:Good P g vs r)(hvs:(args.map s.ev).map V.erase=vs)(h1:noRefs (args.map s.ev)=true)
  (h2:r.noRef=true) (h3:(ownFree (args.map s.ev)||r.flat)=true) (hK:K (kc (.fn g [] []::args.map s.ev) [] r) (St.put { s with nid:=s.nid+r.idb } d (r.shift s.nid))):bU P (.fn g [] []) args d s K:=by
 refine .inl ⟨[],r, ?_,rfl, ?_,h2, ?_,hK⟩
 ·simpa [St.freezeAll,hvs] using hg
 ·simpa [St.freezeAll] using h1
 ·simpa [St.freezeAll] using h3
section
variable (P:Program) (op:BinOp) (t:TypeId) (x y:V)
theorem V5(n:Nat):xm P op t x y (.tmp n)=eX P op t x y:=rfl
theorem V6(k:IntKind)(n:Int):xm P op t x y (.const (.int k n))=eX P op t x y:=rfl
theorem V7(z:ByteArray):xm P op t x y (.const (.string z))=eX P op t x y:=rfl
theorem QR(b:Bool):xm P op t x y (.const (.bool b))=eX P op t x y:=rfl
theorem aaD(a:Option Addr)(n c:Nat):xm P op t x y (.const (.slice a n c))=eX P op t x y:=rfl
theorem V8(a:Option Addr):xm P op t x y (.const (.pointer a))=eX P op t x y:=rfl
theorem V9(a:Array Value):xm P op t x y (.const (.agg a))=eX P op t x y:=rfl
theorem We:xm P op t x y (.const .nilIface)=uF P op t x:=rfl
theorem Wh(h:qI P t=true):uF P .eql t (.c .nilIface)=some (.c (.bool true)):=if_pos h
theorem Wi(h:qI P t=true):uF P .neq t (.c .nilIface)=some (.c (.bool false)):=if_pos h
theorem aaE(a:TypeId)(v:Value)(h:qI P t=true):uF P .eql t (.c (.iface a v))=some (.c (.bool false)):=if_pos h
theorem aaF(a:TypeId)(v:Value)(h:qI P t=true):uF P .neq t (.c (.iface a v))=some (.c (.bool true)):=if_pos h
theorem aaG:fJ .nilIface = .c .nilIface:=rfl
end
def pgs :=
 aI @V5 (aI @V6 (aI @V7 (aI @QR (aI @aaD (aI @V8 (aI @V9 (aI @We (aI @Wh (aI @Wi (aI @aaE (aI @aaF (aI @aaG (aI @Nh ( aI @uN ( aI @adz ( aI @UV ( aI @ZQ ( aI @P7 ( aI @adA ( aI @ZR ( aI @eQ ( aI @bK ( aI @P9 ( aI @aP ( aI @P8 ( aI @bC ( aI @Vd ( aI @La ( aI @Lc ( aI @Z7 ( aI @Lu ( aI @KG ( aI @EK ( aI @Ip ( aI @KH ( aI @Df ( aI @Iq ( aI @Ir ( aI @JZ ( aI @zo ( aI @Ba ( aI @Iu ( aI @Iw ( aI @Qb ( aI @xE ( aI @zq ( aI @KI ( aI @Dh ( aI @acP ( aI @Iy ( aI @Iz ( aI @Qc ( aI @Qd ( aI @Qe ( aI @EM ( aI @Bd ( aI @KL ( aI @U0 ( aI @ZX ( aI @U1 ( aI @Qh ( aI @ZY ( aI @U2 ( aI @IA ( aI @U3 ( aI @KN ( aI @Qi ( aI @Qj ( aI @Qk ( aI @U4 ( aI @Ql ( aI @KO ( aI @Qm ( aI @KP ( aI @KQ ( aI @U5 ( aI @Qn ( aI @Qo ( aI @IB ( aI @U6 ( aI @Qp ( aI @U7 ( aI @KR ( aI @U8 ( aI @EN ( aI @Qq ( aI @KT ( aI @KU ( aI @Z4 ( aI @U9 ( aI @EO ( aI @Qr ( aI @KW ( aI @Bf ( aI @yU ( aI @Va ( aI @KX ( aI @KY ( aI @Vb ( aI @Qw ( aI @Vf ( aI @Vg ( aI @Vh ( aI @Vl ( aI @aab ( aI @Vm ( aI @IE ( aI @Vo ( aI @Vp ( aI @Vq ( aI @Vr ( aI @Vs ( aI @Vt ( aI @Vx ( aI @Vy ( aI @Vz ( aI @VA ( aI @Qx ( aI @Qy ( aI @Qz ( aI @QA ( aI @IG ( aI @Lh ( aI @II ( aI @VB ( aI @IJ ( aI @EQ ( aI @Bg ( aI @Di ( aI @zu ( aI @IK ( aI @VC ( aI @QB ( aI @Lj ( aI @VD ( aI @QC ( aI @IL ( aI @Lm ( aI @adC ( aI @afE ( aI @adD ( aI @afF ( aI @QD ( aI @Lp ( aI @ER ( aI @IM ( aI @adE ( aI @aac ( aI @adF ( aI @adG ( aI @aad ( aI @VE ( aI @VF ( aI @aae ( aI @afG ( aI @adH ( aI @aaf ( aI @aag ( aI @zL ( aI @adI ( aI @adJ ( aI @aah ( aI @VG ( aI @aai ( aI @afH ( aI @adK ( aI @aaj ( aI @aak ( aI @aal ( aI @adM ( aI @adN ( aI @aam ( aI @adO ( aI @afI ( aI @QE ( aI @VK ( aI @QF ( aI @VL ( aI @VM ( aI @aap ( aI @VN ( aI @aaq ( aI @QG ( aI @VO ( aI @Lr ( aI @QH ( aI @QI ( aI @afK ( aI @aar ( aI @adQ ( aI @aas ( aI @aat ( aI @VP ( aI @QJ ( aI @adR ( aI @VQ ( aI @aau ( aI @VR ( aI @VS ( aI @QK ( aI @Ls ( aI @ES ( aI @VT ( aI @Lt ( aI @QL ( aI @Dj ( aI @aax ( aI @aaw ( aI @iG ( aI @QM ( aI @QN ( aI @adX ( aI @oZ ( aI @aay ( aI @VU ( aI @VV ( aI @QO ( aI @VW ( aI @QP ( aI @ET ( aI @VX ( aI @aaz ( aI @QQ ( aI @VY ( aI @VZ ( aI @aaB ( aI @aaC ( aI @V3 ( aI @adS (aI @adT (aI @adU (aI @adV (aI @afL (aI @adW (aI @afM (aI @aav (aI @afN @V4)))))))))))))))))))))))))))))))))))))))))))))))))))))))))))))))))))))))))))))))))))))))))))))))))))))))))))))))))))))))))))))))))))))))))))))))))))))))))))))))))))))))))))))))))))))))))))))))))))))))))))))))))))))))))))))))))))))))))))))
def pgl :=
 aI @Option.bind_some.{0,0} ( aI @Option.bind_none.{0,0} ( aI @Option.map_some.{0,0} ( aI @Option.map_none.{0,0} ( aI @Option.isSome_some.{0} ( aI @Option.all_none.{0} ( aI @Option.all_some.{0} ( aI @Option.getD_some.{0} ( aI @List.map_cons.{0,0} ( aI @List.map_nil.{0,0} ( aI @List.length_cons.{0} ( aI @List.length_nil.{0} ( aI @List.set_cons_zero.{0} ( aI @List.set_cons_succ.{0} ( aI @List.getElem?_cons_zero.{0} ( aI @List.getElem?_cons_succ.{0} ( aI @List.all_cons.{0} ( aI @List.all_nil.{0} ( aI @List.replicate_succ.{0} ( aI @List.replicate_zero.{0} ( aI @List.cons_append.{0} ( aI @List.nil_append.{0} ( aI @List.append_nil.{0} ( aI @List.take_zero.{0} ( aI @List.take_succ_cons.{0} ( aI @List.drop_zero.{0} ( aI @List.drop_succ_cons.{0} ( aI @List.drop_nil.{0} ( aI @List.take_nil.{0} ( aI @Bool.and_true ( aI @Bool.true_and ( aI @Bool.and_false ( aI @Bool.false_and ( aI @Bool.or_true ( aI @Bool.or_false ( aI @Bool.true_or ( aI @Bool.false_or ( aI @Bool.not_true ( aI @Bool.not_false ( aI @and_true ( aI @true_and ( aI @and_false ( aI @false_and ( aI @or_false ( aI @false_or ( aI @or_true ( aI @true_or ( aI @List.mapM_cons.{0,0,0} ( aI @List.mapM_nil.{0,0,0} ( aI @Option.pure_def.{0} ( aI @Option.bind_eq_bind.{0} ( aI @List.elem_nil.{0} ( aI @List.elem_cons.{0} ( aI @List.contains_cons.{0} ( aI @List.contains_nil.{0} ( aI @Bool.false_eq_true ( aI @not_true_eq_false ( aI @not_false_eq_true ( @Array.toList_map.{0,0}))))))))))))))))))))))))))))))))))))))))))))))))))))))))))
end Go.Pg
end
section
namespace Go.Pg
open Go
def GenE(l m:List Nat)(e:Nat→V):List V→Nat→Prop
 | [],_=>True
 | x::xs,k=>Gen l m (e k) x∧GenE l m e xs (k+1)
theorem GenE.at{l m:List Nat}{e:Nat→V}:∀(xs:List V) (k:Nat),GenE l m e xs k→∀t,Gen l m (e t) (qJ xs k t):=by
 intro xs
 induction xs with
 | nil=>intro k _ t;exact .inl rfl
 | cons x xs ih =>
  intro k h t
  simp only[qJ,upd]
  split
  ·rename_i ht;subst ht;exact h.1
  ·exact ih (k+1) h.2 t
theorem qc(l m:List Nat)(v:V):Gen l m v .top=True:=by simp [Gen]
theorem iO(l m:List Nat)(v:Value):Gen l m (.c v) (.c v)=True:=by simp [Gen,V.any,V.map]
theorem fO(l m:List Nat)(k:Nat)(xs:List V):Gen l m (.sl .fz k xs) (.sl .fz k xs)=True:=by simp [Gen,V.any,V.map,Tag.notIn,nz]
theorem aaH(l m:List Nat)(t:Tag)(k:Nat)(h:t.notNN=true):Gen l m (.c (.slice none 0 0)) (.sl t k [])=True:=by
 exact eq_true (.inr (.inr (.inl ⟨rfl,t,k,h,rfl⟩)))
theorem bP{l m:List Nat}{i j:Nat}{e:TypeId}{k:Nat}{xs ys:List V}(h:(l.contains i&&l.idxOf i == j)=true)(hx:xs=ys):Gen l m (.sl (.own i e) k xs) (.sl (.own j e) k ys):=by
 simp only[Bool.and_eq_true,beq_iff_eq,List.contains_iff_mem] at h
 subst hx
 refine .inr (.inl ⟨by simp [V.any,Tag.notIn,h.1],by simp [V.map,nz,h.2]⟩)
theorem adZ{α:Type}(f:Nat→α)(d:Nat)(v:α)(x:Nat):upd f d v x=if x=d then v else f x:=rfl
theorem aW(P:Program)(s:St)(t:Nat):nO P s [.tmp t]=some (s.env t):=rfl
theorem bD(P:Program)(s:St)(a b:Nat):nO P s [.tmp a,.tmp b]=some (.tup [s.env a,s.env b]):=rfl
theorem aS(P:Program)(s:St)(a b c:Nat):nO P s [.tmp a,.tmp b,.tmp c]=some (.tup [s.env a,s.env b,s.env c]):=rfl
theorem aY(P:Program)(s:St)(a b c d:Nat):nO P s [.tmp a,.tmp b,.tmp c,.tmp d]=some (.tup [s.env a,s.env b,s.env c,s.env d]):=rfl
def QS(P:Program)(rs:List ResultVar)(r:V)(s:St):Prop:=∃r0 l,nO P s rs=some r0∧List.Nodup l∧r0.any (Tag.notIn l) (fun _=>true) false=false∧r0.map (nz l) id=r
theorem QT(P:Program)(rs:List ResultVar)(r:V)(s:St):ZI P rs r .ret s=QS P rs r s:=rfl
theorem EW(P:Program)(rs:List ResultVar)(r:V)(s:St):ZI P rs r .normal s=QS P rs r s:=rfl
theorem bZ{P:Program}{rs:List ResultVar}{r:V}{s:St}(l:List Nat)(r0:V)(h:nO P s rs=some r0)(hl:l.Nodup)(hi:r0.any (Tag.notIn l) (fun _=>true) false=false)(hr:r0.map (nz l) id=r):QS P rs r s:=⟨r0,l,h,hl,hi,hr⟩
theorem afO(x y:Bool):(bif true then x else y)=x:=rfl
theorem afP(x y:Bool):(bif false then x else y)=y:=rfl
theorem ad1(x y:Prop):(bif true then x else y)=x:=rfl
theorem ad2(x y:Prop):(bif false then x else y)=y:=rfl
def pgx:=aI @ad1 (aI @ad2 (aI @Qv (aI @Z5 (aI @afO (aI @afP (aI @adZ (aI @KZ (aI @Qs (aI @Qu (aI @Ve (aI @Z8 (aI @Z9 (aI @QT @EW)))))))))))))
theorem aj{D:Dw}{P:Program}[Tb P]{b:Bool}{x y:Code}{Q:Exit→St→Prop}{s:St}(ht:b=true→wpS D P x Q s)(hf:b=false→wpS D P y Q s):aB D P (.c (.bool b)) x y Q s:=IC D P ht hf
theorem ai{P:Program}[Tb P]{b want:Bool}{dsts:List (Option Nat)}{Q:Exit→St→Prop}{o:Oper}{rest:List Oper}{s:St}(ht:b=want→aA P s o (DY P dsts Q rest))(hf:b = !want→pG P dsts Q rest (s.put o.dst (.c undef))) :
  ax P (some (.c (.bool b))) want dsts Q o rest s:=EP P ht hf
section
variable {ι:Type} {D:Dw} {P:Program} [Tb P]
def qK(S:ι→St)(Inv:ι→Prop)(μ:ι→Nat)(i:ι)(s:St):Prop:=∃m s3,m<μ i∧Weak s s3∧∃j,Inv j∧μ j=m∧s3=S j
theorem dh{S:ι→St}{Inv:ι→Prop}{μ:ι→Nat}{i:ι}{s:St}(j:ι)(l m:List Nat)(h1:Inv j)(h2:μ j<μ i)(h3:Keep l m s (S j)):qK S Inv μ i s:=⟨μ j,S j,h2,h3.weak,j,h1,rfl,rfl⟩
def yV(S:ι→St)(Inv:ι→Prop)(μ:ι→Nat)(i:ι)(Q:Exit→St→Prop):Exit→St→Prop:=vM (qK S Inv μ i) Q
theorem EX(S:ι→St)(Inv:ι→Prop)(μ:ι→Nat)(i:ι)(Q:Exit→St→Prop)(s:St):yV S Inv μ i Q .normal s=qK S Inv μ i s:=rfl
theorem LC(S:ι→St)(Inv:ι→Prop)(μ:ι→Nat)(i:ι)(Q:Exit→St→Prop)(id:Nat)(s:St):yV S Inv μ i Q (.exit id) s=Q (.exit id) s:=rfl
theorem QU(S:ι→St)(Inv:ι→Prop)(μ:ι→Nat)(i:ι)(Q:Exit→St→Prop)(s:St):yV S Inv μ i Q .ret s=Q .ret s:=rfl
theorem aaI{x:Code}{Q:Exit→St→Prop}{s:St}(S:ι→St)(Inv:ι→Prop)(μ:ι→Nat)(i0:ι)(l m:List Nat)(hk:Keep l m s (S i0))(h0:Inv i0)
  (hr:∀i,Inv i→∀s,s=S i→wpS D P x (yV S Inv μ i Q) s):Be D P x Q s:=by
 refine⟨fun n s1=>∃i,Inv i∧μ i=n∧s1=S i,μ i0,⟨S i0,hk.weak,i0,h0,rfl,rfl⟩, ?_⟩
 rintro n s1 ⟨i,hi,rfl,rfl⟩
 exact hr i hi _ rfl
end
end Go.Pg
end
namespace Go.Pg
open Go
def oct(l:List Nat):Prop:=∀b∈l,b<256
def sB(l:List Nat):ByteArray:=⟨(l.map UInt8.ofNat).toArray⟩
def bv(l:List Nat):List V:=l.map fun (b:Nat)=>V.c (.int .u8 (b:Int))
def sv(l:List (List Nat)):List V:=l.map fun b=>V.c (.string (sB b))
theorem EY:oct []:=fun b h=>by cases h
theorem Wj{l:List Nat}(h:oct l)(e:Nat):oct (l.take e):=fun x hx=>h x (List.mem_of_mem_take hx)
theorem zM{l:List Nat}(h:oct l)(i:Nat):l.getD i 0<256:=by
 rcases Nat.lt_or_ge i l.length with h1|h1
 ·simp only[List.getD,List.getElem?_eq_getElem h1,Option.getD_some];exact h _ (List.getElem_mem h1)
 ·simp [List.getD,h1]
theorem rJ(l:List Nat):(bv l).length=l.length:=by simp [bv]
theorem Wl(l:List Nat)(i:Nat)(h:i<l.length):(bv l)[i]?=some (.c (.int .u8 (l.getD i 0:Nat))):=by simp [bv,h,List.getD]
theorem aaJ(l:List Nat)(n:Nat):(bv l).take n=bv (l.take n):=by simp [bv,List.map_take]
theorem eG(l:List (List Nat)):(sv l).length=l.length:=by simp [sv]
theorem lV(l:List (List Nat))(i:Nat)(h:i<l.length):(sv l)[i]?=some (.c (.string (sB (l.getD i [])))):=by simp [sv,h,List.getD]
theorem mi(l:List Nat):(sB l).size=l.length:=by simp [sB,ByteArray.size]
theorem LD{l:List Nat}(h:oct l)(i:Nat):((sB l).data.toList.getD i 0).toNat=l.getD i 0:=by
 simp only[sB,List.getD,List.getElem?_map]
 rcases Nat.lt_or_ge i l.length with h1|h1
 ·simp only[List.getElem?_eq_getElem h1,Option.map_some,Option.getD_some]
  have:=h _ (List.getElem_mem h1)
  simp only[UInt8.toNat_ofNat']
  omega
 ·simp [List.getElem?_eq_none h1]
theorem ad3(l:List Nat)(i j:Nat):(sB l).extract i j=sB ((l.take j).drop i):=by
 apply ByteArray.ext
 rw[ByteArray.data_extract]
 apply Array.ext'
 simp [sB,List.map_drop,List.map_take,List.drop_take]
theorem EZ{a b:List Nat}(ha:oct a)(hb:oct b)(h:sB a=sB b):a=b:=by
 have hl:a.length=b.length:=by have:=congrArg ByteArray.size h;rwa [mi,mi] at this
 apply List.ext_getElem?
 intro i
 rcases Nat.lt_or_ge i a.length with h1|h1
 ·have e1:=LD ha i
  have e2:=LD hb i
  rw[h] at e1
  have:a.getD i 0=b.getD i 0:=e1.symm.trans e2
  simp only[List.getD,List.getElem?_eq_getElem h1,List.getElem?_eq_getElem (show i<b.length by omega),Option.getD_some] at this
  rw[List.getElem?_eq_getElem h1,List.getElem?_eq_getElem (show i<b.length by omega),this]
 ·rw[List.getElem?_eq_none h1,List.getElem?_eq_none (by omega)]
theorem uO{a b:List Nat}(ha:oct a)(hb:oct b):decide (sB a=sB b)=decide (a=b):=by
 by_cases h:a=b
 ·subst h;simp
 ·rw[decide_eq_false h,decide_eq_false (fun e=>h (EZ ha hb e))]
theorem ad4(l:List Nat):u8s (bv l)=some (l.map fun (b:Nat)=>(b:Int)):=by
 induction l with
 | nil=>rfl
 | cons a l ih=>simp only[bv,List.map_cons] at ih ⊢;simp only[u8s,ih];rfl
end Go.Pg
