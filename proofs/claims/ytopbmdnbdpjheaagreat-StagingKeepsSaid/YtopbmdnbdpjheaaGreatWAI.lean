/-
  Merged texts.
-/
import Derived.Test.YtopbmdnbdpjheaaGreatWAE
import Derived.Test.YtopbmdnbdpjheaaGreatWAF
import Derived.Test.YtopbmdnbdpjheaaGreatWAH
import Derived.Test.YtopbmdnbdpjheaaGreatWAG
import Derived.Shelf.Spec.SlicesInsertGrow
set_option linter.all false
set_option linter.unusedVariables false
set_option linter.unusedSimpArgs false
set_option linter.unusedSectionVars false
set_option linter.defProp false
set_option maxRecDepth 100000
set_option maxHeartbeats 8000000
section
namespace Go.Pg
open Go
section
variable {P:Program} [Tb P] {s:St} {d:Option Nat} {ty:TypeId} {pos:String} {af:Array Edge} {g:Option (Nat × Bool)} {K:Kd->St->Prop}
theorem atn(x y:Operand)(ts:Array TypeId):aB P s ⟨d,.call {callee:=.builtin .complex,args:=#[x,y],argTypes:=ts},ty,pos,af,g⟩ K=iP (cxV (s.ev x) (s.ev y)) s d [s.ev x,s.ev y] K:=by have e:(Op.call {callee:=.builtin .complex,args:=#[x,y],argTypes:=ts}).operands.toList.map s.ev=[s.ev x,s.ev y]:=rfl;grind[aB,kqo,jr,qv,rv,xv,zv,fZ,dM]
theorem atJ(x:Operand)(ts:Array TypeId):aB P s ⟨d,.call {callee:=.builtin .real,args:=#[x],argTypes:=ts},ty,pos,af,g⟩ K=iP (reV (s.ev x)) s d [s.ev x] K:=by have e:(Op.call {callee:=.builtin .real,args:=#[x],argTypes:=ts}).operands.toList.map s.ev=[s.ev x]:=rfl;grind[aB,kqo,jr,qv,rv,xv,zv,fZ,dM]
theorem atu(x:Operand)(ts:Array TypeId):aB P s ⟨d,.call {callee:=.builtin .imag,args:=#[x],argTypes:=ts},ty,pos,af,g⟩ K=iP (imV (s.ev x)) s d [s.ev x] K:=by have e:(Op.call {callee:=.builtin .imag,args:=#[x],argTypes:=ts}).operands.toList.map s.ev=[s.ev x]:=rfl;grind[aB,kqo,jr,qv,rv,xv,zv,fZ,dM]
theorem adS(src a:TypeId)(k:FloatKind)(n:Nat):zL P s d src a (.c (.float k n)) K=iP (lZ P src a (.c (.float k n))) s d [.c (.float k n)] K:=by grind[GU,vP,rP,pY,dM,fZ]
end
def cvF(d:Option IntKind)(s:FloatKind)(b:Nat):Option V:=match d with|some k=>(zT s b k).map fun n=>.c (.int k n)|none=>none
def adW(P:Program)(src t:TypeId)(s:FloatKind)(b:Nat):lZ P src t (.c (.float s b))=if(P.underlying src).isSome=true then cvF (kS P t) s b else none:=by unfold lZ;grind[kS,cvF]
theorem aen(k:IntKind)(s:FloatKind)(b:Nat):cvF (some k) s b=(zT s b k).map fun n=>V.c (.int k n):=rfl
theorem aeo(k:FloatKind)(n:Int):cvK none (some k) n=some (.c (.float k (k.nearest n))):=rfl
theorem aer(k:FloatKind)(a b:Nat):cxV (.c (.float k a)) (.c (.float k b))=some (.c (.complex k a b)):=ah rfl
theorem apO(k:FloatKind)(a b:Nat):reV (.c (.complex k a b))=some (.c (.float k a)):=rfl
theorem ajw(k:FloatKind)(a b:Nat):imV (.c (.complex k a b))=some (.c (.float k b)):=rfl
def aem(n:Nat):Ieee.Toward.even.cut false n 0=n:=by unfold Ieee.Toward.cut;simp[Nat.mod_one]
theorem d_s:Ieee.double.signWeight=2^63:=rfl
def aet:Ieee.double.leastPlace = -1074:=dX
theorem d_b:Ieee.double.binade=2^52:=rfl
theorem d_i:Ieee.double.infRung=2047*2^52:=rfl
theorem d_f:(Ieee.double.fractionBits:Int)=52:=rfl
def amz(n k:Nat)(h1:2^k<=n)(h2:n<2^(k+1))(hk:k<=52):Ieee.double.nearest false n 0=(k+1022)*2^52+n*2^(52-k)/\2^52<=n*2^(52-k)/\n*2^(52-k)<2^53:=by
 have hl:n.log2=k:=(Nat.log2_eq_iff Om).2 ⟨h1,h2⟩;have c:2^k*2^(52-k)=2^52:=by rw[<-Nat.pow_add];congr 1;omega
 have d:2^(k+1)*2^(52-k)=2^53:=by rw[<-Nat.pow_add];congr 1;omega
 have a:=vY (2^(52-k)) h1;have b:=Nat.mul_lt_mul_of_pos_right h2 (Nat.two_pow_pos (52-k));unfold Ieee.Format.nearest;rw[ag Om,hl];rw[aet,d_b,d_i,d_f];rw[show max ((0:Int)+k-52) (-1074)=(k:Int)-52 by omega];simp only;rw[show((k:Int)-52-0).toNat=0 by omega,show((k:Int)-52 - -1074).toNat=k+1022 by omega,aem,Nat.shiftLeft_eq];unfold Ieee.Format.word;grind
def apP(r m:Nat)(h:r<=2045)(h1:2^52<=m)(h2:m<2^53):Ieee.double.read (r*2^52+m) = .number false m (-1074+r):=by unfold Ieee.Format.read;rw[d_b,d_i,d_s];have a:(r*2^52+m) / 2^63=0:=Nat.div_eq_of_lt Om;have b:(r*2^52+m)%2^63=r*2^52+m:=Md Om;have c:(r*2^52+m) / 2^52=r+1:=Om;have d:(r*2^52+m)%2^52=m-2^52:=Om;rw[a,b,ag Om,ah Om,c,d,show 2^52+(m-2^52)=m by omega];rfl
theorem Uz(n:Nat)(h:n<2^53):zT .f64 (FloatKind.f64.nearest n) .i64=some (n:Int):=by
 rcases gG n with rfl|l
 .decide +kernel
 have d:2^n.log2<=n:=Nat.log2_self_le Om
 have k2:n<2^(n.log2+1):=Nat.lt_log2_self
 have hk:n.log2<=52:=by
  have:=(Nat.pow_lt_pow_iff_right (a:=2) dX).1 (Nat.lt_of_le_of_lt d h)
  omega
 generalize n.log2=k at *
 obtain⟨f,b,c⟩:=amz n k d k2 hk
 have g:FloatKind.f64.nearest n=Ieee.double.nearest false n 0:=by
  show Ieee.double.nearest (decide ((n:Int)<0)) (n:Int).natAbs 0=_
  rw[dK Om,Int.natAbs_natCast]
 have i:FloatKind.f64.decode (FloatKind.f64.nearest n) = .number false (n*2^(52-k)) (-1074+((k+1022:Nat):Int)):=by
  rw[g,f]
  exact apP _ _ Om b c
 have hl:(n*2^(52-k)).log2=52:=(Nat.log2_eq_iff Om).2 ⟨b,c⟩
 have j:(FloatKind.f64.decode (FloatKind.f64.nearest n)).toInt .zero=some (n:Int):=by
  rw[i]
  unfold Ieee.Datum.toInt Ieee.Datum.integral
  simp only
  rw[show(-1074+((k+1022:Nat):Int)).toNat=0 by omega,show(-(-1074+((k+1022:Nat):Int))).toNat=52-k by omega,Nat.shiftLeft_zero]
  unfold Ieee.Toward.cut
  simp only
  rw[hl,qj Om,Nat.shiftLeft_eq,Nat.one_mul,Nat.mul_div_cancel _ (Nat.two_pow_pos _)]
  unfold Ieee.signed
  simp
 unfold zT
 rw[j]
 simp only
 rw[ah]
 show -9223372036854775808<=(n:Int)/\(n:Int)<=9223372036854775807
 omega
def agk(n:Int)(a:0<=n)(h:n<9007199254740992):zT .f64 (FloatKind.f64.nearest n) .i64=some n:=by grind[Uz,Int.eq_ofNat_of_zero_le]
def pgc:=A8 @atn @atJ @atu @adS @adW @aen @aeo @aer (Ad @apO @ajw @agk @mQ.{0,0})
end Go.Pg
end
namespace Go.Proofs.YtopbmdnbdpjheaaGreat
open Go Go.Pg
def af1:G7 Tryz.prog 273=some .f64:=Za
def anI(a b:Nat)(hb:0<b)(ha:a<=1048576)(d:b<=1024):Gxx 281 [vi a,vi b] (.tup [vi ((a+b-1) / b:Nat),vi 0]):=by
 have g:(a:Int) / b=((a / b:Nat):Int):=rfl;have c:Int.tdiv (a:Int) b=((a / b:Nat):Int):=rfl;have h1:Int.tmod (a:Int) b=((a%b:Nat):Int):=rfl;have h3:a / b<=a:=Nat.div_le_self a b;have hm:=Nat.div_add_mod a b;by_cases h:a%b=0
 .have e:(a+b-1) / b=a / b:=by
   rw[Nat.div_eq_iff hb,];constructor
   .rw[Nat.mul_comm];omega
   .rw[Nat.mul_comm];omega
  rw[e];generalize a / b=q at *;generalize a%b=r at *;refine gI oW ?_;(repeat' first|refine wQ (aI c @h1) ?_|refine tS ?_ ?_<;>intro f|fail);exact rE []
 .have e:(a+b-1) / b=a / b+1:=by
   have:=kQ a hb;rw[Nat.div_eq_iff hb];constructor
   .rw[Nat.mul_comm,Nat.mul_add];omega
   .rw[Nat.mul_comm,Nat.mul_add];omega
  rw[e];generalize a / b=q at *;generalize a%b=r at *;refine gI oW ?_;(repeat' first|refine wQ (aI c @h1) ?_|refine tS ?_ ?_<;>intro f|fail);exact rE []
def ao5(z:Int):Gxx 280 [vi z] (vb (decide (1<=z/\z<=1024))):=by
 by_cases h:1<=z
 .rw[show decide (1<=z/\z<=1024)=decide (z<=1024) by simp[h]];refine gI oW ?_;(repeat' first|refine wO ?_|refine tS ?_ ?_<;>intro a|fail);exact rE []
 .rw[show decide (1<=z/\z<=1024)=false by simp[h]];refine gI oW ?_;(repeat' first|refine wO ?_|refine tS ?_ ?_<;>intro a|fail);exact rE []
def anP(a:Nat)(z:Int)(ha:a<=1048576)(h:1<=z/\z<=1024):Gxx 195 [vi a,vi z] (.tup [vi ((a+z.toNat-1) / z.toNat:Nat),vi 0]):=by obtain⟨n,rfl⟩:=Rn (show 0<=z by omega);simp only[fC];have k:=ao5 n;rw[eU h]at k;have k2:=anI a n Om ha Om;generalize(a+n-1) / n=q at *;refine gI oW ?_;(repeat' first|refine wP ae (aI k k2) ?_|refine tS ?_ ?_<;>intro b|fail);exact rE []
def ao8(a z i:Nat)(ha:a<=1048576)(h:z<=1024)(hi:i<=1048576):Gxx 196 [vi a,vi z,vi i] (.c (.complex .f64 (FloatKind.f64.nearest ((i*z:Nat):Int)) (FloatKind.f64.nearest ((min ((i+1)*z) a:Nat):Int)))):=by
 have h1:i*z<=1048576*1024:=Nat.mul_le_mul hi h;have h2:(i+1)*z=i*z+z:=by rw[nK];omega
 have b:(i:Int)*z=((i*z:Nat):Int):=Om;have c:((i:Int)+1)*z=(((i+1)*z:Nat):Int):=by rw[h2,Int.add_mul,b];omega
 have d:min (((i+1)*z:Nat):Int) (a:Int)=((min ((i+1)*z) a:Nat):Int):=Om;generalize i*z=p at *;generalize(i+1)*z=q at *;refine gI oW ?_;(repeat' first|refine wQ (Ae @pgc @af1 b c d) ?_|refine tS ?_ ?_<;>intro f|fail);exact rE []
theorem YC(k:Nat)(h:k<=1048576):zT .f64 (FloatKind.f64.nearest (k:Int)) .i64=some (k:Int):=Uz k Om
def aow(b:List Nat)(n:Nat)(s:1<=n/\n<=1024)(hb:b.length<=1048576):Gxx 101 [.sl .fz 1 (bv b),vi n] (.tup [.sl (.own 0 60) 1 (pgV (ckP n b (nPg n b))),vi 0]):=by
 have k:=anP b.length n hb ⟨by omega,by omega⟩;rw[fC]at k;have k:Gxx 195 [vi b.length,vi n] (.tup [vi (nPg n b:Nat),vi 0]):=k
 have p:nPg n b<=1048576:=by
  rcases gG (nPg n b)with h|h
  .omega
  .have h1:=(Dc (i:=nPg n b-1) (z:=n) (b:=b) Om).1 Om;have h2:(nPg n b-1)*1<=(nPg n b-1)*n:=Nat.mul_le_mul_left _ Om;omega
 refine gI oW ?_;(repeat' first|refine wP @aA k ?_|refine tS ?_ ?_<;>intro d|fail);refine aJ (fun i:Nat=>mkA [(0,.sl .fz 1 (bv b)),(1,vi n),(8,.sl (.own 0 60) 1 (pgV (ckP n b i))),(21,vi (nPg n b)),(22,vi i)] [] 1 (fun _=>.top)) (fun i=>i<=nPg n b) (fun i=>nPg n b-i) 0 [] [] ?_ (ax _) ?_
 .exact kX;all_goals first|exact iT rfl|skip
 .rintro i hi;rcases au i (nPg n b)with a|l
  .have h1:=(Dc Om).1 a;have d:=TF b n i h1;have k2:=ao8 b.length n i hb Om Om;rw[show(i+1)*n=i*n+n by rw[nK];omega]at k2;have h2:i*n<=min (i*n+n) b.length:=Om;have h3:min (i*n+n) b.length<=b.length:=Om;have r:=YC (i*n) Om;have q:=YC (min (i*n+n) b.length) Om;generalize min (i*n+n) b.length=m at *;have c:=(Nj b (i*n) m h2 h3).trans (by rw[d]);have j:Fits (bv ((b.drop (i*n)).take n)).length 1:=by rw[aA];simp only[bI];exact⟨by simp only[maxLen];omega,by omega⟩
   have f:Fits ((pgV (ckP n b i)).length+1) 24:=by rw[aj,sN];exact⟨by simp only[maxLen];omega,by omega⟩
   have hp:0<(bv ((b.drop (i*n)).take n)).length:=by rw[aA,bI,eH];omega
   have g:=fun(e:Nat->V) (bx:BX) (nn:Nat) (h:Nat->V)=>Gz e bx nn h 5 1 1 1 (bv ((b.drop (i*n)).take n)) j hp
   (repeat' first|refine wP (A8 @aA @pgc r q c g @EG @MQ (Ac @X5 j f)) k2 ?_|refine tS ?_ ?_<;>intro d|fail);exact bX (i+1) [0] [] a
  .have:i=nPg n b:=Om;subst this;(repeat' first|refine wQ @aA ?_|refine tS ?_ ?_<;>intro d|fail);exact rE [0]
def aoh(l:List (List Nat))(hl:l.length<=100000)(b:∀p∈l,p.length<=1024):Gxx 46 [.sl .fz 1 (pgV l)] (.sl .fz 1 (bv l.flatten)):=by
 have f:=Uu l b;refine Good.fzr (r:=.sl (.own 0 5) 1 (bv l.flatten)) ?_ rfl (.inl (.inl rfl));refine gI oW ?_;(repeat' first|refine wQ @aj.{0,0} ?_|refine tS ?_ ?_<;>intro a|fail);refine aJ (fun i:Nat=>mkA [(3,.sl (.own 0 5) 1 (bv (l.take i).flatten)),(6,.sl .fz 1 (pgV l)),(7,vi l.length),(8,vi i)] [] 1 (fun _=>.top)) (fun i=>i<=l.length) (fun i=>l.length-i) 0 [] [] ?_ (ax _) ?_
 .exact kX;all_goals first|exact iT rfl|skip
 .rintro i hi;rcases au i l.length with h|d
  .obtain⟨hg,hm,hj,c⟩:=V7 l b hl i h;(repeat' first|refine wQ (Ad @aj.{0,0} @hg @hj c) ?_|refine tS ?_ ?_<;>intro a|fail);exact bX (i+1) [0] [] h
  .have:i=l.length:=Om;subst this;(repeat' first|refine wQ (aI @aj.{0,0} @gB.{0}) ?_|refine tS ?_ ?_<;>intro a|fail);exact rE [0]
def Ku(ob:List (Int×List Vr))(bo:List Nat)(h:bo.length=ob.length):(oM ob bo).map (·.1)=ob.map (·.1):=by unfold oM;rw[zA];show(ob.zip bo).map (fun x=>x.1.1)=_;rw[show(fun x:(Int×List Vr)×Nat=>x.1.1)=(fun y:Int×List Vr=>y.1)∘Prod.fst from rfl,<-zA,List.map_fst_zip Om]
def StAt.obj{bx:Bx}{n b:Nat}{s:Sto}{N:SN}(H:StAt bx n b s N)(h:(s.ob.map (·.1)).Nodup)(i:Nat)(hi:i<s.ob.length):mIx (iM (oM s.ob N.bo)) (.int .i64 (s.ob.getD i (0,[])).1) 0=some (some (i,.sl .fz 4 (vrV (s.ob.getD i (0,[])).2))):=by have hb:=H.hbo;have:=H5 (s.ob.getD i (0,[])).1 (.sl .fz 4 (vrV (s.ob.getD i (0,[])).2)) (N.bo.getD i 0) (oM s.ob N.bo) 0 i (by rw[Ku _ _ hb];exact h) (by unfold oM;rw[axj,List.getElem?_zip_eq_some (z:=(s.ob[i],N.bo[i]' Om)).2 ⟨dY hi,dY (Om:i<N.bo.length)⟩];simp[hi,(Om:i<N.bo.length)]);grind
def EX:ny Tryz.prog 136=some (3,132):=Za
def LG:lV Tryz.prog 132=some (.slice none 0 0):=Za
theorem StAt.up{bx:Bx}{n b c:Nat}{s:Sto}{N:SN}(H:StAt bx n b s N)(h:n<=c)(x:Option (TypeId×List V)):StAt (upd bx c x) (c+1) b s N:=H.of Om fun k hk=>aV _ _ _ _ (by
 simp[SN.D]at hk;have:=H.lt;rcases hk with rfl|rfl|hk
 .omega
 .omega
 .have:=H.hA.lt _ hk;omega)
def KG(e:Nat->V)(bx:Bx)(n:Nat)(h:Nat->V){b:Nat}{s:Sto}{N:SN}(H:StAt bx n b s N)(q:Sml s)(p:(s.ob.map (·.1)).Nodup)(k:List Nat)(c:Int)(i x:Nat)(hv:nG s c=0)(h:AtV s k c i x)(g:Nat->V) :
  Gxz 45 [.ref b 0,vs k,vi c] ⟨e,bx,n,g⟩ ⟨e,bx,n,g⟩ (.tup [vi (s.ob.getD i (0,[])).1,.agg (vrF (verOf s i x)),vi 0]):=by
 refine GoodZ.rd (r:=.tup [vi (s.ob.getD i (0,[])).1,.agg (vrF (verOf s i x)),vi 0]) (only (N.D b) bx) H.fr rfl ?_ e bx g (fun b x hb=>(iC hb).2)
 intro e bx' g G hB I hx
 have a:=H.on hx
 have h1:=a.hb
 have h2:=a.ho
 have h3:=a.obj p i h.il
 have y:=a.lt
 have m:(b=n)=False:=eq_false Om
 have f:(N.o=n)=False:=eq_false Om
 have hm:(s.ob.getD i (0,[]))∈s.ob:=by rw[gW,dY h.il];exact ji h.il
 have j:=fun d (u:StAt d (n+1) b s N) e h=>KH e d (n+1) h u q.pi c
 rw[hv]at j
 have j:=j _ (a.up (az _) (some (113,[y0,y0,y0,yn])))
 have t:=Fp s.bi k c (by have:=q.bi;omega)
 have k2:=aof (s.ob.getD i (0,[])).2 c (by have:=q.ch _ hm;omega)
 rw[h.lk]at t
 rw[h.fv]at k2
 have l:=rX (s.ob.getD i (0,[])).2 x h.xl
 have A:=h.xl
 unfold verOf
 clear h hm
 generalize s.ob.getD i (0,[])=o at *
 obtain⟨K,oc⟩:=o
 simp only at *
 generalize oc.getD x vr0=v at *
 obtain⟨C,E,F,vp⟩:=v
 simp only at *
 refine⟨n+1,upd (upd bx' n (some (113,[y0,y0,y0,yn]))) n (some (113,[vi C,vi E,vi F,.sl .fz 1 (vp.map vi)])),fun k hk=>by rw[aV _ _ _ _ Om,aV _ _ _ _ Om],?_⟩
 refine gZ oW ?_
 (repeat' first|refine wP (A8 @aK @aH @aG @pgp @h1 @h2 m f (Ag @tH @EX @xm @LG @h3 l @aj.{0,0})) (aI t k2) ?_|refine aU _ (j _ _) rfl ?_|refine tS ?_ ?_<;>intro J|fail)
 (refine bC (by first|exact aW _ _ _|exact jW _ _ _ _|(simp(disch:=first|assumption|omega|(simp only[Fits,maxLen,pgq]at *;omega)) only[pgr,pgo,tyf,simprocAttr,bW];done)|(simp(disch:=first|assumption|omega|(simp only[Fits,maxLen,pgq]at *;omega)) only[pgr,pgo,tyf,simprocAttr,bW];rfl)) ?_;rw[aP,aQ])
def XT(e:Nat->V)(bx:Bx)(n:Nat){b:Nat}{s:Sto}{N:SN}(H:StAt bx n b s N)(g:Sml s)(k:List Nat)(c:Int)(hv:nG s c=0)(hf:(lkA k c s.bi).2=false)(a:Nat->V) :
  Gxz 45 [.ref b 0,vs k,vi c] ⟨e,bx,n,a⟩ ⟨e,bx,n,a⟩ (.tup [vi 0,.agg [vi 0,vi 0,vi 0,nls],vi 8]):=by
 refine GoodZ.rd (r:=.tup [vi 0,.agg [vi 0,vi 0,vi 0,nls],vi 8]) (only (N.D b) bx) H.fr rfl ?_ e bx a (fun b x hb=>(iC hb).2)
 intro e bx' a m hB p hx
 have d:=H.on hx
 have h1:=d.hb
 have l:=d.lt
 have f:(b=n)=False:=eq_false Om
 have i:=fun e h=>KH e _ (n+1) h (d.up (az _) (some (113,[y0,y0,y0,yn]))) g.pi c
 rw[hv]at i
 have j:=Fp s.bi k c (by have:=g.bi;omega)
 rw[hf]at j
 refine⟨n+1,upd (upd bx' n (some (113,[y0,y0,y0,yn]))) n (some (113,[y0,y0,y0,yn])),fun k hk=>by rw[aV _ _ _ _ Om,aV _ _ _ _ Om],?_⟩
 refine gZ oW ?_
 (repeat' first|refine wP (Ae @aK @aH @aG @h1 f) j ?_|refine aU _ (i _ _) rfl ?_|refine tS ?_ ?_<;>intro q|fail)
 (refine bC (by first|exact aW _ _ _|exact jW _ _ _ _|(simp(disch:=first|assumption|omega|(simp only[Fits,maxLen,pgq]at *;omega)) only[pgr,pgo,tyf,simprocAttr,bW];done)|(simp(disch:=first|assumption|omega|(simp only[Fits,maxLen,pgq]at *;omega)) only[pgr,pgo,tyf,simprocAttr,bW];rfl)) ?_;rw[aP,aQ])
def KF(e:Nat->V)(bx:Bx)(n:Nat)(h:Nat->V){b:Nat}{s:Sto}{N:SN}(H:StAt bx n b s N)(f:Sml s)(a:(s.ob.map (·.1)).Nodup)(k:List Nat)(c:Int)(i x:Nat)(hv:nG s c=0)(ha:AtV s k c i x) :
  Gxz 27 [.ref b 0,vs k,vi c] ⟨e,bx,n,h⟩ ⟨e,bx,n,h⟩ (.tup [vi (s.ob.getD i (0,[])).1,vi (verOf s i x).f,vi 0]):=by
 refine GoodZ.rd (r:=.tup [vi (s.ob.getD i (0,[])).1,vi (verOf s i x).f,vi 0]) (only (N.D b) bx) H.fr rfl ?_ e bx h (fun b x hb=>(iC hb).2)
 intro e bx' h p hB q hx
 have d:=H.on hx
 have g:=fun e h=>KG e bx' n h d f a k c i x hv ha h
 generalize verOf s i x=v at *
 obtain⟨j,l,m,vp⟩:=v
 generalize(s.ob.getD i (0,[])).1=u at *
 simp only at *
 refine⟨n+1,upd (upd bx' n (some (113,[y0,y0,y0,yn]))) n (some (113,[vi j,vi l,vi m,.sl .fz 1 (vp.map vi)])),fun k hk=>by rw[aV _ _ _ _ Om,aV _ _ _ _ Om],?_⟩
 refine gZ oW ?_
 (repeat' first|refine wQ (Ac @aK @aH @aG) ?_|refine aU _ (g _ _) rfl ?_|refine tS ?_ ?_<;>intro t|fail)
 (refine bC (by first|exact aW _ _ _|exact jW _ _ _ _|(simp(disch:=first|assumption|omega|(simp only[Fits,maxLen,pgq]at *;omega)) only[pgr,pgo,tyf,simprocAttr,bW];done)|(simp(disch:=first|assumption|omega|(simp only[Fits,maxLen,pgq]at *;omega)) only[pgr,pgo,tyf,simprocAttr,bW];rfl)) ?_;rw[aP,aQ])
def PQ(e:Nat->V)(bx:Bx)(n:Nat)(h:Nat->V){b:Nat}{s:Sto}{N:SN}(H:StAt bx n b s N)(d:Sml s)(k:List Nat)(c:Int)(hv:nG s c=0)(hf:(lkA k c s.bi).2=false) :
  Gxz 27 [.ref b 0,vs k,vi c] ⟨e,bx,n,h⟩ ⟨e,bx,n,h⟩ (.tup [vi 0,vi 0,vi 8]):=by
 refine GoodZ.rd (r:=.tup [vi 0,vi 0,vi 8]) (only (N.D b) bx) H.fr rfl ?_ e bx h (fun b x hb=>(iC hb).2)
 intro e bx' h g hB i hx
 have a:=H.on hx
 have f:=fun e h=>XT e bx' n a d k c hv hf h
 refine⟨n+1,upd (upd bx' n (some (113,[y0,y0,y0,yn]))) n (some (113,[y0,y0,y0,yn])),fun k hk=>by rw[aV _ _ _ _ Om,aV _ _ _ _ Om],?_⟩
 refine gZ oW ?_
 (repeat' first|refine wQ (Ac @aK @aH @aG) ?_|refine aU _ (f _ _) rfl ?_|refine tS ?_ ?_<;>intro j|fail)
 (refine bC (by first|exact aW _ _ _|exact jW _ _ _ _|(simp(disch:=first|assumption|omega|(simp only[Fits,maxLen,pgq]at *;omega)) only[pgr,pgo,tyf,simprocAttr,bW];done)|(simp(disch:=first|assumption|omega|(simp only[Fits,maxLen,pgq]at *;omega)) only[pgr,pgo,tyf,simprocAttr,bW];rfl)) ?_;rw[aP,aQ])
def lsN(id:Nat)(xs:List V):Nat->V
 |0=>nls
 |_+1=>.sl (.own id 60) 1 xs
def StAt.ltD{bx:Bx}{n b:Nat}{s:Sto}{N:SN}(H:StAt bx n b s N):∀k∈N.D b,k<n:=by
 intro k hk;simp only[SN.D,fG]at hk;have:=H.lt;rcases hk with rfl|rfl|hk
 .omega
 .omega
 .exact H.hA.lt _ hk
def PR(e:Nat->V)(bx:Bx)(n:Nat)(h:Nat->V){b:Nat}{s:Sto}{N:SN}(H:StAt bx n b s N)(L:(s.pa.map (·.1)).Nodup)(v:Vr)(js:Nat->Nat)(hp:PgOk s.pa v.p js)(hl:v.p.length<=100000) :
  Gxz 47 [.ref b 0,.agg (vrF v)] ⟨e,bx,n,h⟩ ⟨e,bx,n,h⟩ (.sl .fz 1 (pgV (datA s.pa js v.p.length))):=by
 obtain⟨R,S,T,p⟩:=v
 simp only at hp hl
 refine GoodZ.wkr (GoodZ.rd (r:=lsN (n+2) (pgV (datA s.pa js p.length)) p.length) (only (N.D b) bx) H.fr ?_ ?_ e bx h (fun b x hb=>(iC hb).2)) ?_
 .cases p.length with
  |zero=>rfl
  |succ m=>simp[lsN,V.any,Tag.lo]
 .intro e bx' h G hB I hx;have q:=H.on hx;have h1:=q.hb;have K:=q.lt;have M:(b=n)=False:=eq_false Om;have A:=jl G I;obtain⟨B0,c⟩:∃B0,B0=upd bx' n (some (113,[vi R,vi S,vi T,.sl .fz 1 (p.map vi)])):=⟨_,rfl⟩;have u:bD (aF (n+2)) (bM e h)=bM e h:=J4 A Om;have y:df (aF (n+2)) B0=B0:=by rw[c,fV,J3 hB Om];rfl
  have g:B0 b=some (139,stC s N):=by rw[c,aV _ _ _ _ Om];exact h1
  have C:StAt B0 (n+1) b s N:=by rw[c];exact q.up (az _) _
  refine⟨n+1+2*p.length,B0,fun k hk=>by rw[c];exact aV _ _ _ _ Om,?_⟩;refine gZ oW ?_;(repeat' first|refine wQ (Ad @aK @aH @aG @aj.{0,0}) ?_|refine tS ?_ ?_<;>intro t|fail);refine rF (fun i:Nat=>[(0,.ref b 0),(5,lsN (n+2) (pgV (datA s.pa js i)) i),(11,.sl .fz 1 (p.map vi)),(12,vi p.length),(13,vi i)]) (fun _=>B0) (fun i=>n+1+2*i) (fun _=>bM e h) (fun i=>i<=p.length) (fun i=>p.length-i) 0 ?_ (fun _=>.inl (by rw[c])) (az _) rfl (ax _) ?_
  .exact eE
  .rintro i hi;rcases au i p.length with a|J
   .have hg:=EN p i a;obtain⟨P,Q,U⟩:=hp i a;have l:=TG s.pa js i;have E:Fits ((pgV (datA s.pa js i)).length+1) 24:=by rw[aj,qW];exact⟨by simp only[maxLen];omega,by omega⟩
    have d:=fun f m (F:StAt f m b s N) e h=>aoF e f m h F.hA L (p.getD i 0) (js i) Q P Om
    cases i with
    |zero =>have d:=d B0 (n+1+2*0) C;(repeat'(first|(simp(disch:=first|exact dqz|fail) only[pgz,simprocAttr,aH,aG,lsN,aj,hg,g,l,E])|((with_reducible show eX _ _ _ _ _ _);refine aU _ (d _ _) rfl ?_)|(refine tS ?_ ?_<;>intro t)|(with_reducible refine cK ?_)));refine qo 1 a Om ?_ (fun _=>.inl rfl) Om rfl;((try simp only[lu,lw,jQ,kW,pgo,simprocAttr,jb,lN]);try(repeat'(first|exact ae|rfl|apply aI)))
    |succ j =>
     have d:=d B0 (n+1+2*(j+1)) (C.of Om fun _ _=>rfl);have hj:((j:Int)+1).toNat=j+1:=Om;(repeat'(first|(simp(disch:=first|exact dqz|fail) only[pgz,simprocAttr,aH,aG,lsN,aj,hg,g,l,E,hj,u,y])|((with_reducible show eX _ _ _ _ _ _);refine aU _ (d _ _) rfl ?_)|(refine tS ?_ ?_<;>intro t)|(with_reducible refine cK ?_)));refine qo (j+1+1) a Om ?_ (fun _=>.inl rfl) ?_ rfl
     .exact eE
     .split<;>omega
   .have:i=p.length:=Om;subst this;(repeat' first|refine wQ (aI @aH @aG) ?_|refine tS ?_ ?_<;>intro t|fail);(refine iL (by first|rfl|skip) (by first|omega|skip))
 .cases p.length with
  |zero=>exact .inl (jB _ _)
  |succ m=>exact aC _
def PG(e:Nat->V)(bx:Bx)(n:Nat)(h:Nat->V){b:Nat}{s:Sto}{N:SN}(H:StAt bx n b s N)(t:Sml s)(f:(s.ob.map (·.1)).Nodup)(g:(s.pa.map (·.1)).Nodup)(k:List Nat)(c:Int)(i x:Nat)(hv:nG s c=0)(ha:AtV s k c i x)(js:Nat->Nat)(hp:PgOk s.pa (verOf s i x).p js)(hl:(verOf s i x).p.length<=100000) :
  Gxz 17 [.ref b 0,vs k,vi c] ⟨e,bx,n,h⟩ ⟨e,bx,n,h⟩ (.tup [fzb (datA s.pa js (verOf s i x).p.length).flatten,vi 0]):=by
 refine GoodZ.rd (r:=.tup [fzb (datA s.pa js (verOf s i x).p.length).flatten,vi 0]) (only (N.D b) bx) H.fr rfl ?_ e bx h (fun b x hb=>(iC hb).2)
 intro e bx' h A hB C hx
 have d:=H.on hx
 have u:=fun e h=>KG e bx' n h d t f k c i x hv ha h
 have j:=fun e h a (q:StAt a (n+1) b s N)=>PR e a (n+1) h q g (verOf s i x) js hp hl
 have y:=aoh (datA s.pa js (verOf s i x).p.length) (by rw[qW];exact hl) (GX _ _ _ hp)
 generalize verOf s i x=v at *
 obtain⟨l,m,p,vp⟩:=v
 generalize(s.ob.getD i (0,[])).1=F at *
 simp only at *
 have j:=fun e h=>j e h _ ((d.up (az _) (some (113,[y0,y0,y0,yn]))).of (n':=n+1) (bx':=upd (upd bx' n (some (113,[y0,y0,y0,yn]))) n (some (113,[vi l,vi m,vi p,.sl .fz 1 (vp.map vi)]))) (az _) fun k hk=>aV _ _ _ _ (by have:=d.ltD k hk;omega))
 refine⟨n+1,upd (upd bx' n (some (113,[y0,y0,y0,yn]))) n (some (113,[vi l,vi m,vi p,.sl .fz 1 (vp.map vi)])),fun k hk=>by rw[aV _ _ _ _ Om,aV _ _ _ _ Om],?_⟩
 refine gZ oW ?_
 (repeat' first|refine wP (Ac @aK @aH @aG) y ?_|refine aU _ (u _ _) rfl ?_|refine aU _ (j _ _) rfl ?_|refine tS ?_ ?_<;>intro E|fail)
 (refine bC (by first|exact aW _ _ _|exact jW _ _ _ _|(simp(disch:=first|assumption|omega|(simp only[Fits,maxLen,pgq]at *;omega)) only[pgr,pgo,tyf,simprocAttr,bW];done)|(simp(disch:=first|assumption|omega|(simp only[Fits,maxLen,pgq]at *;omega)) only[pgr,pgo,tyf,simprocAttr,bW];rfl)) ?_;rw[aP,aQ])
theorem akk(P:Program)[Tb P](st:St)(d:Option Nat)(ty:TypeId)(K:St->Prop)(x:Operand):eQ P st ⟨d,.move x,ty, "",#[],none⟩ K=aB P st ⟨d,.move x,ty, "",#[],none⟩ (fun _=>K):=rfl
theorem aj0(P:Program)[Tb P](st:St)(d:Option Nat)(ty:TypeId)(K:St->Prop)(x:Operand):eQ P st ⟨d,.assign x,ty, "",#[],none⟩ K=aB P st ⟨d,.assign x,ty, "",#[],none⟩ (fun _=>K):=rfl
theorem akm(P:Program)[Tb P](st:St)(d:Option Nat)(ty:TypeId)(K:St->Prop)(c a b:Operand):eQ P st ⟨d,.pick c a b,ty, "",#[],none⟩ K=aB P st ⟨d,.pick c a b,ty, "",#[],none⟩ (fun _=>K):=rfl
theorem ajZ(P:Program)[Tb P](st:St)(d:Option Nat)(ty:TypeId)(K:St->Prop)(e:TypeId):eQ P st ⟨d,.alloc e,ty, "",#[],none⟩ K=aB P st ⟨d,.alloc e,ty, "",#[],none⟩ (fun _=>K):=rfl
theorem aj3(P:Program)[Tb P](st:St)(d:Option Nat)(ty:TypeId)(K:St->Prop)(e:TypeId)(v:Operand):eQ P st ⟨d,.box e v,ty, "",#[],none⟩ K=aB P st ⟨d,.box e v,ty, "",#[],none⟩ (fun _=>K):=rfl
theorem aj6(P:Program)[Tb P](st:St)(d:Option Nat)(ty:TypeId)(K:St->Prop)(t:TypeId)(p:Array (Nat×Operand)):eQ P st ⟨d,.build t p,ty, "",#[],none⟩ K=aB P st ⟨d,.build t p,ty, "",#[],none⟩ (fun _=>K):=rfl
theorem aj7(P:Program)[Tb P](st:St)(d:Option Nat)(ty:TypeId)(K:St->Prop)(t:TypeId)(l:Nat)(p:Array (Nat×Operand)):eQ P st ⟨d,.buildSlice t l p,ty, "",#[],none⟩ K=aB P st ⟨d,.buildSlice t l p,ty, "",#[],none⟩ (fun _=>K):=rfl
theorem ake(P:Program)[Tb P](st:St)(d:Option Nat)(ty:TypeId)(K:St->Prop)(t:TypeId)(a:Operand):eQ P st ⟨d,.load t a,ty, "",#[],none⟩ K=aB P st ⟨d,.load t a,ty, "",#[],none⟩ (fun _=>K):=rfl
theorem akp(P:Program)[Tb P](st:St)(d:Option Nat)(ty:TypeId)(K:St->Prop)(t:TypeId)(a v:Operand):eQ P st ⟨d,.store t a v,ty, "",#[],none⟩ K=aB P st ⟨d,.store t a v,ty, "",#[],none⟩ (fun _=>K):=rfl
theorem akn(P:Program)[Tb P](st:St)(d:Option Nat)(ty:TypeId)(K:St->Prop)(g:Nat):eQ P st ⟨d,.ready g,ty, "",#[],none⟩ K=aB P st ⟨d,.ready g,ty, "",#[],none⟩ (fun _=>K):=rfl
theorem akr(P:Program)[Tb P](st:St)(d:Option Nat)(ty:TypeId)(K:St->Prop)(g:Nat):eQ P st ⟨d,.waits g,ty, "",#[],none⟩ K=aB P st ⟨d,.waits g,ty, "",#[],none⟩ (fun _=>K):=rfl
theorem akl(P:Program)[Tb P](st:St)(d:Option Nat)(ty:TypeId)(K:St->Prop)(x:Operand):eQ P st ⟨d,.nilCheck x,ty, "",#[],none⟩ K=aB P st ⟨d,.nilCheck x,ty, "",#[],none⟩ (fun _=>K):=rfl
theorem aj2(P:Program)[Tb P](st:St)(d:Option Nat)(ty:TypeId)(K:St->Prop)(op:BinOp)(a:TypeId)(x y:Operand)(b:TypeId):eQ P st ⟨d,.binOp op a x y b,ty, "",#[],none⟩ K=aB P st ⟨d,.binOp op a x y b,ty, "",#[],none⟩ (fun _=>K):=rfl
theorem akq(P:Program)[Tb P](st:St)(d:Option Nat)(ty:TypeId)(K:St->Prop)(op:UnOp)(a:TypeId)(x:Operand):eQ P st ⟨d,.unOp op a x,ty, "",#[],none⟩ K=aB P st ⟨d,.unOp op a x,ty, "",#[],none⟩ (fun _=>K):=rfl
theorem aj8(P:Program)[Tb P](st:St)(a:Option Nat)(ty:TypeId)(K:St->Prop)(s d:TypeId)(x:Operand):eQ P st ⟨a,.convert s d x,ty, "",#[],none⟩ K=aB P st ⟨a,.convert s d x,ty, "",#[],none⟩ (fun _=>K):=rfl
theorem akg(P:Program)[Tb P](st:St)(d:Option Nat)(ty:TypeId)(K:St->Prop)(f:Fn)(a b:Array Operand):eQ P st ⟨d,.makeFunc f a b,ty, "",#[],none⟩ K=aB P st ⟨d,.makeFunc f a b,ty, "",#[],none⟩ (fun _=>K):=rfl
theorem akh(P:Program)[Tb P](st:St)(d:Option Nat)(ty:TypeId)(K:St->Prop)(t:TypeId)(r:Option Operand):eQ P st ⟨d,.makeMap t r,ty, "",#[],none⟩ K=aB P st ⟨d,.makeMap t r,ty, "",#[],none⟩ (fun _=>K):=rfl
theorem aki(P:Program)[Tb P](st:St)(d:Option Nat)(ty:TypeId)(K:St->Prop)(t:TypeId)(l c:Operand):eQ P st ⟨d,.makeSlice t l c,ty, "",#[],none⟩ K=aB P st ⟨d,.makeSlice t l c,ty, "",#[],none⟩ (fun _=>K):=rfl
theorem ako(P:Program)[Tb P](st:St)(d:Option Nat)(ty:TypeId)(K:St->Prop)(f:TypeId)(x:Operand)(a b c:Option Operand):eQ P st ⟨d,.slice f x a b c,ty, "",#[],none⟩ K=aB P st ⟨d,.slice f x a b c,ty, "",#[],none⟩ (fun _=>K):=rfl
theorem akb(P:Program)[Tb P](st:St)(d:Option Nat)(ty:TypeId)(K:St->Prop)(a:TypeId)(x:Operand)(f:Nat):eQ P st ⟨d,.fieldAddr a x f,ty, "",#[],none⟩ K=aB P st ⟨d,.fieldAddr a x f,ty, "",#[],none⟩ (fun _=>K):=rfl
theorem aka(P:Program)[Tb P](st:St)(d:Option Nat)(ty:TypeId)(K:St->Prop)(a:TypeId)(x:Operand)(f:Nat):eQ P st ⟨d,.field a x f,ty, "",#[],none⟩ K=aB P st ⟨d,.field a x f,ty, "",#[],none⟩ (fun _=>K):=rfl
theorem akd(P:Program)[Tb P](st:St)(d:Option Nat)(ty:TypeId)(K:St->Prop)(a:TypeId)(x i:Operand):eQ P st ⟨d,.indexAddr a x i,ty, "",#[],none⟩ K=aB P st ⟨d,.indexAddr a x i,ty, "",#[],none⟩ (fun _=>K):=rfl
theorem akc(P:Program)[Tb P](st:St)(d:Option Nat)(ty:TypeId)(K:St->Prop)(a:TypeId)(x i:Operand):eQ P st ⟨d,.index a x i,ty, "",#[],none⟩ K=aB P st ⟨d,.index a x i,ty, "",#[],none⟩ (fun _=>K):=rfl
theorem akf(P:Program)[Tb P](st:St)(d:Option Nat)(ty:TypeId)(K:St->Prop)(a:TypeId)(x i:Operand)(o:Bool):eQ P st ⟨d,.lookup a x i o,ty, "",#[],none⟩ K=aB P st ⟨d,.lookup a x i o,ty, "",#[],none⟩ (fun _=>K):=rfl
theorem akj(P:Program)[Tb P](st:St)(d:Option Nat)(ty:TypeId)(K:St->Prop)(x:TypeId)(m k v:Operand):eQ P st ⟨d,.mapUpdate x m k v,ty, "",#[],none⟩ K=aB P st ⟨d,.mapUpdate x m k v,ty, "",#[],none⟩ (fun _=>K):=rfl
theorem aj9(P:Program)[Tb P](st:St)(d:Option Nat)(ty:TypeId)(K:St->Prop)(t:Operand)(i:Nat):eQ P st ⟨d,.extract t i,ty, "",#[],none⟩ K=aB P st ⟨d,.extract t i,ty, "",#[],none⟩ (fun _=>K):=rfl
theorem aj1(P:Program)[Tb P](st:St)(d:Option Nat)(ty:TypeId)(K:St->Prop)(b:Builtin)(a:Array Operand)(t:Array TypeId):eQ P st ⟨d,.call {callee:=.builtin b,args:=a,argTypes:=t},ty, "",#[],none⟩ K=aB P st ⟨d,.call {callee:=.builtin b,args:=a,argTypes:=t},ty, "",#[],none⟩ (fun _=>K):=rfl
def aX:=A8 @akk @aj0 @akm @ajZ @aj3 @aj6 @aj7 @ake (A8 @akp @akn @akr @akl @aj2 @akq @aj8 @akg (A8 @akh @aki @ako @akb @aka @akd @akc @akf (Ac @akj @aj9 @aj1)))
def Dp{a b c:Int}(h1:b<=a/\a<=c):Gxx 153 [vi a,vi b,vi c] (vb true):=by obtain⟨h1,h2⟩:=h1;refine gI oW ?_;(repeat' first|refine wO ?_|refine tS ?_ ?_<;>intro h|fail);exact rE []
def aoE(c:Cf)(h:vCf c):Gxx 68 [.agg (cfF c)] (vi 0):=by obtain⟨h1,h2,h3,h4,h5,a,b⟩:=h;have k:=Dp h1;have k2:=Dp h2;have d:=Dp h3;have f:=Dp h4;have g:=Dp h5;have i:=Dp a;have j:=Dp b;obtain⟨c1,l,m,n,p,q,r⟩:=c;refine gI oW ?_;(repeat' first|refine wP ae (Ag k k2 d f g i j) ?_|refine tS ?_ ?_<;>intro s|fail);exact rE []
def au6{e:Nat->V}{bx:Bx}{n b:Nat}{h:Nat->V}{T:TypeId}{cs cs':List V}(hb:bx b=some (T,cs))(i:zq cs cs'):Weak ⟨e,bx,n,h⟩ ⟨e,upd bx b (some (T,cs')),n,h⟩:=by
 intro C L a w S;refine⟨L,S.defers,S.size,S.env,S.hid,fun c x d => ?_,S.wf,S.kp⟩;have d:upd bx b (some (T,cs')) c=some x:=d;by_cases f:c=b
 .subst f;rw[bW]at d;cases d
  obtain⟨g,o,l,k,k2,j⟩:=S.box c _ hb;refine⟨g,o,l,k,k2,?_⟩;have h3:=Z7 i j;rwa [uA,qj (Z5 i)]at h3
 .rw[aV _ _ _ _ f]at d;exact S.box c x d
def aoI(e:Nat->V)(bx:Bx)(n:Nat)(h:Nat->V)(c:Int)(a:0<=c/\c<=16384) :
  GoodE Tryz.prog 69 [vi c] ⟨e,bx,n,h⟩ (Chg e bx n h [] (fun bx' n' r=>∃N:AN,r = .tup [.ref N.a 0,vi 0]/\n<=n'/\(∀k∈N.D,n<=k)/\ArAt bx' n' c [] N)):=by
 obtain⟨h1,h2⟩:=a
 refine lg (fJ [] mix) Tryz.func69 rfl Tryz.results69 rfl Za (fP Za) ?_
 (repeat' first|refine wU (Af @pgE @aK @bu @bz @pgp @Az) ?_|refine tE ?_ ?_<;>intro a|fail)
 refine kz ?_ (ng (jW _ _ _ _) (aP _ _) (aQ _ _) rfl (az _))
 refine⟨_,_,rfl,fun k hk _=>by rw[aV _ _ _ _ Om,aV _ _ _ _ Om],⟨n+1,n,[],0⟩,rfl,by omega,fun k hk => ?_,bW _ _ _,by rw[aV _ _ _ _ Aa,bW];rfl,fun x hx=>(by cases hx),fun k=>Iff.rfl,rfl,by simp,by simp[AN.D],fun k hk => ?_⟩
 all_goals
  simp only[AN.D,dS,fG,BH,sG]at hk
  omega
theorem aok(e:Nat->V)(bx:Bx)(n:Nat)(h:Nat->V)(c:Cf)(m:vCf c) :
  GoodE Tryz.prog 24 [.agg (cfF c)] ⟨e,bx,n,h⟩ (Chg e bx n h [] (fun bx' n' r=>∃(b:Nat) (N:SN),r = .tup [.ref b 0,vi 0]/\n<=n'/\(∀k∈N.D b,n<=k)/\StAt bx' n' b ⟨c,0,0,[],[],[],[]⟩ N)):=by
 have u:=aoE c m
 obtain⟨_,_,p,_⟩:=m
 obtain⟨c1,f,d,g,i,j,l⟩:=c
 simp only at p
 refine lg (fJ [4] mix) Tryz.func24 rfl Tryz.results24 rfl Za (fP Za) ?_
 (repeat' first|refine wED (Ag @pgE @aX @aK @bu @bz @pgp @EX) u ?_|refine tE ?_ ?_<;>intro m|fail)
 refine qR rfl (aoI _ _ _ _ d Om) rfl ?_
 rintro s' r ⟨bx',n',rfl,s,N,rfl,x,v,q⟩
 have hb:=s n Om Aa
 rw[bW]at hb
 (repeat' first|refine wU (Ag @pgE @aX @bu @bz @pgp @EX @hb) ?_|refine tE ?_ ?_<;>intro m|fail)
 have t:∀B:Bx,upd (upd B (n'+1) (some (139,[vi c1,vi f,vi d,vi g,vi i,vi j,vi l,y0,V.mh false n',y0,yn,yn,V.ref N.a 0]))) (n'+1) (some (139,stC ⟨⟨c1,f,d,g,i,j,l⟩,0,0,[],[],[],[]⟩ ⟨n',[],0,N⟩))=upd B (n'+1) (some (139,stC ⟨⟨c1,f,d,g,i,j,l⟩,0,0,[],[],[],[]⟩ ⟨n',[],0,N⟩)):=fun B=>by funext k;simp only[upd];split<;>rfl
 refine Aj (au6 (b:=n'+1) (T:=139) (cs':=stC ⟨⟨c1,f,d,g,i,j,l⟩,0,0,[],[],[],[]⟩ ⟨n',[],0,N⟩) (bW _ _ _) ⟨dJ _,dJ _,dJ _,dJ _,dJ _,dJ _,dJ _,dJ _,dJ _,dJ _,Q5 _ _,Q5 _ _,dJ _,trivial⟩) ?_
 rw[t]
 refine kz ?_ (ng (jW _ _ _ _) (aP _ _) (aQ _ _) rfl (az _))
 have a:∀k∈N.D,k<n':=q.lt
 refine⟨_,_,rfl,fun k hk _=>by rw[aV _ _ _ _ Om,aV _ _ _ _ Om,s k Om Aa,aV _ _ _ _ Om],n'+1,⟨n',[],0,N⟩,rfl,by omega,fun k hk => ?_,bW _ _ _,by rw[aV _ _ _ _ Aa,bW];rfl,rfl,q.of Om fun k hk => ?_,?_,by show n'+1<_/\n'<_;omega⟩
 .simp only[SN.D,fG]at hk;rcases hk with hk|hk|hk
  .omega
  .omega
  .have:=v k hk;omega
 .have:=a k hk;rw[aV _ _ _ _ Om,aV _ _ _ _ Om]
 .simp only[SN.D,Gs,fG,not_or];exact⟨⟨by omega,fun hk=>by have:=a _ hk;omega⟩,fun hk=>by have:=a _ hk;omega,q.nn⟩
def aiU(i j:Nat)(h:i+j<4611686018427387904):IntKind.i64.wrap (((i:Int)+(j:Int)).fdiv (2^min 1 IntKind.u64.bits))=(((i+j) / 2:Nat):Int):=by rw[show(2:Int)^min 1 IntKind.u64.bits=((2:Nat):Int) by rfl,axh _ dX,IntKind.wrap_i64];omega
def aw4(e:Nat->V)(bx:Bx)(n:Nat)(h:Nat->V)(g:FuncId)(cs:List V)(m k:Nat)(hk:k<=1000000)(hm:m<=k)
  (p:∀i:Nat,i<m->∀e h,Gxz g (vi i::cs) ⟨e,bx,n,h⟩ ⟨e,bx,n,h⟩ (vb false)) (h1:∀i:Nat,m<=i->i<k->∀e h,Gxz g (vi i::cs) ⟨e,bx,n,h⟩ ⟨e,bx,n,h⟩ (vb true)) :
  Gxz 259 [vi k,.fn g [] cs] ⟨e,bx,n,h⟩ ⟨e,bx,n,h⟩ (vi m):=by
 refine gZ oW ?_
 (repeat' first|refine wQ (Ac @aK @aH @aG) ?_|refine tS ?_ ?_<;>intro d|fail)
 refine rF (ι:=Nat×Nat) (fun y=>[(1,.fn g [] cs),(5,vi y.1),(6,vi y.2)]) (fun _=>bx) (fun _=>n) (fun _=>bM e h) (fun y=>y.1<=m/\m<=y.2/\y.2<=k) (fun y=>y.2-y.1) (0,k) ?_ (fun _=>.inl rfl) (az _) rfl ⟨ax _,hm,az _⟩ ?_
 .exact eE
 .rintro⟨i,j⟩ ⟨hi,hj,b⟩;simp only at hi hj b;rcases au i j with r|q
  .have l:=aiU i j Om;have a:((i:Int)<(j:Int))=True:=eq_true Om;rcases au ((i+j) / 2) m with c|c
   .have f:=p _ c;(repeat' first|refine wQ (Ad a l @aH @aG) ?_|refine cY (f _ _) ?_|refine tS ?_ ?_<;>intro d|fail);refine qo ((i+j) / 2+1,j) ?_ ?_ ?_ (fun _=>.inl rfl) (az _) rfl
    .exact⟨c,hj,b⟩
    .show j-((i+j) / 2+1)<j-i;omega
    .exact eE
   .have f:=h1 _ c Om;(repeat' first|refine wQ (Ad a l @aH @aG) ?_|refine cY (f _ _) ?_|refine tS ?_ ?_<;>intro d|fail);refine qo (i,(i+j) / 2) ?_ ?_ ?_ (fun _=>.inl rfl) (az _) rfl
    .exact⟨hi,c,by show(i+j) / 2<=k;omega⟩
    .show(i+j) / 2-i<j-i;omega
    .exact eE
  .have a:((i:Int)<(j:Int))=False:=eq_false Om;have:i=m:=Om;subst this;(repeat' first|refine wQ (Ac a @aH @aG) ?_|refine tS ?_ ?_<;>intro d|fail);(refine iL (by first|rfl|skip) (by first|omega|skip))
def aap(a b:Nat)(l:List (Int×Int))(c:Int)(i:Nat)(hi:i<l.length)(q:Bool)(d:decide (c<=(l.getD i (0,0)).1)=q)(e:Nat->V)(bx:Bx)(n:Nat)(h:Nat->V)(ha:bx a=some (28,[.sl .fz 2 (pnV l)]))(hb:bx b=some (3,[vi c]))(g:a<n)(hm:b<n):Gxz 260 [vi i,.ref a 0,.ref b 0] ⟨e,bx,n,h⟩ ⟨e,bx,n,h⟩ (vb q):=by have hg:=qE l i hi;refine gZ oW ?_;(repeat' first|refine wQ (Ag @aK @aH @aG @ha @hb @hg d) ?_|refine tS ?_ ?_<;>intro f|fail);refine bC (aW _ _ _) ?_;rw[aP,aQ]
def plP(c:Int):List (Int×Int)->Nat
 |[]=>0
 |p::l=>if p.1<c then plP c l+1 else 0
def PV(c:Int):∀l:List (Int×Int),plP c l<=l.length/\(∀i,i<plP c l->(l.getD i (0,0)).1<c)/\(plP c l<l.length->c<=(l.getD (plP c l) (0,0)).1)
 |[]=>⟨az _,fun i h=>(by cases h),fun h=>(by cases h)⟩
 |y::l=>by
  obtain⟨h1,h2,h3⟩:=PV c l;unfold plP;split
  .rename_i h;refine⟨by simp;exact h1,fun i hi => ?_,fun hi=>by simpa using h3 (by simpa using hi)⟩;cases i with
   |zero=>exact h
   |succ i=>simpa using h2 i Om
  .grind
def ZQ{l:List (Int×Int)}(hv:vPn l)(i:Nat):∀j,i<j->j<l.length->(l.getD i (0,0)).1<(l.getD j (0,0)).1
 |j+1,h,hj=>by
  have h1:=(hv (j+1) hj).2 Om;rw[uC]at h1;rcases au i j with h2|h2
  .have:=ZQ hv i j h2 Om;omega
  .grind
def XY(l:List (Int×Int))(c:Int)(hl:l.length<=1000000)(hv:vPn l):Gxx 179 [.sl .fz 2 (pnV l),vi c] (vi (plP c l)):=by
 obtain⟨h1,h2,h3⟩:=PV c l
 have b:∀e h,Gxz 259 [vi l.length,.fn 260 [] [.ref 0 0,.ref 1 0]] ⟨e,upd (upd (fun _=>none) 0 (some (28,[.sl .fz 2 (pnV l)]))) 1 (some (3,[vi c])),2,h⟩ ⟨e,upd (upd (fun _=>none) 0 (some (28,[.sl .fz 2 (pnV l)]))) 1 (some (3,[vi c])),2,h⟩ (vi (plP c l)):=fun e h =>
  aw4 e _ 2 h _ _ (plP c l) l.length hl h1 (fun i hi e h=>aap 0 1 l c i Om false (dK (by have:=h2 i hi;omega)) e _ 2 h rfl rfl Om Om)
   (fun i hi a e h=>aap 0 1 l c i a true (eU (by
    have:=h3 Om
    rcases au (plP c l) i with h4|h4
    .have:=ZQ hv _ i h4 a;omega
    .have:plP c l=i:=Om
     rw[<-this];assumption)) e _ 2 h rfl rfl Om Om)
 refine gI oW ?_;(repeat' first|refine wQ @aj.{0,0} ?_|refine aU _ (b _ _) rfl ?_|refine tS ?_ ?_<;>intro d|fail);exact rE []
end Go.Proofs.YtopbmdnbdpjheaaGreat
namespace Go.Proofs.YtopbmdnbdpjheaaGreat
open Go Go.Pg Go.RowKit Go.Lib
def IG:tapp Tryz.prog 145=some (2,16):=Za
theorem rW:Tryz.prog.underlying 28=some (.slice 145):=iw Za
def akF(g n c i m xc:Nat)(arr:Array Value)(cs vs:List Value)(ad:Addr)(w:World)(hi:i<n)(hm:0<m)(hroom:n+m<=c)(hc:c<=9223372036854775807)(hg:w.heap[g]?=some (.cells arr 145 (0,0)))
  (has:arr.size=c*2) (htk:arr.toList.take (n*2)=cs) (hne:ad.block≠g) (had:∃arr t fr,w.heap[ad.block]?=some (.cells arr t fr)/\arr.size≠0) (hvl:vs.length=m*2) (hvs:∀j v,vs[j]?=some v->w.cell? (ad.add j)=some v)
  (h1c:∀v∈cs,v.oneCell'=true) (h1v:∀v∈vs,v.oneCell'=true) :
  Calls Tryz.prog 180 #[.slice (some ⟨g,0,none⟩) n c,.int .i64 i,.slice (some ad) m xc] w fun e w'=>∃u,e = .returned u/\kR w (some g) 145 2 (n+m) (cs.take (i*2)++vs++cs.drop (i*2)) u w':=by
 obtain⟨i0,z,hi0,hz,hzs,hz3,hzb,hpos⟩:=pW IG
 have hcl:cs.length=n*2:=by rw[<-htk,bI,iQ,has];omega
 have hrow:Row w g 0 cs:=⟨arr,_,_,hg,by rw[hcl];simpa using htk⟩
 have hdl:(cs.drop (i*2)).length=(n-i)*2:=by rw[eH,hcl];omega
 obtain⟨A1,hA1⟩:∃A1,A1=(arr.toList.take ((i+m)*2)++cs.drop (i*2)++arr.toList.drop ((i+m)*2+(cs.drop (i*2)).length)).toArray:=⟨_,rfl⟩
 obtain⟨A2,hA2⟩:∃A2,A2=(A1.toList.take (i*2)++vs++A1.toList.drop (i*2+vs.length)).toArray:=⟨_,rfl⟩
 have hs1:A1.size=arr.size:=by rw[hA1];simp only[ou,aN,bI,eH,iQ,hcl,has];omega
 have hs2:A2.size=arr.size:=by rw[hA2];simp only[ou,aN,bI,eH,iQ,hvl,hs1,has];omega
 have hg1:∀W:World,W.heap=w.heap->(W.setRow g A1).heap[g]?=some (.cells A1 145 (0,0)):=fun W hW=>setRow_heap W g arr A1 _ _ (by rw[hW];exact hg)
 have hov:∀(W:World) lb cb,W.heap=w.heap->(callFunc 261 #[.slice (some ad) m xc,.slice (some ⟨g,(i+m)*2,none⟩) lb cb]).run Tryz.prog W = .ok (.value (.bool false)) W:=fun W lb cb hW=>by
  rw[run_callFunc_extern Tryz.func261 Za Za Za (e:=Extern.SlicesOverlaps.overlaps #[28,28] #[4]) Za,
   YN rW hi0 ad ⟨g,(i+m)*2,none⟩ m xc lb cb hne (by rw[hW];exact had) ⟨arr,_,by rw[hW];exact hg,by rw[has];omega⟩]
  rfl
 have hcell:∀W:World,W.heap=w.heap->∀j v,(cs.drop (i*2))[j]?=some v->W.cell? ((⟨g,i*2,none⟩:Addr).add j)=some v:=fun W hW j v hj=>by rw[jO];rw[LZ]at hj;have h:=hrow.cell hj;simp only[World.cell?,hW]at h⊢;simpa using h
 have hcp1:∀ty dc sc,(Builtin.copy_ #[28,28] ty #[.slice (some ⟨g,(i+m)*2,none⟩) (n+m-(i+m)) dc,.slice (some ⟨g,i*2,none⟩) (n+m-i) sc]).run Tryz.prog w.drew = .ok (goInt ((n-i:Nat):Int)) (w.drew.setRow g A1):=fun ty dc sc=>by
  have h:=Bj (P:=Tryz.prog) (ty:=ty) (w:=w.drew) (dCap:=dc) (sCap:=sc) (sT:=28) rW hi0 (g:=g) (o:=(i+m)*2) (dLen:=n+m-(i+m)) (sLen:=n+m-i) (arr:=arr) (ad:=⟨g,i*2,none⟩) (cs:=cs.drop (i*2)) hg
   (by rw[hdl,hz3,Kr Om,Nat.add_sub_add_right]) (hcell w.drew rfl) (by rw[hdl,has];omega) (fun v hv=>h1c v (BG hv))
  rw[<-hA1,show Nat.min (n+m-i) (n+m-(i+m))=n-i by rw[Kr Om,Nat.add_sub_add_right]]at h;exact h
 have hcp2:∀(W:World),W.heap=(w.drew.setRow g A1).heap->∀ty dc,(Builtin.copy_ #[28,28] ty #[.slice (some ⟨g,i*2,none⟩) (n+m-i) dc,.slice (some ad) m xc]).run Tryz.prog W = .ok (goInt ((m:Nat):Int)) (W.setRow g A2):=fun W hW ty dc=>by
  have h:=Bj (P:=Tryz.prog) (ty:=ty) (w:=W) (dCap:=dc) (sCap:=xc) (sT:=28) rW hi0 (g:=g) (o:=i*2) (dLen:=n+m-i) (sLen:=m) (arr:=A1) (ad:=ad) (cs:=vs) (by rw[hW];exact hg1 w.drew rfl)
   (by rw[hvl,hz3,tJ Om]) (fun j v hj=>by
    have h:=hvs j v hj
    have hb:(ad.add j).block=ad.block:=by unfold Addr.add;split<;>rfl
    have h2:=cell_setRow_other w.drew g A1 (ad.add j) (by rw[hb];exact hne)
    simp only[World.cell?,hW]at h h2⊢
    rw[h2];exact h) (by rw[hvl,hs1,has];omega) h1v
  rw[<-hA2,show Nat.min m (n+m-i)=m from tJ Om]at h;exact h
 have hend:kR w (some g) 145 2 (n+m) (cs.take (i*2)++vs++cs.drop (i*2)) (.slice (some ⟨g,0,none⟩) (n+m) c) ((w.drew.setRow g A1).setRow g A2):=by
  refine⟨Ak _ (Ak _ (OH (Hu w _)) (.inl rfl) A1) (.inl rfl) A2,g,c,A2,rfl,setRow_heap _ g A1 A2 _ _ (hg1 w.drew rfl),hroom,hc,by rw[hs2,has],?_,.inl rfl⟩;have e1:arr.toList.take (i*2)=cs.take (i*2):=by rw[<-htk,uA];congr 1;omega
  have e2:A1.toList.take (i*2)=arr.toList.take (i*2):=by rw[hA1];simp only[bZ];rw[axk (by simp only[bI,iQ,has];omega),uA];congr 1;omega
  have e3:(A1.toList.drop (i*2+vs.length)).take ((n-i)*2)=cs.drop (i*2):=by
   rw[hA1,hvl,show i*2+m*2=(i+m)*2 by omega,bZ];show List.take _ (List.drop _ (_++_))=_;have hl:(arr.toList.take ((i+m)*2)).length=(i+m)*2:=by simp only[bI,iQ,has];omega
   rw[List.drop_append_of_le_length (by rw[hl];exact az _),BF (by rw[hl];exact az _),iY];rw[<-hdl];exact pq
  rw[hA2,<-e1,<-e2,<-e3];have hl:(A1.toList.take (i*2)).length=i*2:=by simp only[bI,iQ,hs1,has];omega
  show List.take _ (A1.toList.take (i*2)++vs++_)=_;rw[Gt,oz (by simp only[aN,hl,hvl];omega)];congr 2;simp only[aN,hl,hvl];omega
 have hz1:¬((m:Int)=0):=Om
 have hz2:¬((i:Int)=(n:Int)):=Om
 have hw1:IntKind.i64.wrap ((i:Int)+(m:Int))=(i:Int)+(m:Int):=by rw[IntKind.wrap_i64];omega
 have hw2:IntKind.i64.wrap ((n:Int)+(m:Int))=(n:Int)+(m:Int):=by rw[IntKind.wrap_i64];omega
 have hb1:(0:Int)<=(i:Int)+(m:Int):=Om
 have hin:i<=n:=Om
 have htn:((i:Int)+(m:Int)).toNat=i+m:=Om
 have hb2:¬(c=i+m):=Om
 have hb3:(i:Int)<=(n:Int)+(m:Int):=Om
 have hb4:¬(c=i):=Om
 have mixed:=yQ
 clear hA1 hA2 hs1 hs2 hrow hcl htk has hdl hvl hcell hg1
 go_enter Tryz.func180,Tryz.ntmps180
 go_wp2_with (simp only[hov])
 go_region_law_o (refine step_copy_runI rfl _ _ 28 28 rfl _ _ (by simp[Act.eval,Act.put]) (by simp[Act.eval,Act.put]) (hcp1 _ _ _) ?_)
 go_wp2_with (at_builtin;refine wpList_copy_runI _ rfl _ _ 28 28 rfl _ _ rfl rfl (hcp2 _ rfl _ _) ?_)
 go_ret
 exact⟨_,rfl,hend⟩
def VG{w W:World}{o:Option Nat}{e:TypeId}{n cap:Nat}{cells:List Value}{A:Array Value}(h1:W.os=w.os)(h2:W.tape=w.tape)(h3:W.output=w.output)(h4:w.drawn<=W.drawn)(h5:w.heap.size<=W.heap.size)(h:∀k,k<w.heap.size->W.heap[k]?=w.heap[k]?)
  (a:W.heap[w.heap.size]?=some (.cells A e (0,0))) (c:n<=cap) (b:cap<=maxLen) (d:A.size=cap*2) (f:A.toList.take (n*2)=cells):kR w o e 2 n cells (.slice (some ⟨w.heap.size,0,none⟩) n cap) W :=
 ⟨⟨h1,h2,h3,h5,fun k hk _=>h k hk,h4⟩,w.heap.size,cap,A,rfl,a,c,b,d,f,.inr (az _)⟩
def akD(g n c m xc:Nat)(arr:Array Value)(cs vs:List Value)(ad:Addr)(w:World)(hm:0<m)(h:n+m<=c)(y:c<=9223372036854775807)(hg:w.heap[g]?=some (.cells arr 145 (0,0)))
  (has:arr.size=c*2) (f:arr.toList.take (n*2)=cs) (a:vs.length=m*2) (r:∀j v,vs[j]?=some v->w.cell? (ad.add j)=some v) (p:∀v∈vs,v.oneCell'=true) :
  Calls Tryz.prog 180 #[.slice (some ⟨g,0,none⟩) n c,.int .i64 n,.slice (some ad) m xc] w fun e w'=>∃u,e = .returned u/\kR w (some g) 145 2 (n+m) (cs++vs) u w':=by
 obtain⟨s,z,q,G,F,b,E,x⟩:=pW IG
 have i:cs.length=n*2:=by rw[<-f,bI,iQ,has];omega
 have d:Src Tryz.prog s.size 28 (.slice (some ad) m xc) m vs w:=Src.ofSlice w rW ad m xc vs (by rw[a,b]) r p
 obtain⟨A,hA⟩:∃A,A=(arr.toList.take (n*s.size)++vs++arr.toList.drop (n*s.size+vs.length)).toArray:=⟨_,rfl⟩
 have l:∀ty,(Builtin.append_ #[28,28] ty #[.slice (some ⟨g,0,none⟩) n c,.slice (some ad) m xc]).run Tryz.prog w = .ok (.slice (some ⟨g,0,none⟩) (n+m) c) (w.setRow g A):=fun ty=>by rw[hA];exact IA (P:=Tryz.prog) (ty:=ty) rW q hg d h (by rw[b,a,has];omega)
 have k:kR w (some g) 145 2 (n+m) (cs++vs) (.slice (some ⟨g,0,none⟩) (n+m) c) (w.setRow g A):=by
  refine⟨Ak _ (Hu w _) (.inl rfl) A,g,c,A,rfl,setRow_heap _ g arr A _ _ hg,h,y,?_,?_,.inl rfl⟩
  .rw[hA,b];simp only[ou,aN,bI,eH,iQ,a,has];omega
  .rw[hA,b,f];show List.take _ (cs++vs++_)=_;rw[show(n+m)*2=(cs++vs).length by rw[aN,i,a];omega];exact pq
 have C:¬((m:Int)=0):=Om
 have t:=yQ
 clear hA d f has a i
 go_enter Tryz.func180,Tryz.ntmps180
 go_wp2_with (at_builtin;refine Lib.wpList_append_run _ rfl _ _ _ _ rfl _ _ rfl rfl _ _ (l _) ?_)
 go_ret
 exact⟨_,rfl,k⟩
def VY(base:Option Addr)(n c m xc:Nat)(cs vs:List Value)(ad:Addr)(w:World)(hm:0<m)(hnc:n<=c)(hroom:c<n+m)(hfit:Fits (n+m) 16)(hcl:cs.length=n*2)(hnil:base=none->n=0)
  (hcs:∀a,base=some a->∀j v,cs[j]?=some v->w.cell? (a.add j)=some v) (hvl:vs.length=m*2) (hvs:∀j v,vs[j]?=some v->w.cell? (ad.add j)=some v) (h1v:∀v∈vs,v.oneCell'=true) (o:Option Nat) :
  Calls Tryz.prog 180 #[.slice base n c,.int .i64 n,.slice (some ad) m xc] w fun e w'=>∃u,e = .returned u/\kR w o 145 2 (n+m) (cs++vs) u w':=by
 obtain⟨i0,z,hi0,hz,hzs,hz3,hzb,hpos⟩:=pW IG
 have hsrc:Src Tryz.prog i0.size 28 (.slice (some ad) m xc) m vs w:=Src.ofSlice w rW ad m xc vs (by rw[hvl,hz3]) hvs h1v
 have hold:(Builtin.firstCells i0.size n (.slice base n c)).run Tryz.prog w.drew = .ok cs.toArray w.drew:=by
  cases base with
  |none =>have h0:=hnil rfl;subst h0;have hc0:cs=[]:=kJ (by simpa using hcl);rw[hc0];exact run_firstCells_none w.drew _ 0 0 c
  |some a=>exact run_firstCells_some w.drew i0.size n a n c cs (by rw[hcl,hz3]) (fun j v hj=>hcs a rfl j v hj)
 obtain⟨hf1,hf2⟩:=hfit
 have hrun:∀ty,(Builtin.append_ #[28,28] ty #[.slice base n c,.slice (some ad) m xc]).run Tryz.prog w = .ok (.slice (some ⟨w.heap.size,0,none⟩) (n+m) (grownCap w (n+m) c 145)) (w.drew.alloc (iJ w cs vs (n+m) c 145 z)):=fun ty =>
  run_append_grow_src (P:=Tryz.prog) w 28 28 ty 145 i0 z rW hi0 hz base n c cs hold _ m vs hsrc hroom (by simp only[maxLen]at hf1;omega) (by rw[hzb];exact growslice_fits hroom hf2)
 obtain⟨G,hG⟩:∃G,G=grownCap w (n+m) c 145:=⟨_,rfl⟩
 have hge:n+m<=G:=by rw[hG];exact grownCap_ge w _ _ _
 have hgm:G<=maxLen:=by rw[hG];exact grownCap_le_maxLen w _ _ _ hf1
 have hend:kR w o 145 2 (n+m) (cs++vs) (.slice (some ⟨w.heap.size,0,none⟩) (n+m) G) (w.drew.alloc (iJ w cs vs (n+m) c 145 z)):=by
  refine VG (A:=(cs++vs).toArray++Builtin.zeroCells z.cells (grownCap w (n+m) c 145-(n+m))) rfl rfl rfl (by show w.drawn<=w.drawn+1;omega) Aa (fun k hk=>RowKit.Below.heap_alloc _ _ _ (by simpa using hk)) (heap_alloc_new w.drew _) hge hgm ?_ ?_
  .rw[<-hG];simp only[Ri,ou,size_zeroCells,hzs,aN,hcl,hvl];omega
  .rw[IR,show(n+m)*2=(cs++vs).length by rw[aN,hcl,hvl];omega];exact pq
 rw[<-hG]at hrun
 have hz1:¬((m:Int)=0):=Om
 have mixed:=yQ
 clear hsrc hold hG hvl hcl hf1 hf2
 generalize w.drew.alloc (iJ w cs vs (n+m) c 145 z)=W at hrun hend
 go_enter Tryz.func180,Tryz.ntmps180
 cases base with
 |none =>have h0:=hnil rfl;subst h0;go_wp2_with (at_builtin;refine Lib.wpList_append_run _ rfl _ _ _ _ rfl _ _ rfl rfl _ _ (hrun _) ?_);go_ret;rw[nM]at hend;exact⟨_,rfl,hend⟩
 |some a =>obtain⟨ab,ao,asp⟩:=a;go_wp2_with (at_builtin;refine Lib.wpList_append_run _ rfl _ _ _ _ rfl _ _ rfl rfl _ _ (hrun _) ?_);all_goals(go_ret;exact⟨_,rfl,hend⟩)
def akB(g n c i m xc:Nat)(arr:Array Value)(cs vs:List Value)(ad:Addr)(w:World)(hi:i<n)(hm:0<m)(hnc:n<=c)(hroom:c<n+m)(hfit:Fits (n+m) 16)(hg:w.heap[g]?=some (.cells arr 145 (0,0)))
  (has:arr.size=c*2) (htk:arr.toList.take (n*2)=cs) (hvl:vs.length=m*2) (hvs:∀j v,vs[j]?=some v->w.cell? (ad.add j)=some v) (hva:∃v,w.cell? ad=some v)
  (h1c:∀v∈cs,v.oneCell'=true) (h1v:∀v∈vs,v.oneCell'=true) (o:Option Nat) :
  Calls Tryz.prog 180 #[.slice (some ⟨g,0,none⟩) n c,.int .i64 i,.slice (some ad) m xc] w fun e w'=>∃u,e = .returned u/\kR w o 145 2 (n+m) (cs.take (i*2)++vs++cs.drop (i*2)) u w':=by
 obtain⟨i0,z,hi0,hz,hzs,hz3,hzb,hpos⟩:=pW IG
 have hcl:cs.length=n*2:=by rw[<-htk,bI,iQ,has];omega
 have hrow:Row w g 0 cs:=⟨arr,_,_,hg,by rw[hcl];simpa using htk⟩
 have hdl:(cs.drop (i*2)).length=(n-i)*2:=by rw[eH,hcl];omega
 have hgw:g<w.heap.size:=(lW.1 hg).1
 have haw:ad.block<w.heap.size:=by obtain⟨v,hv⟩:=hva;exact World.block_lt_of_cell? _ _ hv
 obtain⟨hf1,hf2⟩:=hfit
 have hkk:(n:Int)+(m:Int)-(i:Int)=((n+m-i:Nat):Int):=Om
 have hik:i+(n+m-i)=n+m:=Om
 have hold:(Builtin.firstCells i0.size i (.slice (some ⟨g,0,none⟩) i c)).run Tryz.prog w.drew = .ok (cs.take (i*2)).toArray w.drew :=
  run_firstCells_some w.drew i0.size i ⟨g,0,none⟩ i c (cs.take (i*2)) (by rw[bI,hcl,hz3];omega) (fun j v hj=>by
   rw[jO,World.cell?_drew]
   rw[aat]at hj
   split at hj
   .exact hrow.cell hj
   .cases hj)
 obtain⟨G,hG⟩:∃G,G=grownCap w (n+m) c 145:=⟨_,rfl⟩
 have hge:n+m<=G:=by rw[hG];exact grownCap_ge w _ _ _
 have hgm:G<=maxLen:=by rw[hG];exact grownCap_le_maxLen w _ _ _ hf1
 obtain⟨ROW,hROW⟩:∃ROW:Array Value,ROW=(cs.take (i*2)).toArray++Builtin.zeroCells z.cells (n+m-i)++Builtin.zeroCells z.cells (G-(n+m)):=⟨_,rfl⟩
 have hrz:∀ty,(Builtin.append_ #[28,3] ty #[.slice (some ⟨g,0,none⟩) i c,.int .i64 ((n:Int)+(m:Int)-(i:Int))]).run Tryz.prog w = .ok (.slice (some ⟨w.heap.size,0,none⟩) (n+m) G) (w.drew.alloc (.cells ROW 145)):=fun ty=>by have h:=Lib.run_append_grow_zeros (P:=Tryz.prog) w 28 3 ty 145 i0 z .i64 .i64 rW ZK hi0 hz (some ⟨g,0,none⟩) i c (cs.take (i*2)) hold (n+m-i) Om Om Om (by simp only[maxLen]at hf1;omega) (by rw[hzb];omega) (by rw[hzb,hik];exact growslice_fits hroom hf2);rw[hik,<-hG,<-hROW]at h;rw[hkk];exact h
 have hRs:ROW.size=G*2:=by rw[hROW];simp only[Ri,ou,size_zeroCells,hzs,bI,hcl];omega
 have hRt:ROW.toList.take (i*2)=cs.take (i*2):=by
  rw[hROW,Array.append_assoc,IR];have hl:(cs.take (i*2)).length=i*2:=by rw[bI,hcl];omega
  have:=@pq Value (cs.take (i*2)) (Builtin.zeroCells z.cells (n+m-i)++Builtin.zeroCells z.cells (G-(n+m))).toList;rw[hl]at this;exact this
 obtain⟨N,hN⟩:∃N,N=w.heap.size:=⟨_,rfl⟩
 obtain⟨W1,hW1⟩:∃W1,W1=w.drew.alloc (.cells ROW 145):=⟨_,rfl⟩
 have hWN:W1.heap[N]?=some (.cells ROW 145 (0,0)):=by rw[hW1,hN];exact heap_alloc_new w.drew _
 have hWo:∀k,k<N->W1.heap[k]?=w.heap[k]?:=fun k hk=>by rw[hW1];exact RowKit.Below.heap_alloc _ _ _ (by subst hN;simpa using hk)
 obtain⟨A1,hA1⟩:∃A1,A1=(ROW.toList.take (i*2)++vs++ROW.toList.drop (i*2+vs.length)).toArray:=⟨_,rfl⟩
 obtain⟨A2,hA2⟩:∃A2,A2=(A1.toList.take ((i+m)*2)++cs.drop (i*2)++A1.toList.drop ((i+m)*2+(cs.drop (i*2)).length)).toArray:=⟨_,rfl⟩
 have hs1:A1.size=G*2:=by rw[hA1];simp only[ou,aN,bI,eH,iQ,hvl,hRs];omega
 have hs2:A2.size=G*2:=by rw[hA2];simp only[ou,aN,bI,eH,iQ,hcl,hs1];omega
 have hc1:∀W:World,W.heap=W1.heap->∀x:Addr,x.block<N->W.cell? x=w.cell? x:=fun W hW x hx=>by simp only[World.cell?,hW,hWo _ hx]
 have hc2:∀W:World,W.heap=(W1.setRow N A1).heap->∀x:Addr,x.block<N->W.cell? x=w.cell? x:=fun W hW x hx=>by have h:=setRow_other W1 N x.block A1 Om;simp only[World.cell?,hW,h,hWo _ hx]
 have hab:∀(x:Addr) j,(x.add j).block=x.block:=fun x j=>by unfold Addr.add;split<;>rfl
 have hcpA:∀(W:World),W.heap=W1.heap->∀ty dc,(Builtin.copy_ #[28,28] ty #[.slice (some ⟨N,i*2,none⟩) (n+m-i) dc,.slice (some ad) m xc]).run Tryz.prog W = .ok (goInt ((m:Nat):Int)) (W.setRow N A1):=fun W hW ty dc=>by
  have h:=Bj (P:=Tryz.prog) (ty:=ty) (w:=W) (dCap:=dc) (sCap:=xc) (sT:=28) rW hi0 (g:=N) (o:=i*2) (dLen:=n+m-i) (sLen:=m) (arr:=ROW) (ad:=ad) (cs:=vs) (by rw[hW];exact hWN)
   (by rw[hvl,hz3,tJ Om]) (fun j v hj=>by rw[hc1 W hW _ (by rw[hab,hN];exact haw)];exact hvs j v hj) (by rw[hvl,hRs];omega) h1v
  rw[<-hA1,show Nat.min m (n+m-i)=m from tJ Om]at h;exact h
 have hcpB:∀(W:World),W.heap=(W1.setRow N A1).heap->∀ty dc sc,(Builtin.copy_ #[28,28] ty #[.slice (some ⟨N,(i+m)*2,none⟩) (n+m-(i+m)) dc,.slice (some ⟨g,i*2,none⟩) (n-i) sc]).run Tryz.prog W = .ok (goInt ((n-i:Nat):Int)) (W.setRow N A2):=fun W hW ty dc sc=>by
  have h:=Bj (P:=Tryz.prog) (ty:=ty) (w:=W) (dCap:=dc) (sCap:=sc) (sT:=28) rW hi0 (g:=N) (o:=(i+m)*2) (dLen:=n+m-(i+m)) (sLen:=n-i) (arr:=A1) (ad:=⟨g,i*2,none⟩) (cs:=cs.drop (i*2)) (by rw[hW];exact setRow_heap W1 N ROW A1 _ _ hWN)
   (by rw[hdl,hz3,tJ Om]) (fun j v hj=>by
    rw[hc2 W hW _ (by rw[hab,hN];exact hgw),jO]
    rw[LZ]at hj
    have h:=hrow.cell hj
    simpa using h) (by rw[hdl,hs1];omega) (fun v hv=>h1c v (BG hv))
  rw[<-hA2,show Nat.min (n-i) (n+m-(i+m))=n-i from tJ Om]at h;exact h
 have hend:∀W:World,W.os=w.os->W.tape=w.tape->W.output=w.output->w.drawn<=W.drawn->W.heap=((W1.setRow N A1).setRow N A2).heap->kR w o 145 2 (n+m) (cs.take (i*2)++vs++cs.drop (i*2)) (.slice (some ⟨N,0,none⟩) (n+m) G) W:=by
  intro W h1 h2 h3 h4 h5;subst hN;refine VG (A:=A2) h1 h2 h3 h4 (by rw[h5];simp[hW1]) (fun k hk=>by rw[h5,setRow_other _ _ _ _ Om,setRow_other _ _ _ _ Om,hWo k hk]) (by rw[h5];exact setRow_heap _ _ A1 A2 _ _ (setRow_heap W1 _ ROW A1 _ _ hWN)) hge hgm hs2 ?_;have e1:A1.toList.take ((i+m)*2)=cs.take (i*2)++vs:=by rw[hA1,hRt];show List.take _ (cs.take (i*2)++vs++_)=_;rw[show(i+m)*2=(cs.take (i*2)++vs).length by rw[aN,bI,hcl,hvl];omega];exact pq
  rw[hA2,e1];show List.take _ (cs.take (i*2)++vs++cs.drop (i*2)++_)=_;rw[show(n+m)*2=(cs.take (i*2)++vs++cs.drop (i*2)).length by rw[aN,aN,bI,hcl,hvl,hdl];omega];exact pq
 have hz1:¬((m:Int)=0):=Om
 have hz2:¬((i:Int)=(n:Int)):=Om
 have hz3':(c:Int)<(n:Int)+(m:Int):=Om
 have hw1:IntKind.i64.wrap ((i:Int)+(m:Int))=(i:Int)+(m:Int):=by rw[IntKind.wrap_i64];simp only[maxLen]at hf1;omega
 have hw2:IntKind.i64.wrap ((n:Int)+(m:Int))=(n:Int)+(m:Int):=by rw[IntKind.wrap_i64];simp only[maxLen]at hf1;omega
 have hw3:IntKind.i64.wrap ((n:Int)+(m:Int)-(i:Int))=(n:Int)+(m:Int)-(i:Int):=by rw[IntKind.wrap_i64];simp only[maxLen]at hf1;omega
 have hb1:(0:Int)<=(i:Int)+(m:Int):=Om
 have hin:i<=n:=Om
 have hic:(i:Int)<=(c:Int):=Om
 have htn:((i:Int)+(m:Int)).toNat=i+m:=Om
 have hb3:(i:Int)<=(n:Int):=Om
 have hb5:(i:Int)<=(n:Int)+(m:Int):=Om
 have hGi:¬(G=i):=Om
 have hGim:¬(G=i+m):=Om
 have hci:¬(c=i):=Om
 have mixed:=yQ
 rw[<-hW1,<-hN]at hrz
 have hdw:w.drawn<=W1.drawn:=by rw[hW1];show w.drawn<=w.drawn+1;omega
 have hos:W1.os=w.os:=by rw[hW1];rfl
 have htp:W1.tape=w.tape:=by rw[hW1];rfl
 have hou:W1.output=w.output:=by rw[hW1];rfl
 clear hkk hik hold hROW hG hRs hRt hA1 hA2 hs1 hs2 hrow hcl htk has hdl hvl hc1 hc2 hWN hWo hab hN hW1 hf1 hf2 hgm
 go_enter Tryz.func180,Tryz.ntmps180
 go_wp2_with (first
  |(at_builtin;refine Lib.wpList_append_run _ rfl _ _ _ _ rfl _ _ rfl rfl _ _ (hrz _) ?_)
  |(at_builtin;refine wpList_copy_runI _ rfl _ _ 28 28 rfl _ _ rfl rfl (hcpA _ rfl _ _) ?_))
 go_region_law_o (refine step_copy_runI rfl _ _ 28 28 rfl (.slice (some ⟨N,(i+m)*2,none⟩) (n+m-(i+m)) (G-(i+m))) (.slice (some ⟨g,i*2,none⟩) (n-i) (c-i)) (by simp[Act.eval,Act.put]) (by simp[Act.eval,Act.put]) (hcpB (W1.setRow N A1).drew rfl 3 (G-(i+m)) (c-i)) ?_)
 go_wp2
 go_ret
 exact⟨_,rfl,hend _ hos htp hou (by show w.drawn<=W1.drawn+1;omega) rfl⟩
def afu:oI Tryz.prog 180=true:=Za
def aw0:∀(w:World) (o:Option Nat) (n cap i:Nat) (cells vs:List Value) (ad:Addr) (xc:Nat),i<=n->InsArg Tryz.prog w o 145 2 16 n cap cells vs ad xc ->
   Calls Tryz.prog 180 #[.slice (o.map fun g=>⟨g,0,none⟩) n cap,.int .i64 i,.slice (some ad) 1 xc] w fun e' w'=>∃u,e' = .returned u/\kR w o 145 2 (n+1) (cells.take (i*2)++vs++cells.drop (i*2)) u w':=by
 rintro w o n cap i cells vs ad xc L ⟨d,E,A,s,G,N,f,r,m,k,M⟩
 have c:vs.length=1*2:=G
 have F:∃v,w.cell? ad=some v:=by
  have C:0<vs.length:=Om;have h:=f 0 vs[0] (by rw[dY C]);have H:ad.add 0=ad:=by obtain⟨b,of,P⟩:=ad;simp only at A;subst A;rw[jO];rfl
  rw[H]at h;exact⟨_,h⟩
 rcases au i n with x|K
 .rcases d with⟨_,C,_⟩|⟨g,arr,rfl,hg,q,p,has,l,y⟩
  .omega
  .rcases au cap (n+1)with h|h
   .exact akB g n cap i 1 xc arr cells vs ad w x Om q h k hg has l c f F r m (some g)
   .exact akF g n cap i 1 xc arr cells vs ad w x Om h p hg has l y E c f r m
 .have t:i=n:=Om;subst t;have I:cells.take (i*2)=cells:=oz Om;have J:cells.drop (i*2)=[]:=BF Om;rw[I,J,gV];rcases d with⟨rfl,C,h1,h2⟩|⟨g,arr,rfl,hg,q,p,has,l,y⟩
  .subst C;subst h1;subst h2;exact VY none 0 0 1 xc [] vs ad w Om Om Om k Aa (fun _=>rfl) (fun a h=>by cases h) c f m none
  .rcases au cap (i+1)with h|h
   .refine VY (some ⟨g,0,none⟩) i cap 1 xc cells vs ad w Om q h k s (fun h=>by cases h) (fun a ha j v hj => ?_) c f m (some g);cases ha
    rw[jO];have d:Row w g 0 cells:=⟨arr,_,_,hg,by rw[s];simpa using l⟩;exact d.cell hj
   .exact akD g i cap 1 xc arr cells vs ad w Om h p hg has l c f m
def aw2(e:Nat->V)(bx:BX)(n:Nat)(h:Nat->V)(id:Nat)(xs:List V)(x:V)(t:Tag)(i:Nat)(hid:id<n)(hi:i<=xs.length)(hf:Fits (xs.length+1) 16)(b:t = .fz\/∃j a,t = .own j a/\j≠id) :
  Gxz 180 [.sl (.own id 145) 2 xs,.c (.int .i64 (i:Int)),.sl t 2 [x]] ⟨e,bx,n,h⟩ ⟨bD (aF id) e,df (aF id) bx,n,bD (aF id) h⟩ (.sl (.own id 145) 2 (xs.take i++[x]++xs.drop i)):=by
 have key:∀s:St,Gxz 180 [.sl (.own id 145) 2 xs,.c (.int .i64 (i:Int)),.sl t 2 [x]] s {s.mapV (aF id)with nid:=max s.nid (id+1)} (.sl (.own id 145) 2 (xs.take i++[x]++xs.drop i)):=fun s=>by refine VI (bytes:=16) afu dX ?_ id xs x t b i s hi hf;exact@aw0
 have k:=key ⟨e,bx,n,h⟩
 have hm:max n (id+1)=n:=Om
 simp only[hm]at k
 exact k
end Go.Proofs.YtopbmdnbdpjheaaGreat
namespace Go.Proofs.YtopbmdnbdpjheaaGreat
open Go Go.Pg
def RU(c:Int):∀l:List (Int×Int),fQ c l=if plP c l<l.length/\(l.getD (plP c l) (0,0)).1=c then l.set (plP c l) (c,(l.getD (plP c l) (0,0)).2+1)else l.take (plP c l)++[(c,1)]++l.drop (plP c l)
 |[]=>rfl
 |y::l=>by
  have i:=RU c l;unfold fQ plP;by_cases h1:y.1<c
  .grind
  .rw[ag h1];grind
def Ya(l:List (Int×Int))(i:Nat)(a b:Int):(pnV l).set i (.agg [vi a,vi b])=pnV (l.set i (a,b)):=by simp_all
def apg(l:List (Int×Int))(p:Nat)(a b:Int):(pnV l).take p++[.agg [vi a,vi b]]++(pnV l).drop p=pnV (l.take p++[(a,b)]++l.drop p):=by simp_all
def anD(l:List (Int×Int))(c:Int)(hl:l.length<=100000)(hv:vPn l)(f:0<=c)(hf:∀i,i<l.length->(l.getD i (0,0)).2<1024):Gxx 82 [.sl .fz 2 (pnV l),vi c] (.tup [.sl (.own 0 145) 2 (pnV (fQ c l)),vi 0]):=by
 have k:=XM l Om hv;have k2:=XY l c Om hv;have g:=Yq l Om;obtain⟨r,s,u⟩:=PV c l;rw[RU];generalize plP c l=p at *;by_cases h:p<l.length/\(l.getD p (0,0)).1=c
 .rw[ah h,<-Ya];obtain⟨h1,h2⟩:=h;have hg:=qE l p h1;have h3:=hf p h1;have v:=(hv p h1).1.2.1;rw[h2]at hg;generalize(l.getD p (0,0)).2=q at *;have a:((p:Int)<(l.length:Int))=True:=eq_true Om;have j:(q=1024)=False:=eq_false Om;refine gI oW ?_;(repeat' first|refine wP (Ad @aj.{0,0} @hg a j) (Ac k k2 g) ?_|refine tS ?_ ?_<;>intro f|fail);exact rE [0]
 .rw[ag h,<-apg];have d:Fits ((pnV l).length+1) 16:=by rw[aj];exact⟨by simp only[maxLen];omega,by omega⟩
  have b:=fun e bx n h id t i hid hi m=>aw2 e bx n h id (pnV l) (.agg [vi c,vi 1]) t i hid hi d m
  rcases au p l.length with h1|h1
  .have hg:=qE l p h1;have h2:((l.getD p (0,0)).1=c)=False:=eq_false (fun h2=>h ⟨h1,h2⟩);generalize l.getD p (0,0)=q at *;have a:((p:Int)<(l.length:Int))=True:=eq_true Om;refine gI (fJ [] mix) ?_;(repeat' first|refine wED (Ae @pgE @aj.{0,0} @hg a @h2) (Ac k k2 g) ?_|(refine tC ?_;refine aU _ (b _ _ _ _ 0 _ _ dX (by rw[aj];omega) (.inr ⟨_,_,rfl,by decide⟩)) rfl ?_)|refine tE ?_ ?_<;>intro f|fail);exact rE [0]
  .have a:((p:Int)<(l.length:Int))=False:=eq_false Om;refine gI (fJ [] mix) ?_;(repeat' first|refine wED (Ac @pgE @aj.{0,0} a) (Ac k k2 g) ?_|(refine tC ?_;refine aU _ (b _ _ _ _ 0 _ _ dX (by rw[aj];omega) (.inr ⟨_,_,rfl,by decide⟩)) rfl ?_)|refine tE ?_ ?_<;>intro f|fail);exact rE [0]
end Go.Proofs.YtopbmdnbdpjheaaGreat
namespace Go.Proofs.YtopbmdnbdpjheaaGreat
open Go Go.Pg Go.RowKit Go.Lib
def atS{P:Program}{ops:Array Oper}{o:Oper}{a:Act}{w:World}{K:Act->World->Prop}{Q:Exit->Act->World->Prop}{E:Prop}
  (hg:o.guard=none) (d x:Operand) (dT sT:TypeId) (h:o.op=Op.call {callee:=Callee.builtin Builtin.append,args:=#[d,x],argTypes:=#[dT,sT]})
  (v u:Value) (hd:a.eval d=v) (hx:a.eval x=u) {b:Value} {w':World} (c:(Builtin.append_ #[dT,sT] o.type #[v,u]).run P w = .ok b w') (hK:K (a.put o.dst b) w') :
  if Region.wanted o (yielded ops a.tmps)=true then Oper.wp P o a w K Q else E:=by
 have f:Region.wanted o (yielded ops a.tmps)=true:=by simp[Region.wanted,hg]
 rw[ah f]
 unfold Oper.wp
 simp[execOp,h,resolve,invoke,builtin,hd,hx,c]
 exact hK
def aqP{P:Program}{w:World}{t e ty e':TypeId}{z:Value}(b:P.underlying t=some (.slice e))(hv:∀w,(zeroValue e).run P w = .ok z w){g o n c:Nat}{arr:Array Value}(hg:w.heap[g]?=some (.cells arr e' (0,0)))
  (h:o+(Builtin.zeroCells z.cells (n+1)).toList.length<=arr.size) (h1:∀v∈(Builtin.zeroCells z.cells (n+1)).toList,v.oneCell'=true) :
  (Builtin.clear_ #[t] ty #[.slice (some ⟨g,o,none⟩) (n+1) c]).run P w = .ok (.tuple #[]) (w.setRow g (arr.toList.take o++(Builtin.zeroCells z.cells (n+1)).toList++arr.toList.drop (o+(Builtin.zeroCells z.cells (n+1)).toList.length)).toArray):=by
 have a:=run_storeCells_at P g o e' (Builtin.zeroCells z.cells (n+1)).toList 0 arr w hg (by simpa using h) h1
 simp[Builtin.clear_,run_underlying b,hv,a]
theorem akz(g n c i:Nat)(arr:Array Value)(cs:List Value)(w:World)(hi:i<n)(hnc:n<=c)(hc:c<=9223372036854775807)(hg:w.heap[g]?=some (.cells arr 145 (0,0)))
    (has:arr.size=c*2) (htk:arr.toList.take (n*2)=cs) (h1c:∀v∈cs,v.oneCell'=true) :
    Calls Tryz.prog 239 #[.slice (some ⟨g,0,none⟩) n c,.int .i64 i,.int .i64 (i+1)] w fun e w'=>∃u,e = .returned u/\kR w (some g) 145 2 (n-1) (cs.take (i*2)++cs.drop ((i+1)*2)) u w':=by
  obtain⟨i0,z,hi0,hz,hzs,hz3,hzb,hpos⟩:=pW IG
  have hcl:cs.length=n*2:=by rw[<-htk,bI,iQ,has];omega
  have hrow:Row w g 0 cs:=⟨arr,_,_,hg,by rw[hcl];simpa using htk⟩
  have hdl:(cs.drop ((i+1)*2)).length=(n-(i+1))*2:=by rw[eH,hcl];omega
  have hZ:((Tryz.prog.info? 145).bind (·.zero)).map (fun z=>(Builtin.zeroCells z.cells 1).toList)=some [Value.int .i64 0,Value.int .i64 0]:=by kernel_rfl
  rw[hi0,dZ,hz,mQ,aO] at hZ
  have hzv:∀w,(zeroValue 145).run Tryz.prog w = .ok z w:=fun w=>by simp [zeroValue,typeInfo,hi0,hz]
  obtain⟨A1,hA1⟩:∃A1,A1=(arr.toList.take (i*2)++cs.drop ((i+1)*2)++arr.toList.drop (i*2+(cs.drop ((i+1)*2)).length)).toArray:=⟨_,rfl⟩
  obtain⟨A2,hA2⟩:∃A2,A2=(A1.toList.take ((n-1)*2)++[Value.int .i64 0,Value.int .i64 0]++A1.toList.drop ((n-1)*2+2)).toArray:=⟨_,rfl⟩
  have hs1:A1.size=arr.size:=by
    rw[hA1];simp only[ou,aN,bI,eH,iQ,hcl,has];omega
  have hs2:A2.size=arr.size:=by
    rw[hA2];simp only[ou,aN,bI,eH,iQ,hs1,has,dB,o9];omega
  have hend:kR w (some g) 145 2 (n-1) (cs.take (i*2)++cs.drop ((i+1)*2)) (.slice (some ⟨g,0,none⟩) (n-1) c) ((w.drew.setRow g A1).setRow g A2):=by
    refine⟨Ak _ (Ak _ (OH (Hu w _)) (.inl rfl) A1) (.inl rfl) A2,g,c,A2,rfl,setRow_heap _ g A1 A2 _ _ (setRow_heap _ g arr A1 _ _ hg),by omega,hc,by omega, ?_,.inl rfl⟩
    have e1:A1.toList.take ((n-1)*2)=cs.take (i*2)++cs.drop ((i+1)*2):=by
      have e0:arr.toList.take (i*2)=cs.take (i*2):=by rw[<-htk,uA,qj (by omega)]
      rw[hA1,e0]
      show List.take _ (cs.take (i*2)++cs.drop ((i+1)*2)++_)=_
      rw[show (n-1)*2=(cs.take (i*2)++cs.drop ((i+1)*2)).length by rw[aN,bI,hcl,hdl];omega]
      exact pq
    rw[hA2]
    show List.take _ (A1.toList.take ((n-1)*2)++_++_)=_
    rw[<-e1,bZ]
    have hl:(A1.toList.take ((n-1)*2)).length=(n-1)*2:=by rw[bI,iQ,hs1,has];omega
    exact List.take_left' hl
  have hap:∀ty ad xc,(n-(i+1)≠0->ad=⟨g,(i+1)*2,none⟩)->(Builtin.append_ #[28,28] ty #[.slice (some ⟨g,0,none⟩) i c,.slice (some ad) (n-(i+1)) xc]).run Tryz.prog w.drew = .ok (.slice (some ⟨g,0,none⟩) (i+(n-(i+1))) c) (w.drew.setRow g A1):=fun ty ad xc had=>by
    have hsrc:Src Tryz.prog i0.size 28 (.slice (some ad) (n-(i+1)) xc) (n-(i+1)) (cs.drop ((i+1)*2)) w.drew:=Src.ofSlice w.drew rW ad _ xc _ (by rw[hdl,hz3]) (fun j v hj=>by
      rw[had (fun h=>by have e0:cs.drop ((i+1)*2)=[]:=kJ (by rw[hdl,h]);rw[e0] at hj;simp at hj),jO]
      rw[LZ] at hj
      have h:=hrow.cell hj
      simpa using h) (fun v hv=>h1c v (BG hv))
    have h:=IA (P:=Tryz.prog) (ty:=ty) (w:=w.drew) rW hi0 (g:=g) (n:=i) (cap:=c) (arr:=arr) hg hsrc (by omega) (by rw[hz3,hdl,has];omega)
    rw[hz3,<-hA1] at h
    exact h
  have hclr:∀ty xc,(Builtin.clear_ #[28] ty #[.slice (some ⟨g,(n-1)*2,none⟩) 1 xc]).run Tryz.prog (w.drew.setRow g A1) = .ok (.tuple #[]) ((w.drew.setRow g A1).setRow g A2):=fun ty xc=>by
    have h:=aqP (P:=Tryz.prog) (w:=w.drew.setRow g A1) (ty:=ty) rW hzv (g:=g) (o:=(n-1)*2) (n:=0) (c:=xc) (arr:=A1) (e':=145) (setRow_heap _ g arr A1 _ _ hg) (by rw[hZ,hs1,has];simp;omega) (by rw[hZ];intro v hv;simp only[fG,BH,sG,or_self] at hv;subst hv;rfl)
    rw[hZ] at h
    rw[hA2]
    exact h
  have hnn:i+(n-(i+1))=n-1:=by omega
  rw[hnn] at hap
  have hn1:n-(n-1)=1:=by omega
  have hneq:((i:Int) == (i:Int)+1)=false:=by rw[beq_eq_false_iff_ne];omega
  have hic:i<=c:=by omega
  have hjc:i+1<=c:=by omega
  have hjn:i+1<=n:=by omega
  have hij:(i:Int)+1<=n:=by omega
  have hijc:(i:Int)+1<=c:=by omega
  have htn:((i:Int)+1).toNat=i+1:=by omega
  have hb1:(0:Int)<=(i:Int)+1:=by omega
  have mixed:=yQ
  clear hA1 hA2 hs1 hs2 hrow hcl htk has hdl hZ hzv
  go_enter Tryz.func239,Tryz.ntmps239
  go_wp2_with fail
  go_region_law_o (refine atS rfl _ _ 28 28 rfl (.slice (some ⟨g,0,none⟩) i c) (.slice (if c=i+1 then some ⟨g,0,none⟩ else some ⟨g,(i+1)*2,none⟩) (n-(i+1)) (c-(i+1))) (by simp [Act.eval,Act.put]) (by simp [Act.eval,Act.put]) (by
    by_cases hci:c=i+1
    . rw[ah hci];exact hap _ _ _ (fun h=>by omega)
    . rw[ag hci];exact hap _ _ _ (fun _=>rfl)) ?_)
  all_goals
    go_wp2
    all_goals
      go_ret
      first
      | exact⟨_,rfl,hend⟩
      | (have hci:c=i+1:=by first|assumption|omega
         rw[hci] at hend
         exact⟨_,rfl,hend⟩)
def awY(e:Nat->V)(bx:BX)(n:Nat)(h:Nat->V)(id:Nat)(xs:List V)(i:Nat)(hid:id<n)(hi:i<xs.length) :
  Gxz 239 [.sl (.own id 145) 2 xs,.c (.int .i64 (i:Int)),.c (.int .i64 ((i:Int)+1))] ⟨e,bx,n,h⟩ ⟨bD (aF id) e,df (aF id) bx,n,bD (aF id) h⟩ (.sl (.own id 145) 2 (xs.take i++xs.drop (i+1))):=by
 have key:∀s:St,Gxz 239 [.sl (.own id 145) 2 xs,.c (.int .i64 (i:Int)),.c (.int .i64 ((i:Int)+1))] s {s.mapV (aF id)with nid:=max s.nid (id+1)} (.sl (.own id 145) 2 (xs.take i++xs.drop (i+1))):=by
  intro s;rintro C L a w f H S ⟨u,r,rfl,⟨ad,cap,cells,rfl,h2,h3⟩,⟨K,I,rfl,c,⟨M,J,rfl,d,m⟩⟩⟩;simp only[Reps,Rep]at m c d;subst m;subst c;subst d;refine .inl ⟨by kernel_rfl,?_⟩;rcases h3 with⟨h4,_⟩|⟨g,arr,h4,rfl,h5,p,q,t,v⟩
  .omega
  .refine(akz g xs.length cap i arr cells w hi p q h5 t v h2.one).mono ?_;rintro e' w' ⟨u,rfl,T,G,l,arr',rfl,x,k2,y,A,E,F⟩;have b:(xs.take i++xs.drop (i+1)).length=xs.length-1:=by simp;omega
   have:=VH (ys:=xs.take i++xs.drop (i+1)) S (fun j hj=>by cases hj;exact h4) T x F ((h2.take i).append (h2.drop (i+1))) (by rw[b];exact k2) y A (by rw[b];exact E);rw[b]at this;exact⟨_,_,rfl,this.1,this.2⟩
 have k:=key ⟨e,bx,n,h⟩
 have hm:max n (id+1)=n:=by omega
 simp only[hm]at k
 exact k
end Go.Proofs.YtopbmdnbdpjheaaGreat
namespace Go.Proofs.YtopbmdnbdpjheaaGreat
open Go Go.Pg
def uh(c:Int)(l:List (Int×Int)):List (Int×Int) :=
 if(l.getD (plP c l) (0,0)).2=1 then l.take (plP c l)++l.drop (plP c l+1)else l.set (plP c l) (c,(l.getD (plP c l) (0,0)).2-1)
def aos(l:List (Int×Int))(c:Int)(hl:l.length<=100000)(hv:vPn l)(h1:plP c l<l.length)(h2:(l.getD (plP c l) (0,0)).1=c):Gxx 152 [.sl .fz 2 (pnV l),vi c] (.tup [.sl (.own 0 145) 2 (pnV (uh c l)),vi 0]):=by
 have m:=XM l Om hv;have k2:=XY l c Om hv;have r:=Yq l Om;unfold uh;generalize plP c l=p at *;have hg:=qE l p h1;have h3:=(hv p h1).1.2;rw[h2]at hg;have f:((p:Int)=(l.length:Int))=False:=eq_false Om;by_cases g:(l.getD p (0,0)).2=1
 .rw[ah g];rw[g]at hg;have k:pnV (l.take p++l.drop (p+1))=((pnV l).set p (.agg [vi c,vi 0])).take p++((pnV l).set p (.agg [vi c,vi 0])).drop (p+1):=by rw[List.take_set_of_le (az _),List.drop_set_of_lt Om];simp[aau,L8]
  have b:((pnV l).set p (V.agg [vi c,vi 0])).length=l.length:=by rw[nI,aj]
  have a:((pnV l).set p (V.agg [vi c,vi 0]))[p]?=some (V.agg [vi c,vi 0]):=by simp[h1]
  rw[k];clear k;generalize d:(pnV l).set p (V.agg [vi c,vi 0])=ys at *;have j:=fun e bx n h id hid=>awY e bx n h id ys p hid Om
  refine gI (fJ [] mix) ?_;(repeat' first|refine wED (Ag @pgE @aj.{0,0} d b a @hg f) (Ac m k2 r) ?_|(refine tC ?_;refine aU _ (j _ _ _ _ 0 dX) rfl ?_)|refine tE ?_ ?_<;>intro s|fail);exact rE [0]
 .rw[ag g,<-Ya];generalize(l.getD p (0,0)).2=q at *;have b:((pnV l).set p (V.agg [vi c,vi (q-1)])).length=l.length:=by rw[nI,aj]
  have a:((pnV l).set p (V.agg [vi c,vi (q-1)]))[p]?=some (V.agg [vi c,vi (q-1)]):=by simp[h1]
  generalize d:(pnV l).set p (V.agg [vi c,vi (q-1)])=ys at *;have i:(q-1=0)=False:=eq_false Om;refine gI (fJ [] mix) ?_;(repeat' first|refine wED (Ah @pgE @aj.{0,0} d b a @hg f i) (Ac m k2 r) ?_|refine tE ?_ ?_<;>intro s|fail);exact rE [0]
def SMod(N:SN)(b n:Nat)(s:Sto)(r:V)(bx':Bx)(n':Nat)(r':V):Prop:=r'=r/\n<=n'/\∃N',(∀k∈N'.D b,k∈N.D b\/n<=k)/\StAt bx' n' b s N'
def SMod.st{N:SN}{b n:Nat}{s:Sto}{r:V}:∀a c m r',(∀k,(k∈N.D b\/n<=k)->a k=c k)->SMod N b n s r a m r'->SMod N b n s r c m r':=by rintro a c m r' hb ⟨h1,h2,N',h3,h4⟩;exact⟨h1,h2,N',h3,h4.of (az _) fun k hk=>(hb k (h3 k hk)).symm⟩
def StAt.same{e:Nat->V}{bx:Bx}{n b n':Nat}{h:Nat->V}{s:Sto}{N:SN}(H:StAt bx n b s N)(r:V)(a:n<=n')(bx':Bx)(hb:∀k,k<n->bx' k=bx k):Chg e bx n h (N.D b) (SMod N b n s r) ⟨e,bx',n',h⟩ r :=
 ⟨bx',n',rfl,fun k hk _=>hb k hk,rfl,a,N,fun k hk=>.inl hk,H.of a fun k hk=>hb k (H.ltD k hk)⟩
def StAt.fld{bx bx':Bx}{n b n':Nat}{s s':Sto}{N:SN}(H:StAt bx n b s N)(ho:s'.ob=s.ob)(hp:s'.pa=s.pa)(c:s'.c=s.c)(a:n<=n')(hb:bx' b=some (139,stC s' N))(hk:∀k,k∈N.D b->k≠b->bx' k=bx k):StAt bx' n' b s' N where
 hb:=hb
 ho:=by rw[ho,hk _ (by simp[SN.D]) (jY H.ne.1)];exact H.ho
 hbo:=by rw[ho];exact H.hbo
 hA:=by rw[hp,c];exact H.hA.of a fun k h=>hk k (by simp[SN.D,h]) (fun e=>H.ne.2.1 (e▸h))
 nn:=H.nn
 lt:=⟨sF H.lt.1 a,sF H.lt.2 a⟩
theorem StAt.look{bx:Bx}{n b:Nat}{s:Sto}{N:SN}(H:StAt bx n b s N){g:FuncId}{args:List V}{r:V}(k:∀e m h,StAt bx m b s N->Gxz g args ⟨e,bx,m,h⟩ ⟨e,bx,m,h⟩ r):∀e m h,Gxz g args ⟨e,bx,m,h⟩ ⟨e,bx,m,h⟩ r:=by
 intro e m h C L a w c d S f;refine k e m h ⟨H.hb,H.ho,H.hbo,{H.hA with lt:=fun j hj => ?_},H.nn,S.live (s:=⟨e,bx,m,h⟩) H.hb,S.live (s:=⟨e,bx,m,h⟩) H.ho⟩ C L a w c d S f;simp only[AN.D,fG,dP]at hj;rcases hj with rfl|rfl|⟨x,hx,rfl⟩
 .exact S.live (s:=⟨e,bx,m,h⟩) H.hA.ha
 .exact S.live (s:=⟨e,bx,m,h⟩) H.hA.hm
 .obtain⟨p,_,_,hp⟩:=H.hA.hp x hx;exact S.live (s:=⟨e,bx,m,h⟩) hp
def zX(id:Nat)(e:TypeId)(k:Nat)(xs:List V):frz id (.sl (.own id e) k xs) = .sl .fz k xs:=by simp[frz,V.map,Tag.is]
def UK{id j:Nat}(hj:j≠id)(e:TypeId)(k:Nat)(xs:List V):frz id (.sl (.own j e) k xs) = .sl (.own j e) k xs:=by grind[frz,V.map,Tag.is]
def aon(e:Nat->V)(bx:Bx)(n:Nat)(h:Nat->V){b:Nat}{s:Sto}{N:SN}(H:StAt bx n b s N)(f:Sml s)(c:Int)(hv:nG s c=0)(hp:vPn s.pi)(l:0<=c)(hl:sumP s.pi s.pi.length<s.c.pn)(hf:∀i,i<s.pi.length->(s.pi.getD i (0,0)).2<1024) :
  GoodE Tryz.prog 29 [.ref b 0,vi c] ⟨e,bx,n,h⟩ (Chg e bx n h (N.D b) (SMod N b n {s with pi:=fQ c s.pi} (vi 0))):=by
 refine GoodE.fr (only (N.D b) bx) H.fr (N.D b) _ SMod.st ?_ e bx h (fun b x hb=>(iC hb).2)
 intro e bx' h g hB j hx
 have a:=H.on hx
 have h1:=a.hb
 have q:=a.lt
 have p:=a.look fun e m h H=>KH e bx' m h H f.pi c
 rw[hv]at p
 have k2:=a.look fun e m h H=>PE e bx' m h H f.pi hp
 have t:=anD s.pi c f.pi hp l hf
 refine lg (fJ [] mix) Tryz.func29 rfl Tryz.results29 rfl Za (fP Za) ?_
 (repeat' first|refine wED (Af @pgE @aK @bu @bz @pgp @h1) (Ac p k2 t) ?_|refine tE ?_ ?_<;>intro l|fail)
 have hm:df (frz n) (upd bx' b (some (139,[vi s.c.se,vi s.c.na,vi s.c.pg,vi s.c.z,vi s.c.pn,vi s.c.cm,vi s.c.ch,vi s.m,V.mh false N.o,vi s.la,V.sl Tag.fz 4 (aS s.bi),V.sl (Tag.own n 145) 2 (pnV (fQ c s.pi)),V.ref N.A.a 0])))=upd bx' b (some (139,stC {s with pi:=fQ c s.pi} N)):=by rw[fV,uZ hB (az _)];simp only[dm,dS,zX];rfl
 refine Aj (DV _ [n]) (kz (s':=⟨e,upd bx' b (some (139,stC {s with pi:=fQ c s.pi} N)),n+1,h⟩) (r:=vi 0) ?_ ⟨aW _ _ _,?_,?_,hm,az _⟩)
 .exact⟨_,_,rfl,fun k hk d=>aV _ _ _ _ (fun e=>d (by simp[SN.D,e])),rfl,by omega,N,fun k hk=>.inl hk,a.fld rfl rfl rfl Om (bW _ _ _) fun k _ hk=>aV _ _ _ _ hk⟩
 .show unE (bD (frz n) (bM e h))=e;rw[kT (jl g j) (az _),aP]
 .show unH (bD (frz n) (bM e h))=h;rw[kT (jl g j) (az _),aQ]
def aom(e:Nat->V)(bx:Bx)(n:Nat)(h:Nat->V){b:Nat}{s:Sto}{N:SN}(H:StAt bx n b s N)(a:Sml s)(c:Int)(hv:nG s c=0)(hp:vPn s.pi)(hl:s.c.pn<=sumP s.pi s.pi.length) :
  Gxz 29 [.ref b 0,vi c] ⟨e,bx,n,h⟩ ⟨e,bx,n,h⟩ (vi 14):=by
 have h1:=H.hb
 have k:=H.look fun e m h H=>KH e bx m h H a.pi c
 rw[hv]at k
 have k2:=H.look fun e m h H=>PE e bx m h H a.pi hp
 generalize sumP s.pi s.pi.length=tot at *
 refine gZ oW ?_
 (repeat' first|refine wEX (Ad @aK @aH @aG @h1) (aI k k2) ?_|refine tE ?_ ?_<;>intro d|fail)
 refine bC (aW _ _ _) ?_
 rw[aP,aQ]
def aoD(e:Nat->V)(bx:Bx)(n:Nat)(h:Nat->V){b:Nat}{s:Sto}{N:SN}(H:StAt bx n b s N)(i:Sml s)(c:Int)(hp:vPn s.pi)(hl:plP c s.pi<s.pi.length)(hk:(s.pi.getD (plP c s.pi) (0,0)).1=c) :
  GoodE Tryz.prog 67 [.ref b 0,vi c] ⟨e,bx,n,h⟩ (Chg e bx n h (N.D b) (SMod N b n {s with pi:=uh c s.pi} (vi 0))):=by
 refine GoodE.fr (only (N.D b) bx) H.fr (N.D b) _ SMod.st ?_ e bx h (fun b x hb=>(iC hb).2)
 intro e bx' h f hB g hx
 have d:=H.on hx
 have h1:=d.hb
 have j:=aos s.pi c i.pi hp hl hk
 refine lg (fJ [] mix) Tryz.func67 rfl Tryz.results67 rfl Za (fP Za) ?_
 (repeat' first|refine wED (Af @pgE @aK @bu @bz @pgp @h1) j ?_|refine tE ?_ ?_<;>intro l|fail)
 have hm:df (frz n) (upd bx' b (some (139,[vi s.c.se,vi s.c.na,vi s.c.pg,vi s.c.z,vi s.c.pn,vi s.c.cm,vi s.c.ch,vi s.m,V.mh false N.o,vi s.la,V.sl Tag.fz 4 (aS s.bi),V.sl (Tag.own n 145) 2 (pnV (uh c s.pi)),V.ref N.A.a 0])))=upd bx' b (some (139,stC {s with pi:=uh c s.pi} N)):=by rw[fV,uZ hB (az _)];simp only[dm,dS,zX];rfl
 refine Aj (DV _ [n]) (kz (s':=⟨e,upd bx' b (some (139,stC {s with pi:=uh c s.pi} N)),n+1,h⟩) (r:=vi 0) ?_ ⟨aW _ _ _,?_,?_,hm,az _⟩)
 .exact⟨_,_,rfl,fun k hk a=>aV _ _ _ _ (fun e=>a (by simp[SN.D,e])),rfl,by omega,N,fun k hk=>.inl hk,d.fld rfl rfl rfl Om (bW _ _ _) fun k _ hk=>aV _ _ _ _ hk⟩
 .show unE (bD (frz n) (bM e h))=e;rw[kT (jl f g) (az _),aP]
 .show unH (bD (frz n) (bM e h))=h;rw[kT (jl f g) (az _),aQ]
def aov(e:Nat->V)(bx:Bx)(n:Nat)(h:Nat->V){b:Nat}{s:Sto}{N:SN}(H:StAt bx n b s N)(f:Sml s)(k t:List Nat)(j:oct t)(i:iK t=true)(x:Int)(he:((lkA k s.m s.bi).2=false/\x=8)\/((lkA k s.m s.bi).2=true/\(lkA t s.m s.bi).2=true/\x=9)\/((lkA k s.m s.bi).2=true/\(lkA t s.m s.bi).2=false/\s.c.cm<=s.m/\x=14)) :
  Gxz 42 [.ref b 0,vs k,vs t] ⟨e,bx,n,h⟩ ⟨e,bx,n,h⟩ (.tup [vi 0,vi x]):=by
 have a:=yC t j
 rw[i]at a
 have k2:=H.look fun e m h H=>Fv e bx m h H f.bi k
 have c:=H.look fun e m h H=>Fv e bx m h H f.bi t
 have g:=H.look fun e m h H=>AV e bx m h H
 rcases he with⟨h1,rfl⟩|⟨h1,h2,rfl⟩|⟨h1,h2,h3,rfl⟩
 .rw[h1]at k2;refine gZ oW ?_;(repeat' first|refine wEX (Ac @aK @aH @aG) (aI a k2) ?_|refine tE ?_ ?_<;>intro d|fail);refine bC (jW _ _ _ _) ?_;rw[aP,aQ]
 .rw[h1]at k2;rw[h2]at c;refine gZ oW ?_;(repeat' first|refine wEX (Ac @aK @aH @aG) (Ac a k2 c) ?_|refine tE ?_ ?_<;>intro d|fail);refine bC (jW _ _ _ _) ?_;rw[aP,aQ]
 .rw[h1]at k2;rw[h2]at c;rw[eU h3]at g;refine gZ oW ?_;(repeat' first|refine wEX (Ac @aK @aH @aG) (Ad a k2 c g) ?_|refine tE ?_ ?_<;>intro d|fail);refine bC (jW _ _ _ _) ?_;rw[aP,aQ]
def aou(e:Nat->V)(bx:Bx)(n:Nat)(h:Nat->V){b:Nat}{s:Sto}{N:SN}(H:StAt bx n b s N)(g:Sml s)(k t:List Nat)(hk:oct k)(d:iK k=true)(v:oct t)(u:iK t=true)(j:Nat)(h1:(lkA k s.m s.bi).2=true)(h2:(lkA t s.m s.bi).2=false)(h3:s.m<s.c.cm)(F:s.c.cm<=1048576)(J:0<=s.m)(hv:vBd s.bi)(G:∀i,i<s.bi.length->(s.bi.getD i bd0).f<s.m+1/\(s.bi.getD i bd0).t<=s.m+1)(hj:opA k s.bi 0=j)(f:j<s.bi.length)(hm:opA t s.bi 0 = -1) :
  GoodE Tryz.prog 42 [.ref b 0,vs k,vs t] ⟨e,bx,n,h⟩ (Chg e bx n h (N.D b) (SMod N b n {s with m:=s.m+1,bi:=jo ⟨t,(s.bi.getD j bd0).o,s.m+1,0⟩ (fM s.bi j (s.m+1))} (.tup [vi (s.m+1),vi 0]))):=by
 refine GoodE.fr (only (N.D b) bx) H.fr (N.D b) _ SMod.st ?_ e bx h (fun b x hb=>(iC hb).2)
 intro e bx' h p hB q hx
 have a:=H.on hx
 have hb:=a.hb
 have y:=yC t v
 rw[u]at y
 have k2:=a.look fun e m h H=>Fv e bx' m h H g.bi k
 have A:=a.look fun e m h H=>Fv e bx' m h H g.bi t
 have C:=a.look fun e m h H=>AV e bx' m h H
 rw[h1]at k2
 rw[h2]at A
 rw[dK Om]at C
 have E:=aot s.bi k t (s.m+1) j g.bi hv hk d v u Om G hj f hm
 generalize jo ⟨t,(s.bi.getD j bd0).o,s.m+1,0⟩ (fM s.bi j (s.m+1))=l at *
 refine lg (fJ [] mix) Tryz.func42 rfl Tryz.results42 rfl Za (fP Za) ?_
 (repeat' first|refine wEX (Af @pgE @aK @bu @bz @pgp @hb) (Ad y k2 A C) ?_|refine tE ?_ ?_<;>intro I|fail)
 refine oh mix ?_
 (repeat'(first|(simp(disch:=first|exact dqz|fail) only[pgz,simprocAttr,pgE,alF,pga,xB,bu,bz,pgp,hb])|(refine tC ?_;refine cU E ?_)|((with_reducible show mX _ _ _ _ _ _ _);first|refine cA E ?_)|(refine tE ?_ ?_<;>intro I)|(with_reducible refine cKA ?_)|((with_reducible show gJ _ _ _ _ _);first|refine lG (by decide +kernel) ?_|refine lF (by decide +kernel) ?_)|refine xK ?_|fail))
 have hm:df (frz (n+11)) (upd (upd bx' b (some (139,[vi s.c.se,vi s.c.na,vi s.c.pg,vi s.c.z,vi s.c.pn,vi s.c.cm,vi s.c.ch,vi (s.m+1),V.mh false N.o,vi s.la,V.sl Tag.fz 4 (aS s.bi),V.sl Tag.fz 2 (pnV s.pi),V.ref N.A.a 0]))) b (some (139,[vi s.c.se,vi s.c.na,vi s.c.pg,vi s.c.z,vi s.c.pn,vi s.c.cm,vi s.c.ch,vi (s.m+1),V.mh false N.o,vi s.la,V.sl (Tag.own (n+11) 142) 4 (aS l),V.sl Tag.fz 2 (pnV s.pi),V.ref N.A.a 0])))=upd bx' b (some (139,stC {s with m:=s.m+1,bi:=l} N)):=by rw[fV,fV,uZ hB Om];simp only[dm,dS,zX];funext k;simp only[upd];split<;>rfl
 refine Aj (DV _ [n+11]) (kz (s':=⟨e,upd bx' b (some (139,stC {s with m:=s.m+1,bi:=l} N)),n+18,h⟩) (r:=.tup [vi (s.m+1),vi 0]) ?_ ⟨jW _ _ _ _,?_,?_,hm,az _⟩)
 .exact⟨_,_,rfl,fun k hk c=>aV _ _ _ _ (fun e=>c (by simp[SN.D,e])),rfl,by omega,N,fun k hk=>.inl hk,a.fld rfl rfl rfl Om (bW _ _ _) fun k _ hk=>aV _ _ _ _ hk⟩
 .show unE (bD (frz (n+11)) (bM e h))=e;rw[kT (jl p q) Om,aP]
 .show unH (bD (frz (n+11)) (bM e h))=h;rw[kT (jl p q) Om,aQ]
def SB:BO Tryz.prog 132=false:=Za
def au4(l:List Vr)(i:Nat)(h:i<l.length):vrV (l.take i)++[.agg [vi (l.getD i vr0).f,vi (l.getD i vr0).t,vi (l.getD i vr0).z,.sl .fz 1 ((l.getD i vr0).p.map vi)]]=vrV (l.take (i+1)):=by rw[mP h,QX,gW,dY h];rfl
def XR(l:List Vr)(hl:l.length<=1000000)(hp:∀v∈l,v.p.length<=1000000):Gxx 217 [.sl .fz 4 (vrV l)] (.sl (.own 0 113) 4 (vrV l)):=by
 refine gI oW ?_;(repeat' first|refine wQ @aj.{0,0} ?_|refine tS ?_ ?_<;>intro c|fail);refine aJ (fun i:Nat=>mkA [(3,.sl (.own 0 113) 4 (vrV (l.take i))),(6,.sl .fz 4 (vrV l)),(7,vi l.length),(8,vi i)] [] 1 (fun _=>.top)) (fun i=>i<=l.length) (fun i=>l.length-i) 0 [] [] ?_ (ax _) ?_
 .exact kX;all_goals first|exact iT rfl|skip
 .rintro i hi;rcases au i l.length with h|d
  .have hg:=rX l i h;have b:=au4 l i h;have a:Fits ((vrV (l.take i)).length+1) 48:=by rw[aj,bI];exact⟨by simp only[maxLen];omega,by omega⟩
   have hm:l.getD i vr0∈l:=by rw[gW,dY h];exact ji h
   have k:=Yp _ (hp _ hm);generalize l.getD i vr0=v at *;obtain⟨f,g,j,p⟩:=v;simp only at *;(repeat' first|refine wP (Ae @EG @SB @hg b a) k ?_|refine tS ?_ ?_<;>intro c|fail);exact bX (i+1) [0] [] h
  .have:i=l.length:=Om;subst this;(repeat' first|refine wQ @gB.{0} ?_|refine tS ?_ ?_<;>intro c|fail);exact rE [0]
def anM(l:List Vr)(c:Int)(hl:l.length<=1000000)(hp:∀v∈l,v.p.length<=1000000)(hv:vCh l)(b:0<l.length)(h1:(l.getD (l.length-1) vr0).t=0)(h2:(l.getD (l.length-1) vr0).f<c):Gxx 123 [.sl .fz 4 (vrV l),vi c] (.tup [.sl (.own 0 113) 4 (vrV (fU l c)),vi 0]):=by have k:=XL l hl hv;have k2:=XR l hl hp;have hg:=rX l (l.length-1) Om;have h:((l.length:Int)-1).toNat=l.length-1:=Om;have a:=Jk l c;refine gI oW ?_;(repeat' first|refine wP (Ae @aj.{0,0} h @hg @h1 a) (aI k k2) ?_|refine tS ?_ ?_<;>intro a|fail);exact rE [0]
def anE(l:List Vr)(v:Vr)(hl:l.length<=1000000)(hp:∀v∈l,v.p.length<=1000000)(c:v.p.length<=1000000)(hv:vCh l)(g:0<l.length)(h1:1<=v.f)(h2:v.t=0)(h3:0<=v.z)(h4:(l.getD (l.length-1) vr0).f<v.f)(h5:(l.getD (l.length-1) vr0).t=0):Gxx 118 [.sl .fz 4 (vrV l),.agg (vrF v)] (.tup [.sl (.own 0 113) 4 (vrV (fU l v.f++[v])),vi 0]):=by
 have d:=XL l hl hv;have k2:=XR l hl hp;have k:=Yp v.p c;have hg:=rX l (l.length-1) Om;have b:((l.length:Int)-1).toNat=l.length-1:=Om;have a:=Jk l v.f;have ha:=QX (fU l v.f) v;have h:Fits ((vrV (fU l v.f)).length+1) 48:=by rw[aj,fU,nI];exact⟨by simp only[maxLen];omega,by omega⟩
 obtain⟨f,t,z,p⟩:=v;simp only at h1 h2 h3 h4 a ha h k;subst h2;refine gI oW ?_;(repeat' first|refine wP (A8 @aj.{0,0} b @hg @ha h @h5 a @EG @SB) (Ac d k2 k) ?_|refine tS ?_ ?_<;>intro a|fail);exact rE [1]
def an0(e:Nat->V)(bx:Bx)(n:Nat)(h:Nat->V){b:Nat}{s:Sto}{N:SN}(H:StAt bx n b s N)(c:Sml s)(k:List Nat)(hl:(lkA k s.m s.bi).2=false) :
  Gxz 40 [.ref b 0,vs k] ⟨e,bx,n,h⟩ ⟨e,bx,n,h⟩ (.tup [vi 0,vi 8]):=by
 have h1:=H.hb
 have a:=Fp s.bi k s.m (by have:=c.bi;omega)
 rw[hl]at a
 refine gZ oW ?_
 (repeat' first|refine wP (Ad @aK @aH @aG @h1) a ?_|refine tS ?_ ?_<;>intro d|fail)
 refine bC (jW _ _ _ _) ?_
 rw[aP,aQ]
def an1(e:Nat->V)(bx:Bx)(n:Nat)(h:Nat->V){b:Nat}{s:Sto}{N:SN}(H:StAt bx n b s N)(c:Sml s)(k:List Nat)(hl:(lkA k s.m s.bi).2=true)(hf:s.c.cm<=s.m) :
  Gxz 40 [.ref b 0,vs k] ⟨e,bx,n,h⟩ ⟨e,bx,n,h⟩ (.tup [vi 0,vi 14]):=by
 have h1:=H.hb
 have a:=Fp s.bi k s.m (by have:=c.bi;omega)
 rw[hl]at a
 have k2:=H.look fun e m h H=>AV e bx m h H
 rw[eU hf]at k2
 refine gZ oW ?_
 (repeat' first|refine wEX (Ad @aK @aH @aG @h1) (aI a k2) ?_|refine tE ?_ ?_<;>intro d|fail)
 refine bC (jW _ _ _ _) ?_
 rw[aP,aQ]
def WG(k:Int)(v x:V)(t c:Nat)(l:List (Int×V×Nat))(j:Nat)(a:(l.map (·.1)).Nodup)(h:l[j]?=some (k,v,t)):yN (iM l) c (.int .i64 k) x=some (c,iM (l.set j (k,x,t))):=by
 have h1:=H5 k v t l 0 j a h;unfold yN;rw[h1];simp;refine IW fun m => ?_
 grind[iM]
def Xj{ob:List (Int×List Vr)}{bo:List Nat}(hb:bo.length=ob.length)(i:Nat)(hi:i<ob.length):(oM ob bo)[i]?=some ((ob.getD i (0,[])).1,.sl .fz 4 (vrV (ob.getD i (0,[])).2),bo.getD i 0):=by grind[oM]
def NT(id c:Nat)(l:List (Int×V×Nat)):(mpC c (iM l)).map (frz id)=mpC c (iM (l.map fun x=>(x.1,frz id x.2.1,x.2.2))):=by
 have key:∀l:List (Int×V×Nat),(mpF (iM l)).map (frz id)=mpF (iM (l.map fun x=>(x.1,frz id x.2.1,x.2.2))):=fun l=>by
  induction l with
  |nil=>rfl
  |cons x r i =>show frz id _::frz id x.2.1::frz id _::(mpF (iM r)).map (frz id)=_;rw[i];rfl
 unfold mpC;rw[dm,dm,key,JP,JP,aj];rfl
def Xk{ob:List (Int×List Vr)}{bo:List Nat}(hb:bo.length=ob.length)(i:Nat)(hi:i<ob.length)(k:Int)(ch:List Vr):(oM ob bo).set i (k,.sl .fz 4 (vrV ch),bo.getD i 0)=oM (ob.set i (k,ch)) bo:=by
 refine List.ext_getElem (by simp[oM]) fun j h1 h2 => ?_
 grind[oM]
def O7(id:Nat)(ob:List (Int×List Vr))(bo:List Nat):((oM ob bo).map fun x=>(x.1,frz id x.2.1,x.2.2))=oM ob bo:=by unfold oM;rw[zA];rfl
def anZ(e:Nat->V)(bx:Bx)(n:Nat)(h:Nat->V){b:Nat}{s:Sto}{N:SN}(H:StAt bx n b s N)(L:Sml s)(l:(s.ob.map (·.1)).Nodup)(k:List Nat)(hk:oct k)(F:iK k=true)(i x j:Nat)(ha:AtV s k s.m i x)(h3:s.m<s.c.cm)(T:s.c.cm<=1048576)(X:0<=s.m)(hv:vBd s.bi)(U:xy s.bi (s.m+1))(hj:opA k s.bi 0=j)(I:j<s.bi.length)(hf:(s.bi.getD j bd0).f<s.m+1)
  (d:vCh (s.ob.getD i (0,[])).2) (A:0<(s.ob.getD i (0,[])).2.length) (E:((s.ob.getD i (0,[])).2.getD ((s.ob.getD i (0,[])).2.length-1) vr0).t=0) (y:((s.ob.getD i (0,[])).2.getD ((s.ob.getD i (0,[])).2.length-1) vr0).f<s.m+1) (C:∀v∈(s.ob.getD i (0,[])).2,v.p.length<=1000000) :
  GoodE Tryz.prog 40 [.ref b 0,vs k] ⟨e,bx,n,h⟩ (Chg e bx n h (N.D b) (SMod N b n {s with m:=s.m+1,ob:=mY s.ob i (s.m+1),bi:=fM s.bi j (s.m+1)} (.tup [vi (s.m+1),vi 0]))):=by
 refine GoodE.fr (only (N.D b) bx) H.fr (N.D b) _ SMod.st ?_ e bx h (fun b x hb=>(iC hb).2)
 intro e bx' h t hB u hx
 have a:=H.on hx
 have h1:=a.hb
 have ho:=a.ho
 have c:=a.ne.1
 have G:=a.obj l i ha.il
 have M:=Fp s.bi k s.m (by have:=L.bi;omega)
 rw[ha.lk]at M
 have k2:=a.look fun e m h H=>AV e bx' m h H
 rw[dK Om]at k2
 have hm:(s.ob.getD i (0,[]))∈s.ob:=by rw[gW,dY ha.il];exact ji ha.il
 have P:=anM (s.ob.getD i (0,[])).2 (s.m+1) (by have:=L.ch _ hm;omega) C d A E y
 have Q:=aoz s.bi k (s.m+1) j L.bi hv hk F Om U hj I hf
 have R:(b=N.o)=False:=eq_false c
 have p:(N.o=b)=False:=eq_false (jY c)
 refine lg (fJ [] mix) Tryz.func40 rfl Tryz.results40 rfl Za (fP Za) ?_
 (repeat' first|refine wEX (Af @pgE @aK @bu @bz @pgp @h1) (aI M k2) ?_|refine tE ?_ ?_<;>intro d|fail)
 refine mM _ _ _ _ _ ?_
 (repeat' first|refine wEX (Af @pgE @aK @bu @bz @pgp @h1) (aI M k2) ?_|refine tE ?_ ?_<;>intro d|fail)
 refine oh mix ?_
 have K:=fun x=>WG _ _ x _ N.co _ i (by rw[Ku _ _ a.hbo];exact l) (Xj a.hbo i ha.il)
 (repeat'(first|(simp(disch:=first|exact dqz|fail) only[pgz,simprocAttr,pgE,alF,pga,xB,bu,bz,pgp,h1,ho,R,p,tH,EX,xm,LG,G,K])|(refine tC ?_;refine cU P ?_)|((with_reducible show mX _ _ _ _ _ _ _);first|refine cA P ?_)|(refine tE ?_ ?_<;>intro d)|(with_reducible refine cKA ?_)|((with_reducible show gJ _ _ _ _ _);first|refine lG (by decide +kernel) ?_|refine lF (by decide +kernel) ?_)|refine xK ?_|fail))
 refine oh mix ?_
 (repeat'(first|(simp(disch:=first|exact dqz|fail) only[pgz,simprocAttr,pgE,alF,pga,xB,bu,bz,pgp,h1,ho,R,p])|(refine tC ?_;refine cU Q ?_)|((with_reducible show mX _ _ _ _ _ _ _);first|refine cA Q ?_)|(refine tE ?_ ?_<;>intro d)|(with_reducible refine cKA ?_)|((with_reducible show gJ _ _ _ _ _);first|refine lG (by decide +kernel) ?_|refine lF (by decide +kernel) ?_)|refine xK ?_|fail))
 have hid:n+20+10≠n+15:=Om
 have g:∀W:List V,df (frz (n+20+10)) (df (frz (n+15)) (upd (upd (upd bx' b (some (139,[vi s.c.se,vi s.c.na,vi s.c.pg,vi s.c.z,vi s.c.pn,vi s.c.cm,vi s.c.ch,vi (s.m+1),V.mh false N.o,vi s.la,V.sl Tag.fz 4 (aS s.bi),V.sl Tag.fz 2 (pnV s.pi),V.ref N.A.a 0]))) N.o (some (136,mpC N.co (iM ((oM s.ob N.bo).set i ((s.ob.getD i (0,[])).1,V.sl (Tag.own (n+15) 113) 4 (vrV (fU (s.ob.getD i (0,[])).2 (s.m+1))),N.bo.getD i 0)))))) b (some (139,[vi s.c.se,vi s.c.na,vi s.c.pg,vi s.c.z,vi s.c.pn,vi s.c.cm,vi s.c.ch,vi (s.m+1),V.mh false N.o,vi s.la,V.sl (Tag.own (n+20+10) 142) 4 (aS (fM s.bi j (s.m+1))),V.sl Tag.fz 2 (pnV s.pi),V.ref N.A.a 0]))))=upd (upd bx' N.o (some (136,mpC N.co (iM (oM (mY s.ob i (s.m+1)) N.bo))))) b (some (139,stC {s with m:=s.m+1,ob:=mY s.ob i (s.m+1),bi:=fM s.bi j (s.m+1)} N)):=fun _=>by
  have S:(mpC N.co (iM (oM (mY s.ob i (s.m+1)) N.bo)))=(mpC N.co (iM ((oM s.ob N.bo).set i ((s.ob.getD i (0,[])).1,V.sl (Tag.fz) 4 (vrV (fU (s.ob.getD i (0,[])).2 (s.m+1))),N.bo.getD i 0)))):=by rw[Xk a.hbo i ha.il];rfl
  rw[fV,fV,fV,fV,fV,fV,uZ hB Om,uZ hB Om,S];simp only[dm,dS,zX,UK hid,NT,zB,O7];funext k;simp only[upd];by_cases q:k=b
  .simp only[ah q];rfl
  .by_cases p:k=N.o
   .simp only[ag q,ah p];rfl
   .simp only[ag q,ag p]
 have J:=g []
 clear g
 refine Aj (DV _ [n+15,n+20+10]) (kz (s':=⟨e,upd (upd bx' N.o (some (136,mpC N.co (iM (oM (mY s.ob i (s.m+1)) N.bo))))) b (some (139,stC {s with m:=s.m+1,ob:=mY s.ob i (s.m+1),bi:=fM s.bi j (s.m+1)} N)),n+37,h⟩) (r:=.tup [vi (s.m+1),vi 0]) ?_ ⟨jW _ _ _ _,?_,?_,J,by show n+20+17<=n+37;omega⟩)
 .refine⟨_,_,rfl,fun k hk f=>by rw[aV _ _ _ _ (fun e=>f (by simp[SN.D,e])),aV _ _ _ _ (fun e=>f (by simp[SN.D,e]))],rfl,by omega,N,fun k hk=>.inl hk,bW _ _ _,by rw[aV _ _ _ _ (jY c),bW],?_,a.hA.of Om fun k hk => ?_,a.nn,by have:=a.lt;omega⟩
  .rw[a.hbo];simp[mY]
  .rw[aV _ _ _ _ (by rintro rfl;exact a.ne.2.1 hk),aV _ _ _ _ (by rintro rfl;exact a.ne.2.2 hk)]
 .show unE (bD (frz (n+20+10)) (bD (frz (n+15)) (bM e h)))=e;rw[kT (jl t u) Om,kT (jl t u) Om,aP]
 .show unH (bD (frz (n+20+10)) (bD (frz (n+15)) (bM e h)))=h;rw[kT (jl t u) Om,kT (jl t u) Om,aQ]
theorem H9(z:Nat)(b:List Nat)(a:0<z):nPg z b<=b.length:=by
 rcases au b.length (nPg z b)with h|h
 .have h1:=(Dc a).1 h;have:=Nat.le_mul_of_pos_right b.length a;omega
 .exact h
def KE(b:List Nat)(z:Int)(h:8<=z/\z<=1024)(hb:b.length<=1048576):Gxx 101 [.sl .fz 1 (bv b),vi z] (.tup [.sl (.own 0 60) 1 (pgV (ckP z.toNat b (nPg z.toNat b))),vi 0]):=by have k:=aow b z.toNat Om hb;rwa [show((z.toNat:Nat):Int)=z by omega]at k
def anR(e:Nat->V)(bx:Bx)(n:Nat)(h:Nat->V){b:Nat}{s:Sto}{N:SN}(H:StAt bx n b s N)(p:Sml s)(k d:List Nat)(hk:oct k)(A:iK k=true)(hd:d.length<=1048576)(F:8<=s.c.z/\s.c.z<=1024)(ha:ww s.m s.bi)(j:(nmA s.m s.bi).length<=12)(x:Int)
  (he:(65536<d.length/\x=11)\/(d.length<=65536/\(lkA k s.m s.bi).2=true/\x=9)\/(d.length<=65536/\(lkA k s.m s.bi).2=false/\(s.c.na<=(nmA s.m s.bi).length\/s.c.cm<=s.m\/s.c.pg<s.pa.length+nPg s.c.z.toNat d)/\x=14)) :
  Gxz 36 [.ref b 0,vs k,.sl .fz 1 (bv d)] ⟨e,bx,n,h⟩ ⟨e,bx,n,h⟩ (.tup [vi 0,vi x]):=by
 refine GoodZ.rd (r:=.tup [vi 0,vi x]) (only (N.D b) bx) H.fr rfl ?_ e bx h (fun b x hb=>(iC hb).2)
 intro e bx' h J hB K hx
 have g:=H.on hx
 have h1:=g.hb
 have c:=KE d s.c.z F hd
 have k2:=yC k hk
 rw[A]at k2
 have a:=g.look fun e m h H=>Fv e bx' m h H p.bi k
 have t:=XI s.bi s.m p.bi ha j
 have f:=g.look fun e m h H=>AV e bx' m h H
 have u:=g.look fun e m h H=>KD e bx' m h H
 have l:(ckP s.c.z.toNat d (nPg s.c.z.toNat d)).length=nPg s.c.z.toNat d:=by rw[sN]
 have y:=aA d
 have C:=H9 s.c.z.toNat d Om
 generalize ckP s.c.z.toNat d (nPg s.c.z.toNat d)=ps at *
 generalize nPg s.c.z.toNat d=np at *
 refine⟨n+100,bx',fun k hk=>rfl,?_⟩
 rcases he with⟨h2,rfl⟩|⟨h2,h3,rfl⟩|⟨h2,h3,h4,rfl⟩
 .refine gZ oW ?_;(repeat' first|refine wP (Ae @aK @aH @aG @h1 @aA) (aI c k2) ?_|refine tS ?_ ?_<;>intro i|fail);(refine iL (by first|rfl|skip) (by first|omega|skip))
 .rw[h3]at a;refine gZ oW ?_;(repeat' first|refine wEX (Ae @aK @aH @aG @h1 @aA) (Ac c k2 a) ?_|refine tE ?_ ?_<;>intro i|fail);(refine iL (by first|rfl|skip) (by first|omega|skip))
 .rw[h3]at a;by_cases c1:s.c.na<=(nmA s.m s.bi).length
  .have q:(s.c.na<=(nmA s.m s.bi).length)=True:=eq_true c1;refine gZ oW ?_;(repeat' first|refine wEX (Ag @aK @aH @aG @h1 @aA @aj.{0,0} q) (Af c k2 a t f u) ?_|refine tE ?_ ?_<;>intro i|fail);(refine iL (by first|rfl|skip) (by first|omega|skip))
  .have q:(s.c.na<=(nmA s.m s.bi).length)=False:=eq_false c1;by_cases v:s.c.cm<=s.m
   .rw[eU v]at f;refine gZ oW ?_;(repeat' first|refine wEX (Ag @aK @aH @aG @h1 @aA @aj.{0,0} q) (Af c k2 a t f u) ?_|refine tE ?_ ?_<;>intro i|fail);(refine iL (by first|rfl|skip) (by first|omega|skip))
   .rw[dK v]at f;have I:s.c.pg<s.pa.length+np:=Om;have G:((s.pa.length:Int)+(np:Int) > s.c.pg)=True:=eq_true Om;have E:=p.pa;refine gZ oW ?_;(repeat' first|refine wEX (A8 @aK @aH @aG @h1 @aA @aj.{0,0} l q G) (Af c k2 a t f u) ?_|refine tE ?_ ?_<;>intro i|fail);(refine iL (by first|rfl|skip) (by first|omega|skip))
end Go.Proofs.YtopbmdnbdpjheaaGreat
