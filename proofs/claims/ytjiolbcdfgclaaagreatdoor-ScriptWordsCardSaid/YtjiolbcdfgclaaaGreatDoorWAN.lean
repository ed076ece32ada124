/-
  Texts of this claim, merged; own names are short.
-/
import Derived.Test.YtjiolbcdfgclaaaGreatDoorWAM
import Derived.Test.YtjiolbcdfgclaaaGreatDoorWAK
import Derived.Test.YtjiolbcdfgclaaaGreatDoorWAL
set_option linter.unusedVariables false
set_option linter.unusedSimpArgs false
set_option linter.unusedSectionVars false
set_option linter.defProp false
set_option maxRecDepth 100000
set_option maxHeartbeats 8000000
namespace Go.Proofs.YtjiolbcdfgclaaaGreatDoor
open Go Go.Pg
theorem rO:iJ .nilIface = .c .nilIface:=rfl
theorem aaj(ψ:V→V)(f:Nat→Option (TypeId × List V))(b:Nat)(v y:Option (TypeId × List V)):upd (sH ψ (upd f b v)) b y=upd (sH ψ f) b y:=by
 funext t;simp only[upd,sH];split<;>rfl
theorem Rz(e:Nat→V)(bx:Nat→Option (TypeId × List V))(n:Nat)(h:Nat→V)(b:Nat)(p:V)(c:Nat)(hb:bx b=some (115,[p,.c (.slice none 0 0)]))(hp:aah b p) :
  Gxz 79 [.ref b 0,.c (.int .u8 (c:Int))] ⟨e,bx,n,h⟩ ⟨e,upd bx b (some (115,[.ref b 0,.sl (.own (n+1) 5) 1 (bv [c])])),n+2,h⟩ (.c .nilIface):=by
 refine gZ oW Tryz.func79 Tryz.results79 ?_
 (repeat' first|refine wP (aI @iQ (aI @dm (aI @bI (aI @hb @rO)))) trivial ?_|refine cZ (aai _ _ _ _ _ _ _ hb hp) ?_|refine tS ?_ ?_<;>intro hc|fail)
 refine lh (aG _ _ _) ?_
 rw[dJ,dK,jG]
 rfl
theorem Pi(e:Nat→V)(bx:Nat→Option (TypeId × List V))(n:Nat)(h:Nat→V)(b id:Nat)(p:V)(l:List Nat)(c:Nat)(hb:bx b=some (115,[p,.sl (.own id 5) 1 (bv l)]))(hp:aah b p)(hl:l.length<140737488355328) :
  Gxz 79 [.ref b 0,.c (.int .u8 (c:Int))] ⟨e,bx,n,h⟩ ⟨lX (aJ id) e,upd (sH (aJ id) bx) b (some (115,[.ref b 0,.sl (.own id 5) 1 (bv (l++[c]))])),max (n+1) (id+1),lX (aJ id) h⟩ (.c .nilIface):=by
 refine gZ oW Tryz.func79 Tryz.results79 ?_
 (repeat' first|refine wP (aI @iQ (aI @dm (aI @bI (aI @hb @rO)))) trivial ?_|refine cZ (aai _ _ _ _ _ _ _ hb hp) ?_|refine tS ?_ ?_<;>intro hc|fail)
 refine lh (aG _ _ _) ?_
 rw[Ir,Iu,dJ,dK,aaj]
 simp [bv]
theorem oc(l:List Nat)(ho:oct l):u8L (bv l)=some (l.map UInt8.ofNat):=by
 induction l with
 | nil=>rfl
 | cons a l ih =>
  have h1:=ho a (by simp)
  have h2:=ih (fun x hx=>ho x (by simp [hx]))
  simp only[bv,List.map_cons] at h2 ⊢
  unfold u8L
  rw[if_pos ⟨by omega,by omega⟩,h2]
  simp
theorem aja(t:Tag)(k:Nat)(l:List Nat)(h:0<l.length):sdV (.sl t k (bv l))=some (.el t k (bv l) 0 0):=by
 cases l with
 | nil=>simp at h
 | cons a l=>rfl
theorem anJ:rq Tryz.prog 152=some 5:=by kernel_rfl
theorem co5:Tryz.prog.cellsOf 5=1:=by kernel_rfl
theorem ajb(e:Nat→V)(bx:Nat→Option (TypeId × List V))(n:Nat)(h:Nat→V)(id:Nat)(l:List Nat)(ho:oct l)(hl:0<l.length∧l.length≤140737488355328) :
  usV Tryz.prog ⟨e,bx,n,h⟩ 152 (.el (.own id 5) 1 (bv l) 0 0) (.c (.int .i64 l.length))=some (.c (.string (sB l)),⟨lX (frz id) e,sH (frz id) bx,n,lX (frz id) h⟩):=by
 unfold usV
 simp only[oc l ho,Option.bind_some,ax]
 rw[if_pos ⟨anJ,co5,trivial,by omega,by omega⟩]
 rfl
theorem aak(e:Nat→V)(bx:Nat→Option (TypeId × List V))(n:Nat)(h:Nat→V)(b id:Nat)(p:V)(l:List Nat)(hb:bx b=some (115,[p,.sl (.own id 5) 1 (bv l)]))(hl:0<l.length∧l.length≤140737488355328)(ho:oct l) :
  Gxz 64 [.ref b 0] ⟨e,bx,n,h⟩ ⟨lX (frz id) e,sH (frz id) bx,n,lX (frz id) h⟩ (.c (.string (sB l))):=by
 refine gZ oW Tryz.func64 Tryz.results64 ?_
 (repeat' (first|(simp (disch:=first|exact dqz|fail) only[pgz,simprocAttr,Tryz.f64,iQ,dm,bI,hb,aja,ajb _ _ _ _ _ _ ho hl])|((with_reducible first|apply di|apply bK|apply dw)<;>intro hc<;>(try simp only[hc])<;>(try simp only[pgd] at hc))|(with_reducible refine cK ?_)))
 refine lh (aG _ _ _) ?_
 rw[Ir,Iu,dJ,dK]
theorem aal(a:Nat):Int.fdiv (a:Int) (2^min 4 IntKind.u8.bits)=((a / 16:Nat):Int):=als a
theorem aam(d:Nat)(k:IntKind)(h:d<16):ixV Tryz.prog 9 (.c (.string (sB yC))) (.c (.int k (d:Nat)))=some (.c (.int .u8 (hx d:Nat))):=by
 rw[Ob _ _ _ _ _ rG (by omega) (by simp [yC];omega),if_pos is9]
 rfl
theorem aan(l:List Nat)(ho:oct l):Gxx 80 [.c (.string (sB l))] (fkV l):=by
 refine gI oW Tryz.func80 Tryz.results80 ?_
 have g1:=OY l
 unfold fkV fk
 cases h1:fH l<;>rw[h1] at g1
 ·exact wR @wo g1 ah
 have hl:=BP h1
 have g2:=aiX l ho (by omega)
 cases h2:kJ l<;>rw[h2] at g2
 ·(repeat' first|refine wP @wo (aI g1 g2) ?_|refine cZ (Rz _ _ _ _ _ _ 37 rfl (.inl rfl)) ?_|refine tS ?_ ?_<;>intro hc|fail)
  refine aK (fun i=>mkA [(0,.c (.string (sB l))),(4,.ref 0 0),(14,.c (.int .i64 l.length)),(15,.c (.int .i64 (i:Nat)))] [(0,(115,[.ref 0 0,.sl (.own 0 5) 1 (bv (37::jh (l.take i)))]))] 1 (fun _ => .top)) (fun i=>i≤l.length) (fun i=>l.length-i) 0 [2] [0] ?_ (Nat.zero_le _) ?_
  ·exact kE
  ·intro i hi
   rcases Nat.lt_or_ge i l.length with hlt|hge
   ·have hc:=gW ho i
    have hx1:=lq (l.take i)
    have hx2:(l.take i).length≤i:=by simp;omega
    (repeat' first|refine wP (aI @DK (aI @aal (aI @Ro @aam))) trivial ?_|refine cZ (Pi _ _ _ _ 0 0 _ _ _ rfl (.inr rfl) (by simp only[List.length_cons,List.length_append,List.length_nil,Nat.zero_add] at *;omega)) ?_|refine tS ?_ ?_<;>intro hc|fail)
    (refine bL (i+1) [0] [0] hlt ?_;refine kL ?_)
    exact aW rfl (by rw[zU hlt])
   ·have hil:i=l.length:=by omega
    subst hil
    rw[List.take_length]
    have hx1:=lq l
    (repeat' first|refine wP trivial trivial ?_|refine cZ (aak _ _ _ _ 0 0 _ _ rfl (by simp only[List.length_cons] at *;omega) (pM (by omega) (yD _))) ?_|refine tS ?_ ?_<;>intro hc|fail)
    exact rE []
 ·exact wR @wo (aI g1 g2) ah
theorem ajc:Gxx 244 [vu 16] (vi 4):=by
 refine⟨by kernel_rfl,fun A w cargs hT hA hargs => ?_⟩
 obtain⟨_,_,rfl,rfl,rfl⟩:=hargs
 refine (anI w hT.2.2.1).mono ?_
 rintro e w' ⟨rfl,rfl⟩
 exact⟨_,⟨A,fun _=>none,fun _=>none⟩,rfl,rfl,Kp.refl _ _ _,⟨fun g h => .inl h,fun _ _ h=>(by cases h),fun _ _ _ h=>(by cases h)⟩⟩
theorem anK:Gxx 224 [vu 16] (vi 4):=by
 refine gI oW Tryz.func224 Tryz.results224 ?_
 exact wR trivial ajc ah
theorem alB:bits .and .i64 16 15=0:=by kernel_rfl
theorem alD:Gxx 223 [vi 16] (vb true):=by
 refine gI oW Tryz.func223 Tryz.results223 ?_
 exact wR @alB trivial ah
def o8(u:Nat):Nat→List Nat
 | 0=>[]
 | i+1=>hx (u / 16^i%16)::o8 u i
theorem DW(u i:Nat):(o8 u i).length=i:=by
 induction i with
 | zero=>rfl
 | succ i ih=>simp [o8,ih]
theorem KR(u i:Nat):oct (o8 u i):=by
 induction i with
 | zero=>exact dV
 | succ i ih=>exact pM (ag8 _) ih
def nd(u:Nat):Nat:=if h:u<16 then 1 else nd (u / 16)+1
termination_by u
decreasing_by omega
theorem DX{u:Nat}(h:u<16):nd u=1:=by rw[nd,dif_pos h]
theorem Pj{u:Nat}(h:16≤u):nd u=nd (u / 16)+1:=by rw[nd,dif_neg (by omega)]
theorem alE(i:Nat):∀u,(i=0∨16^i≤u)→u<16^(i+1)→nd u=i+1:=by
 induction i with
 | zero=>intro u _ h;exact DX (by simpa using h)
 | succ i ih =>
  intro u h1 h2
  have h3:16^(i+1)≤u:=h1.resolve_left (by omega)
  have h4:16≤u:=by rw[Nat.pow_succ] at h3;have:=Nat.one_le_pow i 16 (by omega);omega
  rw[Pj h4,ih (u / 16) ?_ ?_]
  ·right
   rw[Nat.pow_succ] at h3
   exact (Nat.le_div_iff_mul_le (by omega)).2 h3
  ·rw[Nat.pow_succ] at h2
   exact (Nat.div_lt_iff_lt_mul (by omega)).2 h2
def jy(u:Nat):List Nat:=o8 u (nd u)
theorem KT(u:Nat):oct (jy u):=KR _ _
def Gf:List Nat:=[48,49,50,51,52,53,54,55,56,57,97,98,99,100,101,102,103,104,105,106,107,108,109,110,111,112,113,114,115,116,117,118,119,120,121,122]
theorem aao:(⟨#[48,49,50,51,52,53,54,55,56,57,97,98,99,100,101,102,103,104,105,106,107,108,109,110,111,112,113,114,115,116,117,118,119,120,121,122]⟩:ByteArray)=sB Gf:=by rfl
theorem Vk:oct Gf:=by intro b hb;simp [Gf] at hb;omega
theorem aap:∀d,d<16→Gf.getD d 0=hx d:=by decide
theorem ag9(d:Nat)(k:IntKind)(h:d<16):ixV Tryz.prog 9 (.c (.string (sB Gf))) (.c (.int k (d:Nat)))=some (.c (.int .u8 (hx d:Nat))):=by
 rw[Ob _ _ _ _ _ Vk (by omega) (by simp [Gf];omega),if_pos is9]
 simp only[Int.toNat_natCast,aap d h]
theorem alF(a:Nat):Int.fdiv (a:Int) (2^min 4 IntKind.u64.bits)=((a / 16:Nat):Int):=by
 have:(2:Int)^min 4 IntKind.u64.bits=16:=by decide
 rw[this,Int.fdiv_eq_ediv_of_nonneg _ (by omega)]
 rfl
theorem ajd(a:Nat)(h:a<18446744073709551616):bits .and .u64 (a:Int) 15=((a%16:Nat):Int):=by
 have:=bits_and_u64_nat a 15 h (by omega)
 rw[show ((15:Nat):Int)=15 from rfl] at this
 rw[this,show (15:Nat)=2^4-1 from rfl,Nat.and_two_pow_sub_one_eq_mod]
def oK(u i:Nat):List Nat:=List.replicate (65-i) 0++o8 u i
theorem Iw(u i:Nat)(h:i≤65):(oK u i).length=65:=by simp [oK,DW];omega
theorem Vl(u i x:Nat)(h:i<65)(hx':x=hx (u / 16^i%16)):(bv (oK u i)).take (65-(i:Int)-1).toNat++[V.c (.int .u8 (x:Int))]++(bv (oK u i)).drop ((65-(i:Int)-1).toNat+1)=bv (oK u (i+1)):=by
 have e1:(65-(i:Int)-1).toNat=64-i:=by omega
 have e2:65-i=(64-i)+1:=by omega
 have e3:65-(i+1)=64-i:=by omega
 rw[e1,QO,QP,show [V.c (.int .u8 (x:Int))]=bv [x] from rfl,dP,dP]
 congr 1
 have hr:(List.replicate (64-i) 0:List Nat).length=64-i:=List.length_replicate
 have t1:(oK u i).take (64-i)=List.replicate (64-i) 0:=by
  unfold oK
  rw[e2,←List.replicate_append_replicate,List.append_assoc,List.take_append_of_le_length (by rw[hr];exact Nat.le_refl _),List.take_of_length_le (by rw[hr];exact Nat.le_refl _)]
 have t2:(oK u i).drop (64-i+1)=o8 u i:=by
  unfold oK
  rw[e2,List.drop_append_of_le_length (by simp),List.drop_of_length_le (by simp)]
  rfl
 rw[t1,t2,hx']
 unfold oK
 rw[e3,List.append_assoc]
 rfl
theorem afe(u i:Nat)(h:i≤65):((bv (oK u i)).take 65).drop (65-(i:Int)).toNat=bv (o8 u i):=by
 have e1:(65-(i:Int)).toNat=65-i:=by omega
 rw[List.take_of_length_le (by rw[ax,Iw u i h];exact Nat.le_refl _),e1,QP]
 congr 1
 unfold oK
 rw[List.drop_append_of_le_length (by simp),List.drop_of_length_le (by simp)]
 rfl
theorem aff(l:List Nat):(bv l).all (fun v=>v.free&&v.one)=true:=by
 induction l with
 | nil=>rfl
 | cons a l ih=>simp only[bv,List.map_cons,List.all_cons] at ih ⊢;rw[ih];rfl
theorem afg(l m:List Nat)(a b:List V)(c:List Nat)(h:a=bv c)(h2:b=bv c):GenL l m a b:=by
 subst h;subst h2
 induction c with
 | nil=>exact trivial
 | cons x c ih=>exact⟨by rw[eY];trivial,ih⟩
theorem afh(u:Nat)(hu:u<18446744073709551616):Gxx 185 [nls,vu u,vi 16,vb false,vb false] (.tup [nls,vs (jy u)]):=by
 refine gI oW Tryz.func185 Tryz.results185 ?_
 refine wS @ai (aI alD anK) ?_
 refine aK (fun i:Nat=>mkA [(1,vu ((u / 16^i:Nat):Int)),(3,vb false),(4,vb false),(10,nls),(11,vs []),(12,.ref 0 0),(13,vi (65-(i:Int))),(14,vu 4),(15,vu 16),(16,vu 15)] [(0,(257,bv (oK u i)))] 1 (fun _ => .top)) (fun i=>i≤15∧(i=0∨16^i≤u)) (fun i=>16-i) 0 [] [0] ?_ ⟨by omega,.inl rfl⟩ ?_
 ·exact kE
 ·rintro i ⟨h1,h2⟩
  have hlt:u / 16^i<18446744073709551616:=Nat.lt_of_le_of_lt (Nat.div_le_self _ _) hu
  have ha:=ajd (u / 16^i) hlt
  have hm:u / 16^i%16<16:=Nat.mod_lt _ (by omega)
  have hal:=Iw u i (by omega)
  have hlen:(bv (oK u i)).length=65:=by rw[ax,hal]
  have hst:=Vl u i _ (by omega) rfl
  have hix:(0≤65-(i:Int)-1∧65-(i:Int)-1<65)=True:=eq_true ⟨by omega,by omega⟩
  have hof:((65-(i:Int)-1).toNat+1≤65)=True:=eq_true (by omega)
  have hdd:u / 16^i / 16=u / 16^(i+1):=by rw[Nat.pow_succ,Nat.div_div_eq_div_mul]
  rcases Nat.lt_or_ge (u / 16^i) 16 with hs|hs
  ·have hu2:u<16^(i+1):=by
    have:=(Nat.div_lt_iff_lt_mul (Nat.pow_pos (by omega))).1 hs
    rw[Nat.pow_succ,Nat.mul_comm];exact this
   have hn:=alE i u h2 hu2
   have hms:u / 16^i%16=u / 16^i:=Nat.mod_eq_of_lt hs
   rw[hms] at hst
   have hl2:(bv (oK u (i+1))).length=65:=by rw[ax,Iw u (i+1) (by omega)]
   have hcut:=afe u (i+1) (by omega)
   rw[show (65-((i+1:Nat):Int))=65-(i:Int)-1 from by omega] at hcut
   have hon:=aff (oK u (i+1))
   have hres:jy u=o8 u (i+1):=by unfold jy;rw[hn]
   generalize u / 16^i=q at *
   refine wS (aI @aao (aI @ag9 (aI @hst (aI @hlen (aI @hix (aI @hof (aI @Nat.mul_one (aI @hl2 (aI @hcut @rH))))))))) trivial ?_
   (refine rT [] ?_;first|rfl|simp only[pgo,simprocAttr]|skip)
   all_goals rw[hres]
  ·have hnx:16^(i+1)≤u:=by
    have:=(Nat.le_div_iff_mul_le (Nat.pow_pos (by omega))).1 hs
    rw[Nat.pow_succ,Nat.mul_comm];exact this
   have hi15:i+1≤15:=by
    rcases Nat.lt_or_ge i 15 with h|h
    ·exact h
    ·have:i=15:=by omega
     subst this
     exact absurd (Nat.lt_of_le_of_lt hnx hu) (by decide)
   generalize hq:u / 16^i=q at *
   refine wS (aI @aao (aI @ag9 (aI @ha (aI @alF (aI @hst (aI @hlen (aI @hix (aI @hof @Nat.mul_one)))))))) trivial ?_
   (refine bC (i+1) [] [0] (⟨hi15,.inr hnx⟩) (by first|omega|(simp only[List.length_cons];omega)) ?_;(refine iy ?_ ?_ (kD _ _ _) (by decide) (by decide) (by decide) (by decide);(repeat' (first|exact trivial|refine gJ _ _ rfl rfl ?_ ?_));all_goals (try simp only[pgs,pgl,pgx,pgf,pgw,fQ,ig,fU,iq,dB,eY,fJ,pgn,simprocAttr]);all_goals (try (repeat' (first|apply aI)));all_goals (try (first|exact trivial|exact gB (by omega)|exact gq rfl|exact aW rfl rfl|exact je rfl))))
   all_goals first|exact gq (by rw[←hdd])|exact gB (by omega)|exact afg _ _ _ _ _ rfl rfl|skip
theorem alG(u:Nat)(hu:u<18446744073709551616):Gxx 132 [vu u,vi 16] (vs (jy u)):=by
 refine gI oW Tryz.func132 Tryz.results132 ?_
 exact wR @ai (afh u hu) ah
theorem tu(u:Nat)(hu:u<18446744073709551616):Gxx 77 [vu u,vi 16] (vs (jy u)):=by
 refine gI oW Tryz.func77 Tryz.results77 ?_
 exact wR @ai (alG u hu) ah
theorem Gg{l:List Nat}(ho:oct l):l7 (sB l)=bv l:=by
 unfold l7 sB bv
 simp only[List.map_map]
 apply List.map_congr_left
 intro b hb
 have:=ho b hb
 simp only[Function.comp,UInt8.toNat_ofNat']
 congr 2
 omega
theorem anL:∀c,c<128→bits .or .u8 ((c:Nat):Int) 32=((c ||| 32:Nat):Int):=by decide
theorem aaq(c:Nat)(h:97≤c∧c≤102):Gxx 245 [.c (.int .u8 (c:Int))] (.c (.int .u8 (c:Int))):=by
 have h1:=anL c (by omega)
 have h2:∀c:Nat,c≤102→97≤c→c ||| 32=c:=by decide
 rw[h2 c h.2 h.1] at h1
 refine gI oW Tryz.func245 Tryz.results245 ?_
 exact wR @h1 trivial ah
def dgt(u i:Nat):Nat:=u / 16^(nd u-1-i)%16
theorem aje(u i:Nat):dgt u i<16:=Nat.mod_lt _ (by omega)
theorem aar(u n i:Nat)(h:i<n):(o8 u n).getD i 0=hx (u / 16^(n-1-i)%16):=by
 induction n generalizing i with
 | zero=>omega
 | succ n ih =>
  cases i with
  | zero=>rfl
  | succ i =>
   have:=ih i (by omega)
   have e:n+1-1-(i+1)=n-1-i:=by omega
   simp only[o8,List.getD_cons_succ,this,e]
theorem aas(u i:Nat)(h:i<nd u):(jy u).getD i 0=hx (dgt u i):=aar u (nd u) i h
theorem KU(u:Nat):(jy u).length=nd u:=DW _ _
theorem aat(n:Nat):∀u,u<16^n→1≤n→1≤nd u∧nd u≤n∧u<16^nd u:=by
 induction n with
 | zero=>intro u _ h;omega
 | succ n ih =>
  intro u h _
  rcases Nat.lt_or_ge u 16 with h1|h1
  ·rw[DX h1];omega
  ·have h2:u / 16<16^n:=by
    rw[Nat.pow_succ] at h
    exact (Nat.div_lt_iff_lt_mul (by omega)).2 h
   have hn:1≤n:=by
    rcases Nat.eq_zero_or_pos n with h3|h3
    ·subst h3;omega
    ·exact h3
   obtain⟨h3,h4,h5⟩:=ih (u / 16) h2 hn
   rw[Pj h1]
   refine⟨by omega,by omega, ?_⟩
   rw[Nat.pow_succ]
   exact (Nat.div_lt_iff_lt_mul (by omega)).1 h5
def pre(u i:Nat):Nat:=u / 16^(nd u-i)
theorem alH(u:Nat)(h:u<16^nd u):pre u 0=0:=Nat.div_eq_of_lt h
theorem afi(u:Nat):pre u (nd u)=u:=by simp [pre]
theorem KW(u i:Nat)(h:i<nd u):pre u i*16+dgt u i=pre u (i+1):=by
 unfold pre dgt
 have e1:nd u-i=(nd u-1-i)+1:=by omega
 have e2:nd u-(i+1)=nd u-1-i:=by omega
 rw[e1,e2,Nat.pow_succ,←Nat.div_div_eq_div_mul]
 omega
theorem ajf(u i:Nat)(hu:u<18446744073709551616)(h:i<nd u):pre u i<1152921504606846976:=by
 have h1:=KW u i h
 have h2:pre u (i+1)≤u:=Nat.div_le_self _ _
 omega
theorem yK:∀d,d<16→(48≤hx d∧hx d≤57∧hx d-48=d)∨(97≤hx d∧hx d≤102∧hx d-97+10=d):=by decide
theorem alI:IntKind.u64.wrap (1*2^min 64 IntKind.u64.bits)=0:=by kernel_rfl
theorem aau:uA Tryz.prog 117=true:=by kernel_rfl
theorem wm1:IntKind.u64.wrap (-1)=18446744073709551615:=by kernel_rfl
theorem aav(s:St)(d:Option Nat)(z:ByteArray)(K:Kd→St→Prop):AX Tryz.prog s d 9 28 (.c (.string z)) K=K .x (s.put d (.sl .fz 1 (l7 z))):=by
 rw[uF]
 have h0:mM Tryz.prog 9 28 (.c (.string z))=none:=by rfl
 have h1:kz Tryz.prog 9 28 (.c (.string z))=some (.sl .fz 1 (l7 z)):=by rfl
 have h3:jF Tryz.prog s 9 28 (.c (.string z))=none:=rfl
 have h2:mX Tryz.prog s 9 28 (.c (.string z))=none:=rfl
 rw[h0,h1,h2,h3]
 simp only[bU,aF,bG,or_false,false_or,Option.map_some,FP]
theorem aaw{a b:List Nat}(ha:oct a)(hb:oct b)(h:a≠b):decide (sB a=sB b)=false:=by rw[sJ ha hb];exact decide_eq_false h
theorem alJ(u:Nat)(hu:u<18446744073709551616):Gxx 225 [vs (jy u),vi 16,vi 64] (.tup [vu u,.c .nilIface]):=by
 obtain⟨n1,n2,n3⟩:=aat 16 u (by simpa using hu) (by omega)
 have ho:=KT u
 have hlen:=KU u
 have hbl:(bv (jy u)).length=nd u:=by rw[ax,hlen]
 have hne:jy u≠[]:=by intro h;rw[h] at hlen;simp at hlen;omega
 have hnil:=aaw ho dV hne
 have hby:=Gg ho
 refine gI oW Tryz.func225 Tryz.results225 ?_
 refine wS (aI @ai (aI @hnil (aI @hby (aI @aav (aI @alI @wm1))))) trivial ?_
 refine aK (fun i:Nat=>mkA [(0,vs (jy u)),(1,vi 16),(8,vb false),(9,vs (jy u)),(10,vu 1152921504606846976),(11,vu 18446744073709551615),(12,vb false),(13,vu (pre u i:Nat)),(99,.sl .fz 1 (bv (jy u))),(100,vi (nd u:Nat)),(101,vi i)] [] 0 (fun _ => .top)) (fun i=>i≤nd u) (fun i=>nd u-i) 0 [] [] ?_ (Nat.zero_le _) ?_
 ·(refine iy ?_ ?_ (kD _ _ _) (by decide) (by decide) (by decide) (by decide);(repeat' (first|exact trivial|refine gJ _ _ rfl rfl ?_ ?_));all_goals (try simp only[pgs,pgl,pgx,pgf,pgw,fQ,ig,fU,iq,dB,eY,fJ,pgn,simprocAttr]);all_goals (try (repeat' (first|apply aI)));all_goals (try (first|exact trivial|exact gB (by omega)|exact gq rfl|exact aW rfl rfl|exact je rfl)))
  all_goals exact gq (by rw[alH u n3];rfl)
 ·intro i hi
  replace hi:i≤nd u:=hi
  rcases Nat.lt_or_ge i (nd u) with hlt|hge
  ·have hg:=HY (jy u) i (by omega)
   have hd:=aas u i hlt
   have hdl:=aje u i
   have hp:=KW u i hlt
   have hpl:=ajf u i hu hlt
   have hps:pre u (i+1)≤u:=Nat.div_le_self _ _
   rw[hd] at hg
   rcases yK (dgt u i) hdl with ⟨c1,c2,c3⟩|⟨c1,c2,c3⟩
   ·generalize hx (dgt u i)=c at *
    refine wS (aI @hg @hbl) trivial ?_
    (refine bC (i+1) [] [] (hlt) (by first|omega|(simp only[List.length_cons];omega)) ?_;(refine iy ?_ ?_ (kD _ _ _) (by decide) (by decide) (by decide) (by decide);(repeat' (first|exact trivial|refine gJ _ _ rfl rfl ?_ ?_));all_goals (try simp only[pgs,pgl,pgx,pgf,pgw,fQ,ig,fU,iq,dB,eY,fJ,pgn,simprocAttr]);all_goals (try (repeat' (first|apply aI)));all_goals (try (first|exact trivial|exact gB (by omega)|exact gq rfl|exact aW rfl rfl|exact je rfl))))
    all_goals exact gq (by congr 1;omega)
   ·have hlo:=aaq (hx (dgt u i)) ⟨c1,c2⟩
    generalize hx (dgt u i)=c at *
    refine wS (aI @hg @hbl) hlo ?_
    (refine bC (i+1) [] [] (hlt) (by first|omega|(simp only[List.length_cons];omega)) ?_;(refine iy ?_ ?_ (kD _ _ _) (by decide) (by decide) (by decide) (by decide);(repeat' (first|exact trivial|refine gJ _ _ rfl rfl ?_ ?_));all_goals (try simp only[pgs,pgl,pgx,pgf,pgw,fQ,ig,fU,iq,dB,eY,fJ,pgn,simprocAttr]);all_goals (try (repeat' (first|apply aI)));all_goals (try (first|exact trivial|exact gB (by omega)|exact gq rfl|exact aW rfl rfl|exact je rfl))))
    all_goals exact gq (by congr 1;omega)
  ·have:i=nd u:=by omega
   subst this
   exact wR @afi trivial ah
theorem A8(u:Nat)(hu:u<18446744073709551616):Gxx 190 [vs (jy u),vi 16,vi 64] (.tup [vu u,.c .nilIface]):=by
 have hif:=aau
 refine gI oW Tryz.func190 Tryz.results190 ?_
 exact wR trivial (alJ u hu) ah
theorem KX:∀c,c<256→ixB yC c=nib c:=by decide
theorem aax:∀c,c<256→0≤nib c→hx (nib c).toNat=c:=by decide
def uP(l:List Nat):Option (List Nat) :=
 if oV l [37]=true then (if (l.drop 1).length%2≠0 then none else if okB (l.drop 1) ((l.drop 1).length / 2)=true then some (prs (l.drop 1) ((l.drop 1).length / 2)) else none) else some l
def pkP(l:List Nat):List Nat × Nat :=
 match uP l with
 | none=>([],1)
 | some k=>if (fk k).2≠0∨(fk k).1≠l then ([],1) else (k,0)
theorem pct(l:List Nat):oV l [37]=true↔0<l.length∧l.getD 0 0=37:=by
 cases l with
 | nil=>simp [oV]
 | cons a l=>simp [oV]
theorem Gh(l:List Nat)(h:kJ l=true):oV l [37]=false:=by
 rw[←Bool.not_eq_true,pct]
 rintro⟨h1,h2⟩
 cases l with
 | nil=>simp at h1
 | cons a l =>
  simp at h2
  subst h2
  simp [kJ,plC,bt,mk5] at h
theorem aay(r:List Nat)(ho:oct r):∀j,2*j≤r.length→okB r j=true→jh (prs r j)=r.take (2*j):=by
 intro j
 induction j with
 | zero=>intro _ _;rfl
 | succ j ih =>
  intro hj hok
  rw[yE,Bool.and_eq_true] at hok
  have h1:=ih (by omega) hok.1
  have h2:=hok.2
  unfold okP at h2
  simp only[Bool.and_eq_true,decide_eq_true_eq] at h2
  have b1:=gW ho (2*j)
  have b2:=gW ho (2*j+1)
  have n1:=E8 (r.getD (2*j) 0)
  have n2:=E8 (r.getD (2*j+1) 0)
  have e1:=aax _ b1 h2.1
  have e2:=aax _ b2 h2.2
  have e3:prB r j / 16=(nib (r.getD (2*j) 0)).toNat:=by unfold prB;omega
  have e4:prB r j%16=(nib (r.getD (2*j+1) 0)).toNat:=by unfold prB;omega
  rw[DL]
  have:jh (prs r j++[prB r j])=jh (prs r j)++[hx (prB r j / 16),hx (prB r j%16)]:=by simp [jh]
  rw[this,h1,e3,e4,e1,e2]
  rw[show 2*(j+1)=2*j+1+1 by omega,List.take_succ_eq_append_getElem (show 2*j+1<r.length by omega),List.take_succ_eq_append_getElem (show 2*j<r.length by omega)]
  have g1:r.getD (2*j) 0=r[2*j]'(by omega):=by simp [List.getD,show 2*j<r.length by omega]
  have g2:r.getD (2*j+1) 0=r[2*j+1]'(by omega):=by simp [List.getD,show 2*j+1<r.length by omega]
  rw[g1,g2,List.append_assoc]
  rfl
theorem aaz(l:List Nat)(ho:oct l):pkP l=pk l:=by
 unfold pkP uP
 cases hp:oV l [37]
 ·have hn:¬(0<l.length∧l.getD 0 0=37):=fun h=>by rw[←pct,hp] at h;cases h
  simp only[Bool.false_eq_true,if_false]
  unfold pk fk
  cases h1:fH l<;>cases h2:kJ l<;>simp only[Bool.and_true,Bool.and_false,Bool.false_and,Bool.true_and,Bool.false_eq_true,if_true,if_false,ne_eq,not_true_eq_false,or_false,false_or]
  ·by_cases h0:l.length=0
   ·rw[if_pos h0,if_pos (.inl (by decide))]
   ·have:l.getD 0 0≠37:=fun h=>hn ⟨by omega,h⟩
    rw[if_neg h0,if_pos this,if_pos (.inl (by decide))]
  ·by_cases h0:l.length=0
   ·rw[if_pos h0,if_pos (.inl (by decide))]
   ·have:l.getD 0 0≠37:=fun h=>hn ⟨by omega,h⟩
    rw[if_neg h0,if_pos this,if_pos (.inl (by decide))]
  ·have hl:=BP h1
   have:l.getD 0 0≠37:=fun h=>hn ⟨by omega,h⟩
   have hne:¬(37::jh l=l):=by
    intro h
    apply this
    rw[←h]
    rfl
   have h0:¬l.length=0:=by omega
   rw[if_pos (.inr (by simpa using hne)),if_neg h0,if_pos this]
  ·simp
 ·obtain⟨h1,h2⟩:=(pct l).1 hp
  have hpl:kJ l=false:=by
   cases h:kJ l
   ·rfl
   ·have:=Gh l h;rw[hp] at this;cases this
  unfold pk
  rw[hpl,Bool.and_false]
  simp only[if_true,Bool.false_eq_true,if_false]
  rw[if_neg (show ¬l.length=0 by omega),if_neg (show ¬l.getD 0 0≠37 from fun h=>h h2)]
  by_cases h5:(l.drop 1).length%2≠0
  ·rw[if_pos h5]
   cases h4:okB (l.drop 1) ((l.drop 1).length / 2)
   ·rw[if_pos rfl]
   ·rw[if_neg (by simp),if_pos h5]
  ·rw[if_neg h5]
   cases h4:okB (l.drop 1) ((l.drop 1).length / 2)
   ·rw[if_neg (by simp),if_pos rfl]
   ·rw[if_pos rfl,if_neg (by simp),if_neg h5]
    simp only
    have hx:=aay (l.drop 1) (Dp ho 1) ((l.drop 1).length / 2) (by omega) h4
    have hk:37::jh (prs (l.drop 1) ((l.drop 1).length / 2))=l:=by
     rw[hx,List.take_of_length_le (by omega)]
     cases l with
     | nil=>simp at h1
     | cons a l=>simp at h2;simp [h2]
    generalize prs (l.drop 1) ((l.drop 1).length / 2)=k at hk
    unfold fk
    cases h6:fH k
    ·simp
    ·cases h7:kJ k
     ·simp [hk]
     ·have hne:k≠l:=by
       intro h;subst h
       rw[h7] at hpl;cases hpl
      simp [hne]
theorem Vm{l k:List Nat}(ho:oct l)(hl:l.length≤140737488355328)(h:uP l=some k):oct k∧k.length≤140737488355328:=by
 unfold uP at h
 split at h
 ·split at h
  ·cases h
  ·split at h
   ·simp only[Option.some.injEq] at h
    subst h
    exact⟨afd _ _,by rw[yG,List.length_drop];omega⟩
   ·cases h
 ·simp only[Option.some.injEq] at h
  subst h
  exact⟨ho,hl⟩
theorem anM(a b:List Nat)(ha:oct a)(hb:oct b):decide (sB a=sB b)=decide (a=b):=sJ ha hb
theorem Pn{k:List Nat}(ho:oct k):oct (fk k).1:=by
 unfold fk
 split
 ·exact dV
 ·split
  ·exact ho
  ·exact pM (by omega) (yD _)
theorem ajg(l:List Nat)(ho:oct l)(hl:l.length≤140737488355328):Gxx 145 [.c (.string (sB l))] (pkV l):=by
 refine gI (oW [15]) Tryz.func145 Tryz.results145 ?_
 have g1:=ZX l [37] ho (nK (by omega))
 unfold pkV
 rw[←aaz l ho]
 unfold pkP
 refine wS (aI @wo @alr) trivial ?_
 refine BJ _ (fun k=>mkA [(0,.c (.string (sB l))),(4,.c (.string (sB k)))] [] 0 (fun _ => .top)) (fun k=>uP l=some k) rfl ?_ ?_
 ·intro k hk
  obtain⟨hko,hkl⟩:=Vm ho hl hk
  have g2:=aan k hko
  have hfo:=Pn hko
  rw[hk]
  simp only
  by_cases h1:(fk k).2=0
  ·have e1:(((fk k).2:Nat):Int)=0:=by omega
   by_cases h2:(fk k).1=l
   ·rw[if_neg (by simp [h1,h2])]
    unfold fkV at g2
    rw[e1,h2] at g2
    exact wR @wo g2 ah
   ·rw[if_pos (.inr h2)]
    unfold fkV at g2
    rw[e1] at g2
    exact wR (aI @wo (anM _ _ hfo ho)) g2 ah
  ·rw[if_pos (.inl h1)]
   unfold fkV at g2
   exact wR @wo g2 ah
 ·rcases xh l [37] with ⟨hp,h2⟩|⟨hp,h2⟩
  ·rw[h2] at g1
   have hro:=Dp ho 1
   have e5:((l.drop 1).length:Int).tmod 2=(((l.drop 1).length%2:Nat):Int):=rfl
   have hkk:uP l=if (l.drop 1).length%2≠0 then none else if okB (l.drop 1) ((l.drop 1).length / 2)=true then some (prs (l.drop 1) ((l.drop 1).length / 2)) else none:=by unfold uP;rw[if_pos hp]
   simp only[List.length_cons,List.length_nil,Nat.zero_add] at g1
   generalize hr:l.drop 1=r at g1 hro e5 hkk
   have hrl:r.length≤140737488355328:=by rw[←hr,List.length_drop];omega
   by_cases hodd:r.length%2=0
   ·rw[if_neg (by omega)] at hkk
    refine wS (aI @wo (aI @e5 @hodd)) g1 ?_
    refine aK (fun j=>mkA [(0,.c (.string (sB l))),(5,.c (.string (sB r))),(7,.sl (.own 0 5) 1 (bv (prs r j))),(8,.c (.int .i64 (2*(j:Nat))))] [] 1 (fun _ => .top)) (fun j=>j≤r.length / 2∧okB r j=true) (fun j=>r.length / 2-j) 0 [] [] ?_ ⟨Nat.zero_le _,rfl⟩ ?_
    ·exact kE
     all_goals exact gK rfl
    ·rintro j ⟨hj,hok⟩
     have en1:(2*(j:Int)).toNat=2*j:=by omega
     have en2:(2*(j:Int)+1).toNat=2*j+1:=by omega
     rcases Nat.lt_or_ge j (r.length / 2) with hlt|hge
     ·have q1:=DJ yC (r.getD (2*j) 0) rG (gW hro _)
      have q2:=DJ yC (r.getD (2*j+1) 0) rG (gW hro _)
      rw[KX _ (gW hro _)] at q1 q2
      have hr1:=E8 (r.getD (2*j) 0)
      have hr2:=E8 (r.getD (2*j+1) 0)
      have hv:0≤nib (r.getD (2*j) 0)→0≤nib (r.getD (2*j+1) 0)→16*nib (r.getD (2*j) 0)+nib (r.getD (2*j+1) 0)=((prB r j:Nat):Int):=by
       intro h1 h2
       unfold prB
       omega
      have hpl:=yG r j
      cases hp:okP r j
      ·rw[if_neg (by rw[Rq hlt hp];simp)] at hkk
       unfold okP at hp
       have hp':nib (r.getD (2*j) 0)<0∨nib (r.getD (2*j+1) 0)<0:=by
        rw[←Bool.not_eq_true,Bool.and_eq_true,decide_eq_true_eq,decide_eq_true_eq] at hp
        omega
       rw[hkk]
       rcases hp' with hp'|hp'
       ·exact wR (aI @wo (aI @DK (aI @en1 @en2))) (aI q1 q2) ah
       ·exact wR (aI @wo (aI @DK (aI @en1 @en2))) (aI q1 q2) ah
      ·have hp0:=hp
       unfold okP at hp
       rw[Bool.and_eq_true,decide_eq_true_eq,decide_eq_true_eq] at hp
       have hv:=hv hp.1 hp.2
       refine wS (aI @wo (aI @DK (aI @en1 (aI @en2 @hv)))) (aI q1 q2) ?_
       (refine bL (j+1) [0] [] ⟨hlt,by rw[yE,hok,hp0];rfl⟩ ?_;refine kL ?_)
       exact aW rfl (by rw[DL,←dP];rfl)
     ·have hjn:j=r.length / 2:=by omega
      rw[←hjn,if_pos hok] at hkk
      refine wS (aI @wo @rH) trivial ?_
      refine xY (prs r j) [] [] hkk ?_
      exact kE
   ·rw[if_pos hodd] at hkk
    rw[hkk]
    exact wR (aI @wo @e5) g1 ah
  ·rw[h2] at g1
   have hkk:uP l=some l:=by unfold uP;rw[if_neg (by rw[hp];simp)]
   refine wS @wo g1 ?_
   refine xY l [] [] hkk ?_
   exact kE
def ak(n:Int):List Nat:=(Lib.itoa n).map UInt8.toNat
theorem fD(n:Int):oct (ak n):=by
 intro b hb
 obtain⟨c,_,rfl⟩:=List.mem_map.1 hb
 exact c.toNat_lt
theorem Vo(n:Int):(⟨(Lib.itoa n).toArray⟩:ByteArray)=sB (ak n):=by
 apply ByteArray.ext
 apply Array.ext'
 simp [sB,ak,Function.comp_def]
theorem aaA(n:Int)(h0 : -9223372036854775808≤n)(h1:n≤9223372036854775807):Gxx 75 [.c (.int .i64 n)] (.c (.string (sB (ak n)))):=by
 refine⟨by kernel_rfl,fun A w cargs hT hA hargs => ?_⟩
 obtain⟨_,_,rfl,rfl,rfl⟩:=hargs
 refine (Any.strconv_Itoa Tryz.laysM171 n h0 h1 w hT.1).mono ?_
 rintro e w' ⟨rfl,k,os,rfl⟩
 refine⟨_,⟨A,fun _=>none,fun _=>none⟩,rfl,by rw[Vo];rfl,⟨rfl,rfl,rfl, ?_,fun j hj _ => ?_⟩,⟨fun g h => .inl h,fun _ _ h=>(by cases h),fun _ _ _ h=>(by cases h)⟩⟩
 ·rw[Sort.size_grow];show w.heap.size≤w.heap.size+_;omega
 ·exact Sort.heap_grow_old (w.drewN k) os hj
theorem jv(n:Int)(h0 : -9223372036854775808≤n)(h1:n≤9223372036854775807):Gxx 41 [.c (.int .i64 n)] (.c (.string (sB (ak n)))):=by
 refine gI oW Tryz.func41 Tryz.results41 ?_
 exact wR trivial (aaA n h0 h1) ah
theorem ajh(n:Int)(h0 : -9223372036854775808≤n)(h1:n≤9223372036854775807):Gxx 89 [.c (.int .i64 n)] (.c (.string (sB (ak n)))):=by
 refine gI oW Tryz.func89 Tryz.results89 ?_
 exact wR trivial (aaA n h0 h1) ah
theorem aji(l:List Nat)(c:Nat)(ho:oct l)(hc:c<256)(hl:l.length≤140737488355328):Gxx 111 [.c (.string (sB l)),.c (.string (sB [c]))] (.c (.string (sB (trm c l)))):=by
 refine⟨by kernel_rfl,fun A w cargs hT hA hargs => ?_⟩
 obtain⟨_,_,rfl,rfl,_,_,rfl,rfl,rfl⟩:=hargs
 refine (Any.strings_TrimSuffix Tryz.lays102 (sB l) (sB [c]) w (by rw[bD];omega)).mono ?_
 rintro e w' ⟨rfl,rfl⟩
 exact⟨_,⟨A,fun _=>none,fun _=>none⟩,rfl,by rw[aeJ l c ho hc];rfl,Kp.refl _ _ _,⟨fun g h => .inl h,fun _ _ h=>(by cases h),fun _ _ _ h=>(by cases h)⟩⟩
theorem ajj(l:List Nat)(c:Nat)(ho:oct l)(hc:c<256)(hl:l.length≤4294967280):Gxx 112 [.c (.string (sB l)),.c (.string (sB [c]))]
  (.tup [.c (.string (sB (bef c l))),.c (.string ⟨(Lib.cut (sB l).data.toList (sB [c]).data.toList).2.1.toArray⟩),.c (.bool (Lib.cut (sB l).data.toList (sB [c]).data.toList).2.2)]):=by
 refine⟨by kernel_rfl,fun A w cargs hT hA hargs => ?_⟩
 obtain⟨_,_,rfl,rfl,_,_,rfl,rfl,rfl⟩:=hargs
 obtain⟨m,hm⟩:=hT.2.1
 refine (Any.strings_Cut Tryz.lays145 (sB l) (sB [c]) m w (by rw[bD];omega) hm).mono ?_
 rintro e w' ⟨rfl,k,rfl⟩
 exact⟨_,⟨A,fun _=>none,fun _=>none⟩,rfl,⟨_,rfl,_,_,rfl,by rw[aiC l c ho hc];rfl,_,_,rfl,rfl,_,_,rfl,rfl,rfl⟩,⟨rfl,rfl,rfl,Nat.le_refl _,fun _ _ _=>rfl⟩,⟨fun g h => .inl h,fun _ _ h=>(by cases h),fun _ _ _ h=>(by cases h)⟩⟩
theorem afj{L:Lay}{w:World}(l:List (List Nat)):RepE L w 1 (sv l) (l.map fun x=>Value.string (sB x)):=by
 induction l with
 | nil=>rfl
 | cons a l ih=>exact⟨.string (sB a),_,by simp [Value.cells],rfl,⟨rfl,rfl⟩,rfl,ih⟩
theorem aaB(l:List Nat)(c:Nat)(ho:oct l)(hc:c<256)(hl:l.length≤4294967280):Gxx 110 [.c (.string (sB l)),.c (.string (sB [c]))] (.sl (.own 0 9) 1 (sv (spl c l))):=by
 refine⟨by kernel_rfl,fun A w cargs hT hA hargs => ?_⟩
 obtain⟨_,_,rfl,rfl,_,_,rfl,rfl,rfl⟩:=hargs
 obtain⟨m,hm⟩:=hT.2.1
 have hn:=Lib.splitB_all (sB [c]) (by rw[bD];simp) 0 _ (sB l) rfl
 have hs:=Zy l c ho hc
 have hk:Lib.countB (sB l) (sB [c])+1=(spl c l).length:=by rw[←hn,hs,List.length_map]
 have hlen:=Ih c l
 refine (Any.strings_Split Tryz.lays146 (by kernel_rfl) (sB l) (sB [c]) m w (by rw[bD];omega) hm (by rw[bD];simp)).mono ?_
 rintro e w' ⟨rfl,rfl⟩
 refine⟨_,⟨A,fun j=>if j=0 then some w.heap.size else none,fun _=>none⟩,rfl,⟨some ⟨w.heap.size,0,none⟩,(spl c l).length,(spl c l).map fun x=>Value.string (sB x),by rw[hk,au],afj _, ?_⟩,Kp.alloc (Kp.refl _ _ _) (Nat.le_refl _) _,⟨fun g h => .inl h,fun j g h => ?_,fun i j g h h' => ?_⟩⟩
 ·refine .inr ⟨w.heap.size,_,rfl,rfl,heap_alloc_new w _,by rw[au];exact Nat.le_refl _,by unfold maxLen;omega, ?_, ?_⟩
  ·rw[hs];simp
  ·rw[hs,au,Nat.mul_one]
   simp only[List.map_map,Function.comp_def]
   exact List.take_of_length_le (by simp)
 ·simp only at h
  split at h
  ·simp only[Option.some.injEq] at h
   subst h
   exact⟨Nat.le_refl _,by simp,fun h=>by have:=hA _ h;omega⟩
  ·cases h
 ·simp only at h h'
  split at h
  ·split at h'
   ·omega
   ·cases h'
  ·cases h
theorem KY{L:Lay}{w:World}:∀(l:List (List Nat)) (us:List Value),RepE L w 1 (sv l) us→us=l.map fun x=>Value.string (sB x):=by
 intro l
 induction l with
 | nil=>intro us h;exact h
 | cons a l ih =>
  rintro us ⟨u,r,rfl,_,_,h,hr⟩
  have hu:u = .string (sB a):=h
  subst hu
  rw[ih r hr]
  rfl
theorem kK(l:List (List Nat))(hl:(jn l).length≤140737488355328)(hn:l.length≤140737488355328):Gxx 46 [fzs l,vs [32]] (vs (jn l)):=by
 refine⟨by kernel_rfl,fun A w cargs hT hA hargs => ?_⟩
 obtain⟨_,_,rfl,⟨a,cap,cells,rfl,hr,hm⟩,_,_,rfl,rfl,rfl⟩:=hargs
 have hc:=KY l cells hr
 subst hc
 rw[au] at hm ⊢
 obtain⟨h0,h1⟩:=hm
 rcases h1 with h1|⟨g,o,rfl,hg,hrow⟩
 ·have:l=[]:=List.eq_nil_of_length_eq_zero h1
  subst this
  refine (Any.strings_Join_none Tryz.lays156 Tryz.Builder_Extra_156 a cap (sB [32]) w).mono ?_
  rintro e w' ⟨rfl,rfl⟩
  exact⟨_,⟨A,fun _=>none,fun _=>none⟩,rfl,rfl,Kp.refl _ _ _,⟨fun g h => .inl h,fun _ _ h=>(by cases h),fun _ _ _ h=>(by cases h)⟩⟩
 ·have hlen:(l.map sB).length=l.length:=by simp
  have hj:(Lib.join ((l.map sB).map (·.data.toList)) (sB [32]).data.toList).length≤140737488355328:=by
   have h2:=congrArg ByteArray.size (Rf l)
   rw[bD] at h2
   have h3:(Lib.join ((l.map sB).map (·.data.toList)) (sB [32]).data.toList).length=(jn l).length:=by rw[←h2];simp [ByteArray.size]
   omega
  have:=Any.strings_Join Tryz.lays156 Tryz.Builder_Extra_156 g o cap (l.map sB) (sB [32]) w (fun j x hx=>by
   refine hrow.cell (j:=j) ?_
   rw[List.getElem?_map] at hx ⊢
   cases h4:l[j]? with
   | none=>rw[h4] at hx;cases hx
   | some y=>rw[h4] at hx;simp only[Option.map_some,Option.some.injEq] at hx ⊢;rw[hx]) (hA g hg) (by omega) (by omega) hj
  rw[hlen] at this
  refine this.mono ?_
  rintro e w' ⟨rfl,hb⟩
  refine⟨_,⟨A,fun _=>none,fun _=>none⟩,rfl,by rw[Rf];rfl,⟨hb.os,hb.tape,hb.output,hb.size,fun k h _=>hb.block k h⟩,⟨fun g h => .inl h,fun _ _ h=>(by cases h),fun _ _ _ h=>(by cases h)⟩⟩
def okc(c:Nat):Bool:=c == 10||bt c 32 126
def nl:V := .c (.slice none 0 0)
theorem alK:(⟨#[10]⟩:ByteArray)=sB [10]:=by rfl
theorem aaC(a:List Nat)(ha:oct a):decide (sB a=sB [])=decide (a=[]):=sJ ha dV
def Iy(l:List Nat):V:=if 65536<l.length then .tup [nl,.c (.int .i64 11)] else if l.all okc=false then .tup [nl,.c (.int .i64 1)] else if l=[] then .tup [nl,.c (.int .i64 0)] else .tup [.sl (.own 0 9) 1 (sv (spl 10 (trm 10 l))),.c (.int .i64 0)]
theorem afk{l:List Nat}{c:Nat}(ho:oct l):oct (trm c l)∧(trm c l).length≤l.length:=by
 unfold trm
 split
 ·exact⟨fun b hb=>ho b ((List.dropLast_sublist l).mem hb),by simp⟩
 ·exact⟨ho,Nat.le_refl _⟩
theorem aha{c:Nat}:okc c=false↔c≠10∧(c<32∨126<c):=by
 unfold okc bt
 rw[Bool.or_eq_false_iff,Bool.and_eq_false_iff,decide_eq_false_iff_not,decide_eq_false_iff_not,beq_eq_false_iff_ne]
 omega
theorem ajk(l:List Nat)(ho:oct l):Gxx 65 [.c (.string (sB l))] (Iy l):=by
 refine gI oW Tryz.func65 Tryz.results65 ?_
 unfold Iy nl
 rcases Nat.lt_or_ge 65536 l.length with h|h
 ·rw[if_pos h]
  exact wR trivial trivial ah
 rw[if_neg (by omega)]
 refine wS trivial trivial ?_
 refine aK (fun i=>mkA [(0,.c (.string (sB l))),(10,.c (.int .i64 l.length)),(11,.c (.int .i64 (i:Nat)))] [] 0 (fun _ => .top)) (fun i=>i≤l.length∧(l.take i).all okc=true) (fun i=>l.length-i) 0 [] [] ?_ ⟨Nat.zero_le _,rfl⟩ ?_
 ·exact kE
 ·rintro i ⟨hi,hall⟩
  rcases Nat.lt_or_ge i l.length with hlt|hge
  ·have hcb:=gW ho i
   cases hok:okc (l.getD i 0)
   ·rw[vS hlt hok,if_pos rfl]
    have hc':=aha.1 hok
    exact wR trivial trivial ah
   ·have hc':¬(l.getD i 0≠10∧(l.getD i 0<32∨126<l.getD i 0)):=fun h'=>by rw[←aha,hok] at h';cases h'
    (repeat' first|refine wP trivial trivial ?_|refine tS ?_ ?_<;>intro hc|fail)
    all_goals exact bE (i+1) [] [] ⟨hlt,jQ hlt hall hok⟩
  ·have hil:i=l.length:=by omega
   subst hil
   rw[List.take_length] at hall
   rw[hall,if_neg (by simp)]
   by_cases hz:l=[]
   ·rw[if_pos hz]
    exact wR (aI @wo (aI (aaC l ho) @hz)) trivial ah
   ·rw[if_neg hz]
    obtain⟨h1,h2⟩:=afk (c:=10) ho
    exact wR (aI @wo (aI @alK (aI (aaC l ho) @hz))) (aI (aji l 10 ho (by omega) (by omega)) (aaB (trm 10 l) 10 h1 (by omega) (by omega))) (ids [0])
def Wh(l:List Nat):V:=if 65536<l.length then .tup [nl,.c (.int .i64 11)] else if l.all okc=false then .tup [nl,.c (.int .i64 1)] else .tup [.sl (.own 0 9) 1 (sv (PY (spl 10 l))),.c (.int .i64 0)]
def VN(l:List Nat)(i:Nat)(ps:List (List Nat))(f:Nat):Prop:=f≤i∧i≤l.length∧spl 10 l=ps++spl 10 (l.drop f)∧(∀x∈(l.drop f).take (i-f),x≠10)
theorem abj{l:List Nat}{i:Nat}{ps:List (List Nat)}{f:Nat}(h:VN l i ps f)(hi:i<l.length)(hc:l.getD i 0≠10):VN l (i+1) ps f:=by
 obtain⟨h1,h2,h3,h4⟩:=h
 refine⟨by omega,hi,h3, ?_⟩
 have e:(l.drop f).take (i+1-f)=(l.drop f).take (i-f)++[l.getD i 0]:=by
  rw[show i+1-f=(i-f)+1 by omega,List.take_succ_eq_append_getElem (by rw[List.length_drop];omega)]
  simp [List.getD,hi,show f+(i-f)=i by omega]
 intro x hx
 rw[e] at hx
 rcases List.mem_append.1 hx with hx|hx
 ·exact h4 x hx
 ·simp only[List.mem_singleton] at hx;rw[hx];exact hc
theorem abT{l:List Nat}{i:Nat}{ps:List (List Nat)}{f:Nat}(h:VN l i ps f)(hi:i<l.length)(hc:l.getD i 0=10):VN l (i+1) (ps++[(l.take i).drop f]) (i+1):=by
 obtain⟨h1,h2,h3,h4⟩:=h
 refine⟨Nat.le_refl _,hi, ?_,by simp⟩
 have e:l.drop f=(l.drop f).take (i-f)++10::l.drop (i+1):=by
  have e1:l.drop i=l.getD i 0::l.drop (i+1):=by
   rw[List.drop_eq_getElem_cons hi];simp [List.getD,hi]
  rw[hc] at e1
  rw[←e1]
  have:=(List.take_append_drop (i-f) (l.drop f)).symm
  rw[List.drop_drop,show f+(i-f)=i by omega] at this
  exact this
 have e2:(l.take i).drop f=(l.drop f).take (i-f):=by rw[List.drop_take]
 rw[h3,e,OV 10 _ _ h4,e2]
 simp
theorem aca{l:List Nat}{ps:List (List Nat)}{f:Nat}(h:VN l l.length ps f):PY (spl 10 l)=if f<l.length then ps++[l.drop f] else ps:=by
 obtain⟨h1,h2,h3,h4⟩:=h
 rw[List.take_of_length_le (by rw[List.length_drop];omega)] at h4
 rw[h3,yh 10 _ h4,MM]
 by_cases hf:f<l.length
 ·rw[if_pos hf,if_neg (by intro e;have:=congrArg List.length e;rw[List.length_drop] at this;simp at this;omega)]
 ·rw[if_neg hf,if_pos (List.drop_eq_nil_of_le (by omega))]
theorem acb{l:List Nat}{i:Nat}{ps:List (List Nat)}{f:Nat}(h:VN l i ps f):ps.length≤l.length:=by
 obtain⟨h1,h2,h3,h4⟩:=h
 have:=Ih 10 l
 obtain⟨y,t,e⟩:=uG 10 (l.drop f)
 rw[h3,e] at this
 simp at this
 omega
theorem BQ(l:List (List Nat))(x:List Nat):sv l++[V.c (.string (sB x))]=sv (l++[x]):=by simp [sv]
theorem akw(l:List Nat)(ho:oct l):Gxx 106 [.c (.string (sB l))] (Wh l):=by
 refine gI oW Tryz.func106 Tryz.results106 ?_
 unfold Wh nl
 rcases Nat.lt_or_ge 65536 l.length with h|h
 ·rw[if_pos h]
  exact wR trivial trivial ah
 rw[if_neg (by omega)]
 refine wS trivial trivial ?_
 refine aK (fun i=>mkA [(0,.c (.string (sB l))),(4,.c (.int .i64 (i:Nat)))] [] 0 (fun _ => .top)) (fun i=>i≤l.length∧(l.take i).all okc=true) (fun i=>l.length-i) 0 [] [] ?_ ⟨Nat.zero_le _,rfl⟩ ?_
 ·exact kE
 ·rintro i ⟨hi,hall⟩
  rcases Nat.lt_or_ge i l.length with hlt|hge
  ·have hcb:=gW ho i
   cases hok:okc (l.getD i 0)
   ·rw[vS hlt hok,if_pos rfl]
    have hc':=aha.1 hok
    have hb:bt (l.getD i 0) 32 126=false:=by rw[←Bool.not_eq_true];intro hb;have:=zV hb;omega
    (repeat' first|refine wP @hb trivial ?_|refine cU (zQ _ 32 126) ?_|refine tS ?_ ?_<;>intro hc|fail)
    all_goals exact rE []
   ·have hc':¬(l.getD i 0≠10∧(l.getD i 0<32∨126<l.getD i 0)):=fun h'=>by rw[←aha,hok] at h';cases h'
    by_cases h10:l.getD i 0=10
    ·(repeat' first|refine wP trivial trivial ?_|refine cU (zQ _ 32 126) ?_|refine tS ?_ ?_<;>intro hc|fail)
     all_goals exact bE (i+1) [] [] ⟨hlt,jQ hlt hall hok⟩
    ·have hb:bt (l.getD i 0) 32 126=true:=by unfold bt;simp only[Bool.and_eq_true,decide_eq_true_eq];omega
     (repeat' first|refine wP @hb trivial ?_|refine cU (zQ _ 32 126) ?_|refine tS ?_ ?_<;>intro hc|fail)
     all_goals exact bE (i+1) [] [] ⟨hlt,jQ hlt hall hok⟩
  ·have hil:i=l.length:=by omega
   subst hil
   rw[List.take_length] at hall
   rw[hall,if_neg (by simp)]
   refine wS trivial trivial ?_
   refine aK (fun x:Nat × List (List Nat) × Nat=>mkA [(0,.c (.string (sB l))),(5,.sl (.own 0 9) 1 (sv x.2.1)),(6,.c (.int .i64 (x.2.2:Nat))),(7,.c (.int .i64 (x.1:Nat)))] [] 1 (fun _ => .top)) (fun x=>VN l x.1 x.2.1 x.2.2) (fun x=>l.length-x.1) (0,[],0) [] [] ?_ ⟨Nat.le_refl _,Nat.zero_le _,rfl,by simp⟩ ?_
   ·exact kE
    all_goals exact gK rfl
   ·rintro⟨i,ps,f⟩ hp
    replace hp:VN l i ps f:=hp
    have hpl:=acb hp
    have hp':=hp
    obtain⟨hp1,hp2,_,_⟩:=hp'
    rcases Nat.lt_or_ge i l.length with hlt|hge
    ·have hcb:=gW ho i
     by_cases h10:l.getD i 0=10
     ·refine wS @BQ trivial ?_
      refine bC (i+1,ps++[(l.take i).drop f],i+1) [0] [] ?_ ?_ ?_
      ·exact abT hp hlt h10
      ·show l.length-(i+1)<l.length-i
       omega
      ·exact kE
     ·refine wS @BQ trivial ?_
      refine bC (i+1,ps,f) [0] [] ?_ ?_ ?_
      ·exact abj hp hlt h10
      ·show l.length-(i+1)<l.length-i
       omega
      ·exact kE
    ·have hil:i=l.length:=by omega
     subst hil
     rw[aca hp]
     by_cases hf:f<l.length
     ·rw[if_pos hf]
      exact wR @BQ trivial (ids [0])
     ·rw[if_neg hf]
      exact wR trivial trivial (ids [0])
theorem alL:(⟨#[35]⟩:ByteArray)=sB [35]:=by rfl
theorem alM:(⟨#[32]⟩:ByteArray)=sB [32]:=by rfl
theorem afl{l:List Nat}{c:Nat}(ho:oct l):oct (bef c l):=fun b hb=>ho b (Q8 c l b hb).1
theorem alO{w:List Nat}(hn:w≠[]):[w].filter yj=[w]:=by
 have:yj w=true:=by rw[aeK];exact decide_eq_true hn
 rw[List.filter_cons,if_pos this];rfl
theorem aj8:[([]:List Nat)].filter yj=[]:=rfl
theorem Vp{l:List (List Nat)}{i:Nat}(h:i<l.length)(hn:l.getD i []≠[]):(l.take (i+1)).filter yj=(l.take i).filter yj++[l.getD i []]:=by
 have g:l.getD i []=l[i]:=by simp [List.getD,h]
 rw[List.take_succ_eq_append_getElem h,List.filter_append,←g,alO hn]
theorem Vq{l:List (List Nat)}{i:Nat}(h:i<l.length)(hn:l.getD i []=[]):(l.take (i+1)).filter yj=(l.take i).filter yj:=by
 have g:l.getD i []=l[i]:=by simp [List.getD,h]
 rw[List.take_succ_eq_append_getElem h,List.filter_append,←g,hn]
 simp [yj]
theorem aaD(l:List (List Nat))(i:Nat):((l.take i).filter yj).length≤l.length:=by
 have:=List.length_filter_le yj (l.take i)
 simp at this
 have h2:=List.length_filter_le yj (l.take i)
 rw[List.length_take] at h2
 omega
theorem ajl(l:List Nat)(ho:oct l)(hl:l.length≤4294967280):Gxx 66 [.c (.string (sB l))] (.sl (.own 0 9) 1 (sv (fld l))):=by
 refine gI oW Tryz.func66 Tryz.results66 ?_
 have a1:=ajj l 35 ho (by omega) hl
 have hbl:=aeL 35 l
 have a2:=aaB (bef 35 l) 32 (afl ho) (by omega) (by omega)
 have hsl:=Ih 32 (bef 35 l)
 have hpo:∀p∈spl 32 (bef 35 l),oct p:=fun p hp b hb=>ho b (Q8 35 l b (aeH 32 _ p hp b hb).1).1
 unfold fld
 generalize hxs:spl 32 (bef 35 l)=xs at a2 hsl hpo
 refine wS (aI @alL @alM) (aI a1 a2) ?_
 refine aK (fun i=>mkA [(3,.sl (.own 1 9) 1 (sv ((xs.take i).filter yj))),(13,.sl (.own 0 9) 1 (sv xs)),(14,.c (.int .i64 xs.length)),(15,.c (.int .i64 (i:Nat)))] [] 2 (fun _ => .top)) (fun i=>i≤xs.length) (fun i=>xs.length-i) 0 [0] [] ?_ (Nat.zero_le _) ?_
 ·exact kE
  all_goals exact gK rfl
 ·intro i hi
  have hfl:=aaD xs i
  rcases Nat.lt_or_ge i xs.length with hlt|hge
  ·have hpi:oct (xs.getD i []):=by
    have g:xs.getD i []=xs[i]:=by simp [List.getD,hlt]
    rw[g];exact hpo _ (List.getElem_mem hlt)
   by_cases hn:xs.getD i []=[]
   ·refine wS (aI @wo (aI @iK (aI (aaC _ hpi) @hn))) trivial ?_
    (refine bL (i+1) [0,1] [] hlt ?_;refine kL ?_)
    all_goals exact aW rfl (by rw[Vq hlt hn])
   ·refine wS (aI @wo (aI @iK (aI (aaC _ hpi) (aI @hn @BQ)))) trivial ?_
    (refine bL (i+1) [0,1] [] hlt ?_;refine kL ?_)
    all_goals exact aW rfl (by rw[Vp hlt hn])
  ·have hil:i=xs.length:=by omega
   subst hil
   rw[List.take_length]
   exact wR trivial trivial (ids [1])
def VO(l:List Nat)(i:Nat)(ps:List (List Nat))(w:List Nat):Prop:=i≤(bef 35 l).length∧spl 32 (l.take i)=ps++[w]
theorem acI{l:List Nat}{i:Nat}{ps:List (List Nat)}{w:List Nat}(h:VO l i ps w)(hi:i<(bef 35 l).length)(hc:l.getD i 0≠32):VO l (i+1) ps (w++[l.getD i 0]):=by
 have:=aeL 35 l
 refine⟨hi, ?_⟩
 rw[List.take_succ_eq_append_getElem (show i<l.length by omega)]
 have g:l.getD i 0=l[i]'(by omega):=by simp [List.getD,show i<l.length by omega]
 rw[←g]
 exact Wl 32 _ hc _ _ _ h.2
theorem VP{l:List Nat}{i:Nat}{ps:List (List Nat)}{w:List Nat}(h:VO l i ps w)(hi:i<(bef 35 l).length)(hc:l.getD i 0=32):VO l (i+1) (ps++[w]) []:=by
 have:=aeL 35 l
 refine⟨hi, ?_⟩
 rw[List.take_succ_eq_append_getElem (show i<l.length by omega)]
 have g:l.getD i 0=l[i]'(by omega):=by simp [List.getD,show i<l.length by omega]
 rw[←g,hc,aos,h.2]
theorem acd{l:List Nat}{i:Nat}{ps:List (List Nat)}{w:List Nat}(h:VO l i ps w):ps.length≤l.length∧w.length≤l.length∧(ps.filter yj).length≤l.length:=by
 have h1:=Ih 32 (l.take i)
 have h2:=Qj 32 (l.take i) w (by rw[h.2];simp)
 rw[h.2] at h1
 simp only[List.length_append,List.length_singleton,List.length_take] at h1 h2
 have h3:=List.length_filter_le yj ps
 omega
theorem ace{l:List Nat}{i:Nat}{ps:List (List Nat)}{w:List Nat}(ho:oct l)(h:VO l i ps w):oct w:=fun b hb =>
 ho b (List.mem_of_mem_take (aeH 32 (l.take i) w (by rw[h.2];simp) b hb).1)
theorem akx{l:List Nat}{i:Nat}(h:i<(bef 35 l).length):l.getD i 0≠35:=by
 have h1:=(Qk 35 l).1
 have h2:(bef 35 l).getD i 0=l.getD i 0:=by
  have:=aeL 35 l
  rw[h1]
  simp [List.getD,List.getElem?_take,h]
 have h3:=Q8 35 l ((bef 35 l).getD i 0) (by simp only[List.getD,List.getElem?_eq_getElem h,Option.getD_some];exact List.getElem_mem h)
 rw[h2] at h3
 exact h3.2
theorem acR{l:List Nat}{i:Nat}(h:i<l.length):(l.take (i+1)).drop i=[l.getD i 0]:=by
 rw[List.take_succ_eq_append_getElem h,List.drop_append]
 simp [List.getD,h,Nat.min_eq_left (Nat.le_of_lt h)]
theorem acf(l:List Nat)(ho:oct l)(hl:l.length≤4294967280):Gxx 107 [.c (.string (sB l))] (.sl (.own 0 9) 1 (sv (fld l))):=by
 refine gI oW Tryz.func107 Tryz.results107 ?_
 have hbl:=aeL 35 l
 refine wS @wo trivial ?_
 refine aK (fun x:Nat × List (List Nat) × List Nat=>mkA [(0,.c (.string (sB l))),(3,.sl (.own 0 9) 1 (sv (x.2.1.filter yj))),(4,.c (.string (sB x.2.2))),(5,.c (.int .i64 (x.1:Nat)))] [] 1 (fun _ => .top)) (fun x=>VO l x.1 x.2.1 x.2.2) (fun x=>l.length-x.1) (0,[],[]) [] [] ?_ ⟨Nat.zero_le _,rfl⟩ ?_
 ·exact kE
  all_goals exact gK rfl
 ·rintro⟨i,ps,w⟩ hr
  replace hr:VO l i ps w:=hr
  obtain⟨hl1,hl2,hl3⟩:=acd hr
  have hw:=ace ho hr
  have hi:=hr.1
  rcases Nat.lt_or_ge i (bef 35 l).length with hlt|hge
  ·have hcb:=gW ho i
   have h35:=akx hlt
   have e1:=acR (show i<l.length by omega)
   have en1:((i:Int)+1).toNat=i+1:=by omega
   by_cases h32:l.getD i 0=32
   ·by_cases hn:w=[]
    ·refine wS (aI @wo (aI (aaC _ hw) @hn)) trivial ?_
     refine bC (i+1,ps++[w],[]) [0] [] ?_ ?_ ?_
     ·exact VP hr hlt h32
     ·show l.length-(i+1)<l.length-i
      omega
     refine kL ?_
     all_goals exact aW rfl (by rw[hn,List.filter_append,aj8,List.append_nil])
    ·refine wS (aI @wo (aI (aaC _ hw) (aI @hn @BQ))) trivial ?_
     refine bC (i+1,ps++[w],[]) [0] [] ?_ ?_ ?_
     ·exact VP hr hlt h32
     ·show l.length-(i+1)<l.length-i
      omega
     refine kL ?_
     all_goals exact aW rfl (by rw[List.filter_append,alO hn])
   ·refine wS (aI @wo (aI @e1 (aI @en1 @adW))) trivial ?_
    refine bC (i+1,ps,w++[l.getD i 0]) [0] [] ?_ ?_ ?_
    ·exact acI hr hlt h32
    ·show l.length-(i+1)<l.length-i
     omega
    exact kE
  ·have hil:i=(bef 35 l).length:=by omega
   have hfin:fld l=(ps++[w]).filter yj:=by
    unfold fld
    have:=hr.2
    rw[←this,hil,←(Qk 35 l).1]
   have hout:¬(i<l.length)∨l.getD i 0=35:=by
    rcases Nat.lt_or_ge i l.length with h|h
    ·exact .inr (by rw[hil];exact (Qk 35 l).2 (by omega))
    ·exact .inl (by omega)
   rw[hfin,List.filter_append]
   have hcb:=gW ho i
   rcases hout with hout|hout
   all_goals
    by_cases hn:w=[]
    ·subst hn
     rw[aj8,List.append_nil]
     exact wR @wo trivial (ids [0])
    ·rw[alO hn]
     exact wR (aI @wo (aI (aaC _ hw) (aI @hn @BQ))) trivial (ids [0])
theorem aaE:∀d,d<16→nib (hx d)=d:=by decide
theorem alP(l:List Nat)(ho:oct l)(t:Nat)(ht:t<l.length):(jh l).getD (2*t) 0=hx (l.getD t 0 / 16)∧(jh l).getD (2*t+1) 0=hx (l.getD t 0%16):=by
 induction l generalizing t with
 | nil=>simp at ht
 | cons a l ih =>
  have e:jh (a::l)=hx (a / 16)::hx (a%16)::jh l:=by simp [jh]
  rw[e]
  cases t with
  | zero=>exact⟨rfl,rfl⟩
  | succ t =>
   have:=ih (fun x hx=>ho x (by simp [hx])) t (by simpa using ht)
   simpa [List.getD,Nat.mul_add] using this
theorem rt(l:List Nat)(ho:oct l):okB (jh l) l.length=true∧prs (jh l) l.length=l:=by
 have h1:∀t,t<l.length→okP (jh l) t=true∧prB (jh l) t=l.getD t 0:=by
  intro t ht
  have h2:=alP l ho t ht
  have h3:=gW ho t
  unfold okP prB
  rw[h2.1,h2.2,aaE _ (by omega),aaE _ (by omega)]
  refine⟨by simp;omega,by omega⟩
 constructor
 ·rw[okB,List.all_eq_true]
  intro t ht
  exact (h1 t (List.mem_range.1 ht)).1
 ·apply List.ext_getElem?
  intro i
  rcases Nat.lt_or_ge i l.length with hi|hi
  ·have:=(h1 i hi).2
   simp only[prs,List.getElem?_map,List.getElem?_range hi,Option.map_some,this,List.getD,List.getElem?_eq_getElem hi,Option.getD_some]
  ·rw[List.getElem?_eq_none (by rw[yG];omega),List.getElem?_eq_none hi]
theorem ajm(l:List Nat):(fk l).1.length≤65:=by
 unfold fk
 cases h1:fH l
 ·simp
 ·have:=BP h1
  have:=lq l
  cases h2:kJ l<;>simp<;>omega
def dd(u:Nat):List Nat:=(Lib.decDigits u).map UInt8.toNat
theorem RD(u:Nat)(h:u<10):dd u=[48+u]:=by
 unfold dd Lib.decDigits
 rw[dif_pos h]
 simp
 omega
theorem ahb(u:Nat)(h:10≤u):dd u=dd (u / 10)++[48+u%10]:=by
 unfold dd
 rw[Lib.decDigits,dif_neg (by omega)]
 simp
 omega
theorem aaF(l:List Nat)(b:Nat):dig (l++[b])=10*dig l+(b-48):=by simp [dig]
theorem Gi:∀(n u:Nat),u<n→(dd u).all (fun c=>bt c 48 57)=true∧dig (dd u)=u∧1≤(dd u).length∧(1≤u→(dd u).getD 0 0≠48)∧(∀k,1≤k→((dd u).length≤k↔u<10^k)):=by
 intro n
 induction n with
 | zero=>intro u h;omega
 | succ n ih =>
  intro u hu
  rcases Nat.lt_or_ge u 10 with h|h
  ·rw[RD u h]
   refine⟨by simp [bt];omega,by simp [dig],by simp,by intro h1;simp;omega,fun k hk => ?_⟩
   have:10^1≤10^k:=Nat.pow_le_pow_right (by omega) hk
   simp
   omega
  ·rw[ahb u h]
   obtain⟨h1,h2,h3,h4,h5⟩:=ih (u / 10) (by omega)
   refine⟨?_, ?_,by simp, ?_,fun k hk => ?_⟩
   ·rw[List.all_append,h1]
    simp [bt]
    omega
   ·rw[aaF,h2];omega
   ·intro _
    have h6:=h4 (by omega)
    have h7:0<(dd (u / 10)).length:=by omega
    simp only[List.getD,List.getElem?_append_left h7] at h6 ⊢
    exact h6
   ·rw[List.length_append,List.length_singleton]
    cases k with
    | zero=>omega
    | succ k =>
     cases k with
     | zero =>
      constructor
      ·intro h';omega
      ·intro h'
       have:(10:Nat)^(0+1)=10:=by decide
       omega
     | succ k =>
      have:=h5 (k+1) (by omega)
      rw[Nat.pow_succ]
      omega
theorem uQ(n:Int):ak n=if n<0 then 45::dd n.natAbs else dd n.toNat:=by
 unfold ak Lib.itoa dd
 split<;>simp
theorem vX(n:Int)(h0 : -9223372036854775808≤n)(h1:n≤9223372036854775807):(ak n).length≤20:=by
 rw[uQ]
 split
 ·have:=((Gi (n.natAbs+1) n.natAbs (by omega)).2.2.2.2 19 (by omega)).2 (by
   have:(10:Nat)^19=10000000000000000000:=by decide
   omega)
  simp only[List.length_cons]
  omega
 ·have:=((Gi (n.toNat+1) n.toNat (by omega)).2.2.2.2 19 (by omega)).2 (by
   have:(10:Nat)^19=10000000000000000000:=by decide
   omega)
  omega
theorem jH(n:Int)(j:Nat)(hj:j≤62):bits .and .i64 n (2^j-1)=n%2^j:=by
 have hb:IntKind.i64.bits=64:=rfl
 have e1:(BitVec.ofInt 64 (2^j-1)).toNat=2^j-1:=by
  have hle:(2:Nat)^j≤2^62:=Nat.pow_le_pow_right (by omega) hj
  have h1:((2:Int)^j-1)=((2^j-1:Nat):Int):=by
   have:0<(2:Nat)^j:=Nat.two_pow_pos j
   rw[Int.natCast_sub (by omega)]
   simp
  rw[h1,BitVec.toNat_ofInt]
  rw[show ((2^64:Nat):Int)=18446744073709551616 from rfl]
  omega
 have e2:(((BitVec.ofInt 64 n).toNat%2^j:Nat):Int)=n%2^j:=by
  rw[BitVec.toNat_ofInt,Int.natCast_emod,Int.toNat_of_nonneg (Int.emod_nonneg _ (by decide))]
  have:((2^64:Nat):Int)=2^j*2^(64-j):=by
   rw[←Int.pow_add,show j+(64-j)=64 by omega]
   rfl
  rw[show (((2^j:Nat)):Int)=2^j by simp,this]
  exact Int.emod_emod_of_dvd n ⟨_,rfl⟩
 show IntKind.i64.wrap (((BitVec.ofInt 64 n &&& BitVec.ofInt 64 (2^j-1)).toNat:Nat):Int)=_
 rw[BitVec.toNat_and,e1,Nat.and_two_pow_sub_one_eq_mod,e2]
 have h0:0≤n%2^j:=Int.emod_nonneg _ (by have:(0:Int)<2^j:=Int.pow_pos (by decide);omega)
 have h1:n%2^j<2^j:=Int.emod_lt_of_pos _ (Int.pow_pos (by decide))
 have h2:(2:Int)^j≤2^62:=by
  have:=Nat.pow_le_pow_right (n:=2) (by omega) hj
  exact_mod_cast this
 have h3:(2:Int)^62=4611686018427387904:=rfl
 exact Y2 _ (by omega) (by omega)
theorem ajn(n:Int):bits .and .i64 n 255=n%256:=jH n 8 (by decide)
theorem anN(n:Int):bits .and .i64 n 15=n%16:=jH n 4 (by decide)
def afm(l:List Nat):Nat→List V
 | 0=>[.c (.pointer none),nls]
 | i+1=>[.ref 0 0,.sl (.own 0 5) 1 (bv (jh (l.take (i+1))))]
theorem anO(l:List Nat):afm l 0=[.c (.pointer none),nls]:=rfl
theorem alR(l:List Nat)(i:Nat):afm l (i+1)=[.ref 0 0,.sl (.own 0 5) 1 (bv (jh (l.take (i+1))))]:=rfl
def fb(l:List Nat):List Nat:=if l.length=0 then [45] else jh l
theorem k45:(⟨#[45]⟩:ByteArray)=sB [45]:=rfl
theorem nM(l:List Nat)(ho:oct l)(hl:l.length≤1000000):Gxx 44 [fzb l] (vs (fb l)):=by
 refine gI oW Tryz.func44 Tryz.results44 ?_
 unfold fb
 by_cases h0:l.length=0
 ·rw[if_pos h0]
  exact wR (aI @ax (aI @h0 @k45)) trivial ah
 ·rw[if_neg h0]
  have hb:=ax l
  refine wS (aI @ax @h0) trivial ?_
  refine aK (fun i=>mkA [(3,.ref 0 0),(9,fzb l),(10,vi l.length),(11,vi (i:Nat))] [(0,(115,afm l i))] 1 (fun _ => .top)) (fun i=>i≤l.length) (fun i=>l.length-i) 0 [] [0] ?_ (Nat.zero_le _) ?_
  ·exact kE
   all_goals first|exact⟨of_eq_true (eY _ _ _),of_eq_true (eY _ _ _),trivial⟩|skip
  ·intro i hi
   replace hi:i≤l.length:=hi
   rcases Nat.lt_or_ge i l.length with hlt|hge
   ·have hg:=HY l i hlt
    have hc:=gW ho i
    have hn:=zU hlt
    have hx1:=lq (l.take i)
    have hx2:(l.take i).length≤i:=by simp;omega
    generalize l.getD i 0=c at hg hc hn
    cases i with
    | zero =>
     (repeat' first|refine wP (aI @hg (aI @anO (aI @ax (aI @DK (aI @aal (aI @Ro @aam)))))) trivial ?_|refine cZ (Pi _ _ _ _ 0 _ _ _ _ rfl (.inr rfl) (by simp)) ?_|refine cZ (Rz _ _ _ _ _ _ _ rfl (.inl rfl)) ?_|refine tS ?_ ?_<;>intro hc|fail)
     (refine bL (0+1) [2] [0] hlt ?_;refine kL ?_)
     all_goals exact aW rfl (by rw[hn];rfl)
    | succ i =>
     (repeat' first|refine wP (aI @hg (aI @alu (aI @alR (aI @ax (aI @DK (aI @aal (aI @Ro @aam))))))) trivial ?_|refine cZ (Pi _ _ _ _ 0 0 _ _ _ rfl (.inr rfl) (by first|omega|(simp only[List.length_append,List.length_cons,List.length_nil];omega))) ?_|refine tS ?_ ?_<;>intro hc|fail)
     (refine bL (i+1+1) [0] [0] hlt ?_;refine kL ?_)
     all_goals exact aW rfl (by rw[hn])
   ·have hil:i=l.length:=by omega
    cases i with
    | zero=>omega
    | succ i =>
     have hx1:=lq l
     have hbl:afm l (i+1)=[.ref 0 0,.sl (.own 0 5) 1 (bv (jh l))]:=by rw[alR,hil,List.take_length]
     (repeat' first|refine wP (aI @hbl @ax) trivial ?_|refine cZ (aak _ _ _ _ 0 0 _ _ rfl (by omega) (yD _)) ?_|refine tS ?_ ?_<;>intro hc|fail)
     exact rE []
end Go.Proofs.YtjiolbcdfgclaaaGreatDoor
