/-
  Merged texts.
-/
import Derived.Test.YtiohdbjggmmjcaaGreatWBH
import Derived.Test.YtiohdbjggmmjcaaGreatWAY
import Derived.Test.YtiohdbjggmmjcaaGreatWBF
import Derived.Test.YtiohdbjggmmjcaaGreatWBG
set_option linter.unusedVariables false
set_option linter.unusedSimpArgs false
set_option linter.unusedSectionVars false
set_option linter.defProp false
set_option maxRecDepth 100000
set_option maxHeartbeats 8000000
namespace Go.Proofs.YtiohdbjggmmjcaaGreat
open Go Go.Pg
abbrev kS(l:List En):Prop:=l.Pairwise fun a b=>kl a.1 b.1=true
def jn:Nat→List En→List En→List En
 | 0,a,b=>a++b
 | _+1,[],b=>b
 | _+1,x::a,[]=>x::a
 | n+1,x::a,y::b=>if kl x.1 y.1=true then x::jn n a (y::b) else if kl y.1 x.1=true then y::jn n (x::a) b else (x.1,(aO x.2.1 y.2.1).1,0)::jn n a b
def jf:Nat→List En→List En→Bool
 | 0,_,_=>false
 | _+1,[],_=>false
 | _+1,_::_,[]=>false
 | n+1,x::a,y::b=>if kl x.1 y.1=true then jf n a (y::b) else if kl y.1 x.1=true then jf n (x::a) b else (aO x.2.1 y.2.1).2||jf n a b
theorem aie(n:Nat)(a:List En):jn n a []=a:=by
 cases n with
 | zero=>simp [jn]
 | succ n=>cases a<;>rfl
theorem aif(n:Nat)(a:List En):jf n a []=false:=by
 cases n with
 | zero=>rfl
 | succ n=>cases a<;>rfl
theorem aeP(n:Nat)(b:List En):jn n [] b=b:=by
 cases n with
 | zero=>simp [jn]
 | succ n=>rfl
theorem afd(n:Nat)(b:List En):jf n [] b=false:=by
 cases n<;>rfl
def vg:List En→En→List En
 | [],y=>[y]
 | x::l,y=>if kl x.1 y.1=true then x::vg l y else if kl y.1 x.1=true then y::x::l else (x.1,(aO x.2.1 y.2.1).1,x.2.2)::l
def GR:List En→En→Bool
 | [],_=>false
 | x::l,y=>if kl x.1 y.1=true then GR l y else if kl y.1 x.1=true then false else (aO x.2.1 y.2.1).2
def fld(l:List En)(s:Bool)(b:List En):List En × Bool:=b.foldl (fun st y=>(vg st.1 y,st.2||GR st.1 y)) (l,s)
theorem Ak(l:List En)(s:Bool)(y:En)(b:List En):fld l s (y::b)=fld (vg l y) (s||GR l y) b:=rfl
theorem ai1{a b:List Nat}(h:kl a b=true):kl b a=false:=by
 rw[Cb,decide_eq_true_eq] at h
 rw[Cb,decide_eq_false_iff_not]
 exact fun k=>List.lt_irrefl _ (List.lt_trans h k)
theorem ai2{a b:List Nat}(ha:oct a)(hb:oct b)(h1:kl a b=false)(h2:kl b a=false):a=b:=Classical.byContradiction fun h=>by
 rw[adc ha hb h,h2] at h1;cases h1
theorem Nl(x:En):∀(b:List En) (a:List En) (s:Bool),(∀z∈b,kl x.1 z.1=true)→fld (x::a) s b=(x::(fld a s b).1,(fld a s b).2)
 | [],a,s,_=>rfl
 | z::b,a,s,h=>by
  have hz:=h z (List.mem_cons_self ..)
  rw[Ak,Ak]
  have e1:vg (x::a) z=x::vg a z:=if_pos hz
  have e2:GR (x::a) z=GR a z:=if_pos hz
  rw[e1,e2]
  exact Nl x b _ _ (fun w hw=>h w (List.mem_cons_of_mem _ hw))
theorem afr(s:Bool):∀b:List En,kS b→fld [] s b=(b,s)
 | [],_=>rfl
 | y::b,h=>by
  have h:=List.pairwise_cons.1 h
  rw[Ak]
  show fld [y] (s||false) b=_
  rw[Bool.or_false,Nl y b [] s h.1,afr s b h.2]
theorem XX:∀(n:Nat) (a b:List En) (s:Bool),a.length+b.length≤n→kS a→kS b→octE a→octE b→(∀x∈a,x.2.2=0)→fld a s b=(jn n a b,s||jf n a b)
 | 0,a,b,s,h,_,_,_,_,_=>by
  have ha:a=[]:=List.eq_nil_of_length_eq_zero (by omega)
  have hb:b=[]:=List.eq_nil_of_length_eq_zero (by omega)
  subst ha;subst hb
  show ([],s)=_
  simp [jn,jf]
 | n+1,[],b,s,h,_,hb,_,_,_=>by
  rw[afr s b hb,aeP,afd,Bool.or_false]
 | n+1,x::a,[],s,h,_,_,_,_,_=>by
  rw[aie,aif,Bool.or_false];rfl
 | n+1,x::a,y::b,s,h,ha,hb,hoa,hob,he=>by
  have ha':=List.pairwise_cons.1 ha
  have hb':=List.pairwise_cons.1 hb
  have hx:=hoa x (List.mem_cons_self ..)
  have hy:=hob y (List.mem_cons_self ..)
  simp only[List.length_cons] at h
  by_cases q1:kl x.1 y.1=true
  ·have e1:jn (n+1) (x::a) (y::b)=x::jn n a (y::b):=if_pos q1
   have e2:jf (n+1) (x::a) (y::b)=jf n a (y::b):=if_pos q1
   rw[e1,e2,Nl x (y::b) a s (fun z hz=>by
    rcases List.mem_cons.1 hz with rfl|hz
    ·exact q1
    ·exact agY q1 (hb'.1 z hz)),XX n a (y::b) s (by simp only[List.length_cons];omega) ha'.2 hb (fun z hz=>hoa z (List.mem_cons_of_mem _ hz)) hob (fun z hz=>he z (List.mem_cons_of_mem _ hz))]
  ·by_cases q2:kl y.1 x.1=true
   ·have e1:jn (n+1) (x::a) (y::b)=y::jn n (x::a) b:=by
     show (if kl x.1 y.1=true then _ else if kl y.1 x.1=true then _ else _)=_
     rw[if_neg q1,if_pos q2]
    have e2:jf (n+1) (x::a) (y::b)=jf n (x::a) b:=by
     show (if kl x.1 y.1=true then _ else if kl y.1 x.1=true then _ else _)=_
     rw[if_neg q1,if_pos q2]
    have e3:vg (x::a) y=y::x::a:=by
     show (if kl x.1 y.1=true then _ else if kl y.1 x.1=true then _ else _)=_
     rw[if_neg q1,if_pos q2]
    have e4:GR (x::a) y=false:=by
     show (if kl x.1 y.1=true then _ else if kl y.1 x.1=true then _ else _)=_
     rw[if_neg q1,if_pos q2]
    rw[e1,e2,Ak,e3,e4,Bool.or_false,Nl y b (x::a) s hb'.1,XX n (x::a) b s (by simp only[List.length_cons];omega) ha hb'.2 hoa (fun z hz=>hob z (List.mem_cons_of_mem _ hz)) he]
   ·have hk:=ai2 hx hy (by simpa using q1) (by simpa using q2)
    have h0:=he x (List.mem_cons_self ..)
    have e1:jn (n+1) (x::a) (y::b)=(x.1,(aO x.2.1 y.2.1).1,0)::jn n a b:=by
     show (if kl x.1 y.1=true then _ else if kl y.1 x.1=true then _ else _)=_
     rw[if_neg q1,if_neg q2]
    have e2:jf (n+1) (x::a) (y::b)=((aO x.2.1 y.2.1).2||jf n a b):=by
     show (if kl x.1 y.1=true then _ else if kl y.1 x.1=true then _ else _)=_
     rw[if_neg q1,if_neg q2]
    have e3:vg (x::a) y=(x.1,(aO x.2.1 y.2.1).1,0)::a:=by
     show (if kl x.1 y.1=true then _ else if kl y.1 x.1=true then _ else _)=_
     rw[if_neg q1,if_neg q2,h0]
    have e4:GR (x::a) y=(aO x.2.1 y.2.1).2:=by
     show (if kl x.1 y.1=true then _ else if kl y.1 x.1=true then _ else _)=_
     rw[if_neg q1,if_neg q2]
    rw[e1,e2,Ak,e3,e4,Nl (x.1,(aO x.2.1 y.2.1).1,0) b a _ (fun z hz=>by show kl x.1 z.1=true;rw[hk];exact hb'.1 z hz),
     XX n a b _ (by omega) ha'.2 hb'.2 (fun z hz=>hoa z (List.mem_cons_of_mem _ hz)) (fun z hz=>hob z (List.mem_cons_of_mem _ hz)) (fun z hz=>he z (List.mem_cons_of_mem _ hz)),Bool.or_assoc]
theorem afs{l:List En}{y:En}:∀z∈vg l y,z.1=y.1∨∃u∈l,u.1=z.1:=by
 induction l with
 | nil=>intro z hz;left;rw[List.mem_singleton.1 hz]
 | cons x l ih =>
  intro z hz
  unfold vg at hz
  split at hz
  ·rcases List.mem_cons.1 hz with rfl|hz
   ·exact .inr ⟨_,List.mem_cons_self ..,rfl⟩
   ·rcases ih z hz with h|⟨u,hu,he⟩
    ·exact .inl h
    ·exact .inr ⟨u,List.mem_cons_of_mem _ hu,he⟩
  ·split at hz
   ·rcases List.mem_cons.1 hz with rfl|hz
    ·exact .inl rfl
    ·exact .inr ⟨z,hz,rfl⟩
   ·rcases List.mem_cons.1 hz with rfl|hz
    ·exact .inr ⟨x,List.mem_cons_self ..,rfl⟩
    ·exact .inr ⟨z,List.mem_cons_of_mem _ hz,rfl⟩
theorem agP{l:List En}{y:En}(hs:kS l)(ho:octE l)(hy:oct y.1):kS (vg l y):=by
 induction l with
 | nil=>exact List.pairwise_singleton _ _
 | cons x l ih =>
  have hs':=List.pairwise_cons.1 hs
  have hx:=ho x (List.mem_cons_self ..)
  unfold vg
  split
  ·rename_i q
   refine List.pairwise_cons.2 ⟨fun z hz => ?_,ih hs'.2 (fun z hz=>ho z (List.mem_cons_of_mem _ hz))⟩
   rcases afs z hz with h|⟨u,hu,he⟩
   ·show kl x.1 z.1=true;rw[h];exact q
   ·show kl x.1 z.1=true;rw[←he];exact hs'.1 u hu
  ·split
   ·rename_i q
    refine List.pairwise_cons.2 ⟨fun z hz => ?_,hs⟩
    rcases List.mem_cons.1 hz with rfl|hz
    ·exact q
    ·exact agY q (hs'.1 z hz)
   ·exact List.pairwise_cons.2 ⟨fun z hz=>hs'.1 z hz,hs'.2⟩
theorem aig{l:List En}{y:En}(ho:octE l)(hy:oct y.1):octE (vg l y):=fun z hz=>by
 rcases afs z hz with h|⟨u,hu,he⟩
 ·rw[h];exact hy
 ·rw[←he];exact ho u hu
theorem aiU(L:List En)(z:Nat)(hz:z<L.length):((L.map fun y=>y.2.1).mergeSort fun x y=>decide (x≤y)).getD (L.length-1-z) 0=((srt bfE L).getD z eD).2.1:=by
 have hsl:=wI bfE L
 have hps:(srt bfE L).Pairwise fun p q=>q.2.1≤p.2.1:=Pi bfE (fun a b=>b.2.1≤a.2.1) (fun x y h=>by
  rcases (Pn x y).1 h with h|⟨h,_⟩<;>omega) (fun x y h=>by
  have:=(NG x y).1 h
  exact Classical.byContradiction fun k=>this (.inl (by omega))) (fun x y z h1 h2=>by omega) L
 have e:((L.map fun y=>y.2.1).mergeSort fun x y=>decide (x≤y))=((srt bfE L).map fun y=>y.2.1).reverse:=by
  refine List.Perm.eq_of_pairwise (le:=fun a b:Int=>decide (a≤b)=true) (fun a b _ _ h1 h2 => ?_) (List.pairwise_mergeSort (fun a b c h1 h2 => ?_) (fun a b => ?_) _) ?_ ((List.mergeSort_perm _ _).trans ((((sS bfE L).map _).symm).trans (List.reverse_perm _).symm))
  ·simp only[decide_eq_true_eq] at h1 h2;omega
  ·simp only[decide_eq_true_eq] at h1 h2 ⊢;omega
  ·simp only[Bool.or_eq_true,decide_eq_true_eq];omega
  ·rw[List.pairwise_reverse,List.pairwise_map]
   exact hps.imp fun h=>by simpa using h
 rw[e,List.getD_eq_getElem?_getD,List.getElem?_reverse (by simp;omega),List.length_map,hsl]
 rw[show L.length-1-(L.length-1-z)=z by omega,List.getElem?_map,List.getElem?_eq_getElem (by omega),List.getD_eq_getElem?_getD,List.getElem?_eq_getElem (by omega)]
 rfl
end Go.Proofs.YtiohdbjggmmjcaaGreat
section
namespace Go.Proofs.YtiohdbjggmmjcaaGreat
open Go Go.Pg
section
variable (e:Nat→V) (bx:Bxx) (n:Nat) (h:Nat→V)
theorem aiV(b:Nat)(k:List Nat)(y:En)(hk:oct k)(hy:oct y.1)(hb:bx b=some (9,[vs k]))(hbn:b<n) :
  Gxz 157 [eV y,.ref b 0] ⟨e,bx,n,h⟩ ⟨e,bx,n+1,h⟩ (vb (decide (y.1=k))):=by
 have hd:=uO hy hk
 have hne:¬b=n:=by omega
 refine GoodZ.leN (bx':=upd bx n (some (119,[vs y.1,vi y.2.1,vi y.2.2]))) (n':=n+1) ?_ (Nat.le_refl _) ?_
 ·refine gZ oW Tryz.func157 Tryz.results157 ?_
  (repeat' (first|(simp (disch:=first|exact dqz|fail) only[pgz,simprocAttr,oq,jK,gU,hb,hd,hne])|(refine tS ?_ ?_<;>intro hc)|(with_reducible refine cK ?_)))
  refine Fz (aW _ _ _) ?_
  rw[jk,jl]
 ·intro c
  by_cases hc:c=n
  ·refine .inr (.inr ⟨by omega,fun h0=>h0⟩)
  ·exact .inl (by rw[TY _ _ _ _ hc])
theorem aij(b:Nat)(k:List Nat)(l:List En)(tg:Tag)(ho:octE l)(hk:oct k)(hn:l.length≤1000000)(hb:bx b=some (9,[vs k]))(hbn:b<n) :
  Gxz 78 [.sl tg 3 (ev l),.fn 157 [] [.ref b 0]] ⟨e,bx,n,h⟩ ⟨e,bx,n+l.length,h⟩ (vi (bi l k)):=by
 have hel:=aG l
 refine gZ oW Tryz.func78 Tryz.results78 ?_
 (repeat' (first|(simp (disch:=first|exact dqz|fail) only[pgz,simprocAttr,oq,jK,gU,hel])|(refine tS ?_ ?_<;>intro hc)|(with_reducible refine cK ?_)))
 refine Yb (fun i:Nat=>[(0,.sl tg 3 (ev l)),(1,.fn 157 [] [.ref b 0]),(7,vi l.length),(8,vi i)]) (fun _=>bx) (fun i=>n+i) (fun _=>gm e h) (fun i=>i≤l.length∧bi l k=jd k i (l.drop i)) (fun i=>l.length-i) 0 ?_ (fun _ => .inl rfl) (Nat.le_refl _) rfl ⟨Nat.zero_le _,rfl⟩ ?_
 ·exact eE
 ·rintro i ⟨hi,he⟩
  rcases Nat.lt_or_ge i l.length with hlt|hge
  ·have hg:=eY l i hlt
   have hox:=fV ho i
   rw[BC l i hlt] at he
   generalize l.getD i ([],0,0)=x at *
   have hz:=fun e h=>aiV e bx (n+i) h b k x hk hox hb (by omega)
   by_cases hx:x.1=k
   ·have hr:bi l k=(i:Int):=by rw[he];exact if_pos hx
    rw[decide_eq_true hx] at hz
    rw[hr]
    (repeat' (first|(simp (disch:=first|exact dqz|fail) only[pgz,simprocAttr,hel,hg,jK,gU])|((with_reducible show bU _ _ _ _ _ _);refine cY (hz _ _) ?_)|(refine tS ?_ ?_<;>intro hc)|(with_reducible refine cK ?_)))
    (refine Xo (by first|exact aW _ _ _|exact bD _ _ _ _|(simp (disch:=first|assumption|omega|(simp only[Fits,maxLen,pgq] at *;omega)) only[pgr,pgo,tyf,simprocAttr];done)|(simp (disch:=first|assumption|omega|(simp only[Fits,maxLen,pgq] at *;omega)) only[pgr,pgo,tyf,simprocAttr];rfl)) (jk _ _) (jl _ _) (by first|rfl|skip) (by first|omega|skip))
   ·have hr:bi l k=jd k (i+1) (l.drop (i+1)):=by rw[he];exact if_neg hx
    rw[decide_eq_false hx] at hz
    (repeat' (first|(simp (disch:=first|exact dqz|fail) only[pgz,simprocAttr,hel,hg,jK,gU])|((with_reducible show bU _ _ _ _ _ _);refine cY (hz _ _) ?_)|(refine tS ?_ ?_<;>intro hc)|(with_reducible refine cK ?_)))
    refine Yc (i+1) ⟨hlt,hr⟩ (by omega) ?_ (fun _ => .inl rfl) (by omega) rfl
    ((try simp only[bu,jm,cO,cu,pgo,simprocAttr,and_true,true_and]);try (repeat' (first|exact trivial|rfl|apply aI)))
  ·have:i=l.length:=by omega
   subst this
   rw[List.drop_length] at he
   have hr:bi l k = -1:=he
   rw[hr]
   (repeat' (first|(simp (disch:=first|exact dqz|fail) only[pgz,simprocAttr,hel,jK,gU])|(refine tS ?_ ?_<;>intro hc)|(with_reducible refine cK ?_)))
   (refine Xo (by first|exact aW _ _ _|exact bD _ _ _ _|(simp (disch:=first|assumption|omega|(simp only[Fits,maxLen,pgq] at *;omega)) only[pgr,pgo,tyf,simprocAttr];done)|(simp (disch:=first|assumption|omega|(simp only[Fits,maxLen,pgq] at *;omega)) only[pgr,pgo,tyf,simprocAttr];rfl)) (jk _ _) (jl _ _) (by first|rfl|skip) (by first|omega|skip))
end
def lZ(x:Tp)(k:List Nat):En × Bool:=if bi x.e k<0 then ((k,fK x,fK x),false) else (x.e.getD (bi x.e k).toNat ([],0,0),true)
theorem acR(x:Tp)(k:List Nat)(ho:oct k)(hx:octE x.e)(hn:x.e.length≤1000000):Gxx 123 [.agg (tpF x),vs k] (.tup [eV (lZ x k).1,vb (lZ x k).2]):=by
 have hkL:=Gl x hn
 have hfr:=lQ x.e k
 have hel:=aG x.e
 have hif:=fun (e:Nat→V) (bx:Bxx) (n:Nat) (h:Nat→V) (tg:Tag) (hb:bx 1=some (9,[vs k])) (hbn:1<n)=>aij e bx n h 1 k x.e tg hx ho hn hb hbn
 unfold lZ
 by_cases q:bi x.e k<0
 ·rw[if_pos q]
  have hq:(bi x.e k<0)=True:=eq_true q
  generalize bi x.e k=fi at *
  generalize fK x=ls at *
  obtain⟨z,t,l,b⟩:=x
  simp only at *
  refine gI (eu [] mix) Tryz.func123 Tryz.results123 ?_
  (repeat' (first|(simp (disch:=first|exact dqz|fail) only[pgz,simprocAttr,pgE,pgj,iC,hel,hq])|(refine tC ?_;first|refine cU hkL ?_|refine cY (hif _ _ _ _ _ (by first|rfl|simp [upd]) (by omega)) ?_)|(refine tE ?_ ?_<;>intro hc)|(with_reducible refine bH ?_)|(refine kw _ _ _ _ _ ?_)|(with_reducible refine cK ?_)))
  (refine rT [] ?_;first|rfl|simp only[pgo,simprocAttr]|skip)
 ·rw[if_neg q]
  have hq:(bi x.e k<0)=False:=eq_false q
  have hg:=eY x.e (bi x.e k).toNat (by omega)
  generalize bi x.e k=fi at *
  obtain⟨z,t,l,b⟩:=x
  simp only at *
  generalize l.getD fi.toNat ([],0,0)=y at *
  refine gI (eu [] mix) Tryz.func123 Tryz.results123 ?_
  (repeat' (first|(simp (disch:=first|exact dqz|fail) only[pgz,simprocAttr,pgE,pgj,iC,hel,hq,hg])|(refine tC ?_;first|refine cU hkL ?_|refine cY (hif _ _ _ _ _ (by first|rfl|simp [upd]) (by omega)) ?_)|(refine tE ?_ ?_<;>intro hc)|(with_reducible refine bH ?_)|(refine kw _ _ _ _ _ ?_)|(with_reducible refine cK ?_)))
  (refine rT [] ?_;first|rfl|simp only[pgo,simprocAttr]|skip)
end Go.Proofs.YtiohdbjggmmjcaaGreat
end
namespace Go.Proofs.YtiohdbjggmmjcaaGreat
open Go Go.Pg
def SC(x y:Tp)(k:List Nat):En:=(k,(aO (lZ x k).1.2.1 (lZ y k).1.2.1).1,(aO (lZ x k).1.2.2 (lZ y k).1.2.2).1)
def prF(x y:Tp)(k:List Nat):Bool:=(aO (lZ x k).1.2.1 (lZ y k).1.2.1).2||(aO (lZ x k).1.2.2 (lZ y k).1.2.2).2
theorem GU(x:Tp)(k:List Nat):(lZ x k).1.1=k:=by
 unfold lZ
 split
 ·rfl
 ·rename_i h
  exact aeO k x.e 0 (by have:bi x.e k=jd k 0 x.e:=rfl;omega)
theorem NS(f:Bxx)(k:Nat)(a b:Option (TypeId × List V)):upd (upd f k a) k b=upd f k b:=by
 funext j;unfold upd;split<;>simp_all
theorem aiW(x y:Tp)(k:List Nat)(ho:oct k)(hx:octE x.e)(hy:octE y.e)(hxn:x.e.length≤1000000)(hyn:y.e.length≤1000000)(hw:∀k,W64 (lZ x k).1.2.1∧W64 (lZ x k).1.2.2)(hw':∀k,W64 (lZ y k).1.2.1∧W64 (lZ y k).1.2.2)
  (e:Nat→V) (bx:Bxx) (n:Nat) (h:Nat→V) (z t:Int) (l:List En) (sa:Bool) (id:Nat) (hl:l.length≤1000000) (h0:bx 0=some (34,tpF x)) (h1:bx 1=some (34,tpF y)) (h3:bx 3=some (34,[vi z,vi t,.sl (.own id 119) 3 (ev l),vb sa])) (hn:3<n) (hid:id<n) :
  Gxz 122 [vs k,.ref 0 0,.ref 1 0,.ref 3 0] ⟨e,bx,n,h⟩ ⟨dX (aJ id) e,upd (mapB (aJ id) bx) 3 (some (34,[vi z,vi t,.sl (.own id 119) 3 (ev (l++[SC x y k])),vb (sa||prF x y k)])),n+3,dX (aJ id) h⟩ (.tup []):=by
 have k1:=acR x k ho hx hxn
 have k2:=acR y k ho hy hyn
 have hwx:=hw k
 have hwy:=hw' k
 have hkx:=GU x k
 have hky:=GU y k
 unfold SC prF
 generalize lZ x k=A at *
 generalize lZ y k=C at *
 obtain⟨a,A2⟩:=A
 obtain⟨c,C2⟩:=C
 simp only at hwx hwy k1 k2 hkx hky ⊢
 have hel:=aG l
 have hes:=mr l k (aO a.2.1 c.2.1).1 (aO a.2.2 c.2.2).1
 have hn0:¬(0=n):=by omega
 have hn1:¬(1=n):=by omega
 have hn3:¬(3=n):=by omega
 have hn4:¬(3=n+1):=by omega
 have hn5:¬(1=n+1):=by omega
 have hn6:¬(n=n+1):=by omega
 obtain⟨B0,hB0⟩:∃fB,fB=upd (upd bx n (some (119,[vs a.1,vi a.2.1,vi a.2.2]))) (n+1) (some (119,[vs c.1,vi c.2.1,vi c.2.2])):=⟨_,rfl⟩
 have hnd:([21,22,23,24,25,26,27,28,29,30,31,32,33,34,35]:List Nat).Nodup:=by decide
 obtain⟨B1,hB1⟩:∃fB,fB=upd B0 3 (some (34,[vi z,vi t,.sl (.own id 119) 3 (ev l),vb (sa||(aO a.2.1 c.2.1).2)])):=⟨_,rfl⟩
 obtain⟨B2,hB2⟩:∃fB,fB=upd B1 3 (some (34,[vi z,vi t,.sl (.own id 119) 3 (ev l),vb (sa||(aO a.2.1 c.2.1).2||(aO a.2.2 c.2.2).2)])):=⟨_,rfl⟩
 obtain⟨BX,hBX⟩:∃fB:(Nat→Bool)→Bxx,fB=fun S=>if S 12=true then B2 else if S 7=true then B1 else B0:=⟨_,rfl⟩
 obtain⟨NI,hNI⟩:∃fB:(Nat→Bool)→Nat,fB=fun S=>if S 14=true then n+3 else n+2:=⟨_,rfl⟩
 obtain⟨fl,hfl⟩:∃fB:(Nat→Bool)→Bool,fB=fun S=>if S 12=true then (sa||(aO a.2.1 c.2.1).2||(aO a.2.2 c.2.2).2) else if S 7=true then (sa||(aO a.2.1 c.2.1).2) else sa:=⟨_,rfl⟩
 have b03:B0 3=some (34,[vi z,vi t,.sl (.own id 119) 3 (ev l),vb sa]):=by rw[hB0,TY _ _ _ _ (by omega),TY _ _ _ _ (by omega),h3]
 have b13:B1 3=some (34,[vi z,vi t,.sl (.own id 119) 3 (ev l),vb (sa||(aO a.2.1 c.2.1).2)]):=by rw[hB1];exact lF _ _ _
 have hb3S:∀S,BX S 3=some (34,[vi z,vi t,.sl (.own id 119) 3 (ev l),vb (fl S)]):=fun S=>by
  rw[hBX,hfl]
  simp only
  by_cases q:S 12=true
  ·rw[if_pos q,if_pos q,hB2];exact lF _ _ _
  ·rw[if_neg q,if_neg q]
   by_cases q2:S 7=true
   ·rw[if_pos q2,if_pos q2];exact b13
   ·rw[if_neg q2,if_neg q2];exact b03
 have hbnS:∀S,BX S n=some (119,[vs a.1,vi a.2.1,vi a.2.2]):=fun S=>by
  have q0:B0 n=some (119,[vs a.1,vi a.2.1,vi a.2.2]):=by rw[hB0,TY _ _ _ _ (by omega)];exact lF _ _ _
  have q1:B1 n=some (119,[vs a.1,vi a.2.1,vi a.2.2]):=by rw[hB1,TY _ _ _ _ (by omega)];exact q0
  rw[hBX]
  simp only
  split
  ·rw[hB2,TY _ _ _ _ (by omega)];exact q1
  ·split
   ·exact q1
   ·exact q0
 have hbmS:∀S,BX S (n+1)=some (119,[vs c.1,vi c.2.1,vi c.2.2]):=fun S=>by
  have q0:B0 (n+1)=some (119,[vs c.1,vi c.2.1,vi c.2.2]):=by rw[hB0];exact lF _ _ _
  have q1:B1 (n+1)=some (119,[vs c.1,vi c.2.1,vi c.2.2]):=by rw[hB1,TY _ _ _ _ (by omega)];exact q0
  rw[hBX]
  simp only
  split
  ·rw[hB2,TY _ _ _ _ (by omega)];exact q1
  ·split
   ·exact q1
   ·exact q0
 have hBi:∀S i,i≠7→i≠12→BX S=BX (ins S i):=fun S i q7 q12=>by rw[hBX];simp only[bV (Ne.symm q7),bV (Ne.symm q12)]
 have hNi:∀S i,i≠14→NI S=NI (ins S i):=fun S i q=>by rw[hNI];simp only[bV (Ne.symm q)]
 have hz1:=fun (e:Nat→V) (n:Nat) (h:Nat→V)=>JP e B0 n h 3 a.2.1 c.2.1 z t (.sl (.own id 119) 3 (ev l)) sa hwx.1 hwy.1 b03
 have hz2:=fun (e:Nat→V) (n:Nat) (h:Nat→V)=>JP e B1 n h 3 a.2.2 c.2.2 z t (.sl (.own id 119) 3 (ev l)) (sa||(aO a.2.1 c.2.1).2) hwx.2 hwy.2 b13
 refine GoodZ.leN (bx':=upd (mapB (aJ id) B2) 3 (some (34,[vi z,vi t,.sl (.own id 119) 3 (ev (l++[(k,(aO a.2.1 c.2.1).1,(aO a.2.2 c.2.2).1)])),vb (sa||(aO a.2.1 c.2.1).2||(aO a.2.2 c.2.2).2)]))) (n':=n+3) ?_ (Nat.le_refl _) ?_
 ·refine gZ (eu [] mix) Tryz.func122 Tryz.results122 ?_
  (repeat' (first|(simp (disch:=first|exact dqz|fail) only[pgz,simprocAttr,pgE,pgj,iC,oq,jK,gU,h0,h1,hn0,hn1,hn3,hn5])|(refine tC ?_;first|refine cU k1 ?_|refine cU k2 ?_)|(refine tE ?_ ?_<;>intro hc)|refine xK ?_|fail))
  refine SH mix 15 [(21,.ref 3 2),(22,.sl (.own id 119) 3 (ev l)),(23,vs k),(24,.ref n 1),(25,vi a.2.1),(26,.ref (n+1) 1),(27,vi c.2.1),(28,vi (aO a.2.1 c.2.1).1),(29,.ref n 2),(30,vi a.2.2),(31,.ref (n+1) 2),(32,vi c.2.2),(33,vi (aO a.2.2 c.2.2).1),(34,.agg [vs k,vi (aO a.2.1 c.2.1).1,vi (aO a.2.2 c.2.2).1]),(35,.sl (.own (n+2) 119) 3 [.agg [vs k,vi (aO a.2.1 c.2.1).1,vi (aO a.2.2 c.2.2).1]])] BX NI (by rw[hBX];show B0=_;rw[hB0,NS,NS]) (by rw[hNI];rfl) (by decide) (by decide) (by decide) ?_ ?_
  ·intro S i o ho hi hS he hcl
   rcases (by omega:i=0∨i=1∨i=2∨i=3∨i=4∨i=5∨i=6∨i=7∨i=8∨i=9∨i=10∨i=11∨i=12∨i=13∨i=14) with rfl|rfl|rfl|rfl|rfl|rfl|rfl|rfl|rfl|rfl|rfl|rfl|rfl|rfl|rfl
   all_goals (simp only[List.getElem?_cons_zero,List.getElem?_cons_succ,Option.some.injEq] at ho;subst ho)
   ·skip
    (repeat' (first|(simp (disch:=first|exact dqz|fail) only[pgz,simprocAttr,hS,hb3S,hbnS,hbmS,hel,aC,aQ])|(refine tS ?_ ?_<;>intro hc)|(with_reducible refine cK ?_)))
    exact bI 0 (T:=[(21,.ref 3 2),(22,.sl (.own id 119) 3 (ev l)),(23,vs k),(24,.ref n 1),(25,vi a.2.1),(26,.ref (n+1) 1),(27,vi c.2.1),(28,vi (aO a.2.1 c.2.1).1),(29,.ref n 2),(30,vi a.2.2),(31,.ref (n+1) 2),(32,vi c.2.2),(33,vi (aO a.2.2 c.2.2).1),(34,.agg [vs k,vi (aO a.2.1 c.2.1).1,vi (aO a.2.2 c.2.2).1]),(35,.sl (.own (n+2) 119) 3 [.agg [vs k,vi (aO a.2.1 c.2.1).1,vi (aO a.2.2 c.2.2).1]])]) rfl hnd (hBi S 0 (by decide) (by decide)) (hNi S 0 (by decide))
   ·have s0:=he 0 (by decide)
    (repeat' (first|(simp (disch:=first|exact dqz|fail) only[pgz,simprocAttr,hS,hb3S,hbnS,hbmS,hel,aC,aQ,s0])|(refine tS ?_ ?_<;>intro hc)|(with_reducible refine cK ?_)))
    exact bI 1 (T:=[(21,.ref 3 2),(22,.sl (.own id 119) 3 (ev l)),(23,vs k),(24,.ref n 1),(25,vi a.2.1),(26,.ref (n+1) 1),(27,vi c.2.1),(28,vi (aO a.2.1 c.2.1).1),(29,.ref n 2),(30,vi a.2.2),(31,.ref (n+1) 2),(32,vi c.2.2),(33,vi (aO a.2.2 c.2.2).1),(34,.agg [vs k,vi (aO a.2.1 c.2.1).1,vi (aO a.2.2 c.2.2).1]),(35,.sl (.own (n+2) 119) 3 [.agg [vs k,vi (aO a.2.1 c.2.1).1,vi (aO a.2.2 c.2.2).1]])]) rfl hnd (hBi S 1 (by decide) (by decide)) (hNi S 1 (by decide))
   ·skip
    (repeat' (first|(simp (disch:=first|exact dqz|fail) only[pgz,simprocAttr,hS,hb3S,hbnS,hbmS,hel,aC,aQ])|(refine tS ?_ ?_<;>intro hc)|(with_reducible refine cK ?_)))
    exact bI 2 (T:=[(21,.ref 3 2),(22,.sl (.own id 119) 3 (ev l)),(23,vs k),(24,.ref n 1),(25,vi a.2.1),(26,.ref (n+1) 1),(27,vi c.2.1),(28,vi (aO a.2.1 c.2.1).1),(29,.ref n 2),(30,vi a.2.2),(31,.ref (n+1) 2),(32,vi c.2.2),(33,vi (aO a.2.2 c.2.2).1),(34,.agg [vs k,vi (aO a.2.1 c.2.1).1,vi (aO a.2.2 c.2.2).1]),(35,.sl (.own (n+2) 119) 3 [.agg [vs k,vi (aO a.2.1 c.2.1).1,vi (aO a.2.2 c.2.2).1]])]) rfl hnd (hBi S 2 (by decide) (by decide)) (hNi S 2 (by decide))
   ·skip
    (repeat' (first|(simp (disch:=first|exact dqz|fail) only[pgz,simprocAttr,hS,hb3S,hbnS,hbmS,hel,aC,aQ])|(refine tS ?_ ?_<;>intro hc)|(with_reducible refine cK ?_)))
    exact bI 3 (T:=[(21,.ref 3 2),(22,.sl (.own id 119) 3 (ev l)),(23,vs k),(24,.ref n 1),(25,vi a.2.1),(26,.ref (n+1) 1),(27,vi c.2.1),(28,vi (aO a.2.1 c.2.1).1),(29,.ref n 2),(30,vi a.2.2),(31,.ref (n+1) 2),(32,vi c.2.2),(33,vi (aO a.2.2 c.2.2).1),(34,.agg [vs k,vi (aO a.2.1 c.2.1).1,vi (aO a.2.2 c.2.2).1]),(35,.sl (.own (n+2) 119) 3 [.agg [vs k,vi (aO a.2.1 c.2.1).1,vi (aO a.2.2 c.2.2).1]])]) rfl hnd (hBi S 3 (by decide) (by decide)) (hNi S 3 (by decide))
   ·have s3:=he 3 (by decide)
    (repeat' (first|(simp (disch:=first|exact dqz|fail) only[pgz,simprocAttr,hS,hb3S,hbnS,hbmS,hel,aC,aQ,s3])|(refine tS ?_ ?_<;>intro hc)|(with_reducible refine cK ?_)))
    exact bI 4 (T:=[(21,.ref 3 2),(22,.sl (.own id 119) 3 (ev l)),(23,vs k),(24,.ref n 1),(25,vi a.2.1),(26,.ref (n+1) 1),(27,vi c.2.1),(28,vi (aO a.2.1 c.2.1).1),(29,.ref n 2),(30,vi a.2.2),(31,.ref (n+1) 2),(32,vi c.2.2),(33,vi (aO a.2.2 c.2.2).1),(34,.agg [vs k,vi (aO a.2.1 c.2.1).1,vi (aO a.2.2 c.2.2).1]),(35,.sl (.own (n+2) 119) 3 [.agg [vs k,vi (aO a.2.1 c.2.1).1,vi (aO a.2.2 c.2.2).1]])]) rfl hnd (hBi S 4 (by decide) (by decide)) (hNi S 4 (by decide))
   ·skip
    (repeat' (first|(simp (disch:=first|exact dqz|fail) only[pgz,simprocAttr,hS,hb3S,hbnS,hbmS,hel,aC,aQ])|(refine tS ?_ ?_<;>intro hc)|(with_reducible refine cK ?_)))
    exact bI 5 (T:=[(21,.ref 3 2),(22,.sl (.own id 119) 3 (ev l)),(23,vs k),(24,.ref n 1),(25,vi a.2.1),(26,.ref (n+1) 1),(27,vi c.2.1),(28,vi (aO a.2.1 c.2.1).1),(29,.ref n 2),(30,vi a.2.2),(31,.ref (n+1) 2),(32,vi c.2.2),(33,vi (aO a.2.2 c.2.2).1),(34,.agg [vs k,vi (aO a.2.1 c.2.1).1,vi (aO a.2.2 c.2.2).1]),(35,.sl (.own (n+2) 119) 3 [.agg [vs k,vi (aO a.2.1 c.2.1).1,vi (aO a.2.2 c.2.2).1]])]) rfl hnd (hBi S 5 (by decide) (by decide)) (hNi S 5 (by decide))
   ·have s5:=he 5 (by decide)
    (repeat' (first|(simp (disch:=first|exact dqz|fail) only[pgz,simprocAttr,hS,hb3S,hbnS,hbmS,hel,aC,aQ,s5])|(refine tS ?_ ?_<;>intro hc)|(with_reducible refine cK ?_)))
    exact bI 6 (T:=[(21,.ref 3 2),(22,.sl (.own id 119) 3 (ev l)),(23,vs k),(24,.ref n 1),(25,vi a.2.1),(26,.ref (n+1) 1),(27,vi c.2.1),(28,vi (aO a.2.1 c.2.1).1),(29,.ref n 2),(30,vi a.2.2),(31,.ref (n+1) 2),(32,vi c.2.2),(33,vi (aO a.2.2 c.2.2).1),(34,.agg [vs k,vi (aO a.2.1 c.2.1).1,vi (aO a.2.2 c.2.2).1]),(35,.sl (.own (n+2) 119) 3 [.agg [vs k,vi (aO a.2.1 c.2.1).1,vi (aO a.2.2 c.2.2).1]])]) rfl hnd (hBi S 6 (by decide) (by decide)) (hNi S 6 (by decide))
   ·have s4:=he 4 (by decide);have s6:=he 6 (by decide)
    have n12:S 12=false:=by
     cases h5:S 12 with
     | false=>rfl
     | true=>have:=hcl 12 _ rfl h5 7 (by decide);rw[hS] at this;cases this
    have e0:BX S=B0:=by rw[hBX];simp only[hS,n12];rfl
    have e1:BX (ins S 7)=B1:=by rw[hBX];simp only[Ad,bV (show 12≠7 by decide),n12];rfl
    (repeat' (first|(simp (disch:=first|exact dqz|fail) only[pgz,simprocAttr,hS,e0,aC,aQ,s4,s6])|(refine tS ?_ ?_<;>intro hc)|(with_reducible refine cK ?_)))
    refine cZ (hz1 _ _ _) ?_ (by simp only[List.map_cons,List.map_nil,pgo,simprocAttr,aC,aQ,s4,s6])
    exact bI 7 (T:=[(21,.ref 3 2),(22,.sl (.own id 119) 3 (ev l)),(23,vs k),(24,.ref n 1),(25,vi a.2.1),(26,.ref (n+1) 1),(27,vi c.2.1),(28,vi (aO a.2.1 c.2.1).1),(29,.ref n 2),(30,vi a.2.2),(31,.ref (n+1) 2),(32,vi c.2.2),(33,vi (aO a.2.2 c.2.2).1),(34,.agg [vs k,vi (aO a.2.1 c.2.1).1,vi (aO a.2.2 c.2.2).1]),(35,.sl (.own (n+2) 119) 3 [.agg [vs k,vi (aO a.2.1 c.2.1).1,vi (aO a.2.2 c.2.2).1]])]) rfl hnd (by rw[e1,hB1]) (hNi S 7 (by decide))
   ·skip
    (repeat' (first|(simp (disch:=first|exact dqz|fail) only[pgz,simprocAttr,hS,hb3S,hbnS,hbmS,hel,aC,aQ])|(refine tS ?_ ?_<;>intro hc)|(with_reducible refine cK ?_)))
    exact bI 8 (T:=[(21,.ref 3 2),(22,.sl (.own id 119) 3 (ev l)),(23,vs k),(24,.ref n 1),(25,vi a.2.1),(26,.ref (n+1) 1),(27,vi c.2.1),(28,vi (aO a.2.1 c.2.1).1),(29,.ref n 2),(30,vi a.2.2),(31,.ref (n+1) 2),(32,vi c.2.2),(33,vi (aO a.2.2 c.2.2).1),(34,.agg [vs k,vi (aO a.2.1 c.2.1).1,vi (aO a.2.2 c.2.2).1]),(35,.sl (.own (n+2) 119) 3 [.agg [vs k,vi (aO a.2.1 c.2.1).1,vi (aO a.2.2 c.2.2).1]])]) rfl hnd (hBi S 8 (by decide) (by decide)) (hNi S 8 (by decide))
   ·have s8:=he 8 (by decide)
    (repeat' (first|(simp (disch:=first|exact dqz|fail) only[pgz,simprocAttr,hS,hb3S,hbnS,hbmS,hel,aC,aQ,s8])|(refine tS ?_ ?_<;>intro hc)|(with_reducible refine cK ?_)))
    exact bI 9 (T:=[(21,.ref 3 2),(22,.sl (.own id 119) 3 (ev l)),(23,vs k),(24,.ref n 1),(25,vi a.2.1),(26,.ref (n+1) 1),(27,vi c.2.1),(28,vi (aO a.2.1 c.2.1).1),(29,.ref n 2),(30,vi a.2.2),(31,.ref (n+1) 2),(32,vi c.2.2),(33,vi (aO a.2.2 c.2.2).1),(34,.agg [vs k,vi (aO a.2.1 c.2.1).1,vi (aO a.2.2 c.2.2).1]),(35,.sl (.own (n+2) 119) 3 [.agg [vs k,vi (aO a.2.1 c.2.1).1,vi (aO a.2.2 c.2.2).1]])]) rfl hnd (hBi S 9 (by decide) (by decide)) (hNi S 9 (by decide))
   ·skip
    (repeat' (first|(simp (disch:=first|exact dqz|fail) only[pgz,simprocAttr,hS,hb3S,hbnS,hbmS,hel,aC,aQ])|(refine tS ?_ ?_<;>intro hc)|(with_reducible refine cK ?_)))
    exact bI 10 (T:=[(21,.ref 3 2),(22,.sl (.own id 119) 3 (ev l)),(23,vs k),(24,.ref n 1),(25,vi a.2.1),(26,.ref (n+1) 1),(27,vi c.2.1),(28,vi (aO a.2.1 c.2.1).1),(29,.ref n 2),(30,vi a.2.2),(31,.ref (n+1) 2),(32,vi c.2.2),(33,vi (aO a.2.2 c.2.2).1),(34,.agg [vs k,vi (aO a.2.1 c.2.1).1,vi (aO a.2.2 c.2.2).1]),(35,.sl (.own (n+2) 119) 3 [.agg [vs k,vi (aO a.2.1 c.2.1).1,vi (aO a.2.2 c.2.2).1]])]) rfl hnd (hBi S 10 (by decide) (by decide)) (hNi S 10 (by decide))
   ·have s10:=he 10 (by decide)
    (repeat' (first|(simp (disch:=first|exact dqz|fail) only[pgz,simprocAttr,hS,hb3S,hbnS,hbmS,hel,aC,aQ,s10])|(refine tS ?_ ?_<;>intro hc)|(with_reducible refine cK ?_)))
    exact bI 11 (T:=[(21,.ref 3 2),(22,.sl (.own id 119) 3 (ev l)),(23,vs k),(24,.ref n 1),(25,vi a.2.1),(26,.ref (n+1) 1),(27,vi c.2.1),(28,vi (aO a.2.1 c.2.1).1),(29,.ref n 2),(30,vi a.2.2),(31,.ref (n+1) 2),(32,vi c.2.2),(33,vi (aO a.2.2 c.2.2).1),(34,.agg [vs k,vi (aO a.2.1 c.2.1).1,vi (aO a.2.2 c.2.2).1]),(35,.sl (.own (n+2) 119) 3 [.agg [vs k,vi (aO a.2.1 c.2.1).1,vi (aO a.2.2 c.2.2).1]])]) rfl hnd (hBi S 11 (by decide) (by decide)) (hNi S 11 (by decide))
   ·have s9:=he 9 (by decide);have s11:=he 11 (by decide);have s7:=he 7 (by decide)
    have e0:BX S=B1:=by rw[hBX];simp only[hS,s7];rfl
    have e1:BX (ins S 12)=B2:=by rw[hBX];simp only[Ad];rfl
    (repeat' (first|(simp (disch:=first|exact dqz|fail) only[pgz,simprocAttr,hS,e0,aC,aQ,s9,s11,s7])|(refine tS ?_ ?_<;>intro hc)|(with_reducible refine cK ?_)))
    refine cZ (hz2 _ _ _) ?_ (by simp only[List.map_cons,List.map_nil,pgo,simprocAttr,aC,aQ,s9,s11,s7])
    exact bI 12 (T:=[(21,.ref 3 2),(22,.sl (.own id 119) 3 (ev l)),(23,vs k),(24,.ref n 1),(25,vi a.2.1),(26,.ref (n+1) 1),(27,vi c.2.1),(28,vi (aO a.2.1 c.2.1).1),(29,.ref n 2),(30,vi a.2.2),(31,.ref (n+1) 2),(32,vi c.2.2),(33,vi (aO a.2.2 c.2.2).1),(34,.agg [vs k,vi (aO a.2.1 c.2.1).1,vi (aO a.2.2 c.2.2).1]),(35,.sl (.own (n+2) 119) 3 [.agg [vs k,vi (aO a.2.1 c.2.1).1,vi (aO a.2.2 c.2.2).1]])]) rfl hnd (by rw[e1,hB2]) (hNi S 12 (by decide))
   ·have s2:=he 2 (by decide);have s7:=he 7 (by decide);have s12:=he 12 (by decide)
    (repeat' (first|(simp (disch:=first|exact dqz|fail) only[pgz,simprocAttr,hS,hb3S,hbnS,hbmS,hel,aC,aQ,s2,s7,s12])|(refine tS ?_ ?_<;>intro hc)|(with_reducible refine cK ?_)))
    exact bI 13 (T:=[(21,.ref 3 2),(22,.sl (.own id 119) 3 (ev l)),(23,vs k),(24,.ref n 1),(25,vi a.2.1),(26,.ref (n+1) 1),(27,vi c.2.1),(28,vi (aO a.2.1 c.2.1).1),(29,.ref n 2),(30,vi a.2.2),(31,.ref (n+1) 2),(32,vi c.2.2),(33,vi (aO a.2.2 c.2.2).1),(34,.agg [vs k,vi (aO a.2.1 c.2.1).1,vi (aO a.2.2 c.2.2).1]),(35,.sl (.own (n+2) 119) 3 [.agg [vs k,vi (aO a.2.1 c.2.1).1,vi (aO a.2.2 c.2.2).1]])]) rfl hnd (hBi S 13 (by decide) (by decide)) (hNi S 13 (by decide))
   ·have s13:=he 13 (by decide)
    have n0:NI S=n+2:=by rw[hNI];simp only[hS];rfl
    have n1:NI (ins S 14)=n+3:=by rw[hNI];simp only[Ad];rfl
    (repeat' (first|(simp (disch:=first|exact dqz|fail) only[pgz,simprocAttr,hS,n0,aC,aQ,s13])|(refine tS ?_ ?_<;>intro hc)|(with_reducible refine cK ?_)))
    exact bI 14 (T:=[(21,.ref 3 2),(22,.sl (.own id 119) 3 (ev l)),(23,vs k),(24,.ref n 1),(25,vi a.2.1),(26,.ref (n+1) 1),(27,vi c.2.1),(28,vi (aO a.2.1 c.2.1).1),(29,.ref n 2),(30,vi a.2.2),(31,.ref (n+1) 2),(32,vi c.2.2),(33,vi (aO a.2.2 c.2.2).1),(34,.agg [vs k,vi (aO a.2.1 c.2.1).1,vi (aO a.2.2 c.2.2).1]),(35,.sl (.own (n+2) 119) 3 [.agg [vs k,vi (aO a.2.1 c.2.1).1,vi (aO a.2.2 c.2.2).1]])]) rfl hnd (hBi S 14 (by decide) (by decide)) (by rw[n1])
  ·intro S hall
   have s0:=hall 0 (by decide) (by decide)
   have s1:=hall 1 (by decide) (by decide)
   have s2:=hall 2 (by decide) (by decide)
   have s3:=hall 3 (by decide) (by decide)
   have s4:=hall 4 (by decide) (by decide)
   have s5:=hall 5 (by decide) (by decide)
   have s6:=hall 6 (by decide) (by decide)
   have s7:=hall 7 (by decide) (by decide)
   have s8:=hall 8 (by decide) (by decide)
   have s9:=hall 9 (by decide) (by decide)
   have s10:=hall 10 (by decide) (by decide)
   have s11:=hall 11 (by decide) (by decide)
   have s12:=hall 12 (by decide) (by decide)
   have s13:=hall 13 (by decide) (by decide)
   have s14:=hall 14 (by decide) (by decide)
   have e0:BX S=B2:=by rw[hBX];simp only[s12];rfl
   have n0:NI S=n+3:=by rw[hNI];simp only[s14];rfl
   have b23:B2 3=some (34,[vi z,vi t,.sl (.own id 119) 3 (ev l),vb (sa||(aO a.2.1 c.2.1).2||(aO a.2.2 c.2.2).2)]):=by rw[hB2];exact lF _ _ _
   simp only[List.drop_succ_cons,List.drop_zero,List.map_cons,List.map_nil]
   rw[e0,n0]
   (repeat' (first|(simp (disch:=first|exact dqz|fail) only[pgz,simprocAttr,s0,s1,s2,s3,s4,s5,s6,s7,s8,s9,s10,s11,s12,s13,s14,aC,aQ,pgE,pgj,iC,hel,hes,b23,jK,gU])|(refine tE ?_ ?_<;>intro hc)|refine xK ?_|fail))
   refine Fz (P6 _ _) ?_
   rw[OH,OI,jk,jl,if_neg (show ¬n+2≤id by omega)]
 ·intro b
  by_cases q3:b=3
  ·subst q3;left;rw[lF,lF,Bool.or_assoc]
  ·by_cases qn:n≤b
   ·refine .inr (.inr ⟨qn,fun h0 => ?_⟩)
    rw[TY _ _ _ _ q3,iG,h0];rfl
   ·left
    rw[TY _ _ _ _ q3,TY _ _ _ _ q3,iG,iG,hB2,TY _ _ _ _ q3,hB1,TY _ _ _ _ q3,hB0,TY _ _ _ _ (by omega),TY _ _ _ _ (by omega)]
end Go.Proofs.YtiohdbjggmmjcaaGreat
