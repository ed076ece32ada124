/-
  Merged texts.
-/
import Derived.Test.YtiohdbjggmmjcaaGreatWAY
import Derived.Test.YtiohdbjggmmjcaaGreatWBC
import Derived.Test.YtiohdbjggmmjcaaGreatWAW
import Derived.Test.YtiohdbjggmmjcaaGreatWBA
import Derived.Test.YtiohdbjggmmjcaaGreatWBE
set_option linter.unusedVariables false
set_option linter.unusedSimpArgs false
set_option linter.unusedSectionVars false
set_option linter.defProp false
set_option maxRecDepth 100000
set_option maxHeartbeats 8000000
namespace Go.Proofs.YtiohdbjggmmjcaaGreat
open Go Go.Pg
theorem Zd{x:Tp}(h:vTp x=0):∀y∈x.e,(1≤y.2.1∧y.2.1≤1099511627776)∧0≤y.2.2∧y.2.2≤y.2.1-1:=by
 intro y hy
 obtain⟨i,hi,rfl⟩:=List.getElem_of_mem hy
 have h1:=(su ((kK h).2.2.2 i hi)).2
 have e:x.e.getD i eD=x.e[i]:=by simp [List.getD,hi]
 rw[e] at h1
 exact h1
theorem akl{l:List En}(h:∀y∈l,y.2.2≤y.2.1-1):nM l=l:=by
 unfold nM
 conv=>rhs;rw[←List.map_id l]
 apply List.map_congr_left
 intro y hy
 have h1:=h y hy
 show (y.1,y.2.1,min y.2.2 (y.2.1-1))=y
 rw[Int.min_eq_left h1]
theorem acI(a b:Int)(ha:0≤a∧a≤1099511627776)(hb:0≤b):a≤(aO a b).1:=by
 have h1:=oh ha.1
 have h2:=oh hb
 have h3:iI 1099511627776=1099511627776:=oh (by decide)
 unfold aO lw
 rw[h1,h2,h3]
 split
 ·exact ha.2
 ·simp only;omega
def prE(t:Tp)(k:List Nat)(w:Int):List En :=
 if 0≤bi t.e k then t.e.set (bi t.e k).toNat ((t.e.getD (bi t.e k).toNat eD).1,(aO (t.e.getD (bi t.e k).toNat eD).2.1 w).1,(t.e.getD (bi t.e k).toNat eD).2.2)
 else if (t.e.length:Int)<t.z then t.e++[(k,w,0)]
 else t.e.set (t.e.length-1) (k,(aO (fK t) w).1,fK t)
theorem FY{l:List En}{i:Nat}{v y:En}(h:y∈l.set i v):y∈l∨y=v:=List.mem_or_eq_of_mem_set h
theorem ajs(l:List En)(i:Nat)(v:En)(h:∀y∈l,y.2.2≤y.2.1-1):nM (l.set i v)=l.set i (wV v):=by
 have:=akl h
 unfold nM at *
 rw[List.map_set,this]
theorem Zo{x:Tp}(hv:vTp x=0)(k:List Nat)(w:Int)(hw:1≤w):nM (prE x k w)=(kJ x k w).1:=by
 have hm:=Zd hv
 have hm2:∀y∈x.e,y.2.2≤y.2.1-1:=fun y hy=>(hm y hy).2.2
 have hfr:=lQ x.e k
 unfold prE kJ
 by_cases q1:0≤bi x.e k
 ·rw[if_pos q1,if_pos q1]
  have hlt:(bi x.e k).toNat<x.e.length:=by omega
  have hy:x.e.getD (bi x.e k).toNat eD∈x.e:=by
   rw[List.getD_eq_getElem?_getD,List.getElem?_eq_getElem hlt];exact List.getElem_mem hlt
  have h1:=hm _ hy
  generalize x.e.getD (bi x.e k).toNat eD=y at *
  have h2:=acI y.2.1 w ⟨by omega,h1.1.2⟩ (by omega)
  rw[ajs _ _ _ hm2]
  show x.e.set _ (y.1,(aO y.2.1 w).1,min y.2.2 ((aO y.2.1 w).1-1))=_
  rw[Int.min_eq_left (by omega)]
 ·rw[if_neg q1,if_neg q1]
  by_cases q2:(x.e.length:Int)<x.z
  ·rw[if_pos q2,if_pos q2]
   apply akl
   intro y hy
   rcases List.mem_append.1 hy with h|h
   ·exact hm2 y h
   ·simp at h;subst h;simp only;omega
  ·rw[if_neg q2,if_neg q2]
   exact ajs _ _ _ hm2
theorem abU{x:Tp}(hv:vTp x=0)(k:List Nat)(w:Int):((prE x k w).length:Int)≤x.z:=by
 have h3:=(kK hv).2.2.1
 unfold prE
 split
 ·rw[List.length_set];exact h3
 ·split
  ·rename_i h;simp only[List.length_append,List.length_cons,List.length_nil];omega
  ·rw[List.length_set];exact h3
theorem ajD{x:Tp}(hv:vTp x=0)(k:List Nat)(w:Int)(hw:1≤w∧w≤4294967295):∀y∈prE x k w, -9000000000000000000≤y.2.1∧y.2.1≤9000000000000000000:=by
 have hm:=Zd hv
 have hr:=fun a b=>pR a b
 intro y hy
 unfold prE at hy
 split at hy
 ·rcases FY hy with h|h
  ·have:=hm y h;omega
  ·subst h;have:=hr (x.e.getD (bi x.e k).toNat eD).2.1 w;simp only;omega
 ·split at hy
  ·rcases List.mem_append.1 hy with h|h
   ·have:=hm y h;omega
   ·simp at h;subst h;simp only;omega
  ·rcases FY hy with h|h
   ·have:=hm y h;omega
   ·subst h;have:=hr (fK x) w;simp only;omega
theorem Pv{P:Program}[Tb P](hm:P.follows .mixedOrders=true)(m:Nat)(T:List (Nat × V))(c b:Nat)(X:TypeId × List V){ex:List Nat}{l:List Oper}{id:Nat}{Q:Exit→St→Prop}{e:Nat→V}{bx:Bxx}{n:Nat}{h:Nat→V}
  (hidx:(l.zipIdx.all fun x=>(edgesOf x.1).all fun e=>decide (e<x.2))=true) (hchk:((List.range l.length).all fun i=>decide (i<m)||(List.range i).all fun j=>((pq [] l).getD i 0).testBit j)=true) (hg:(l.all fun o=>o.guard.isNone)=true)
  (jZ:∀(S:Nat→Bool) i o,l[i]?=some o→i<m→S i=false→(∀e∈edgesOf o,S e=true)→aA P ⟨qW T 0 S e,if S c=true then upd bx b (some X) else bx,n,h⟩ o (fun _ s'=>s'=⟨qW T 0 (ins S i) e,if (ins S i) c=true then upd bx b (some X) else bx,n,h⟩))
  (hend:∀S,(∀j,j<m→j<l.length→S j=true)→pG P (l.map (·.dst)) Q (l.drop m) ⟨qW T 0 S e,if S c=true then upd bx b (some X) else bx,n,h⟩):wpS (dU ex) P (.region id l.toArray true) Q ⟨e,bx,n,h⟩ :=
 SH (id:=id) hm m T (fun S=>if S c=true then upd bx b (some X) else bx) (fun _=>n) rfl rfl hidx hchk hg (fun S i o h1 h2 h3 h4 _=>jZ S i o h1 h2 h3 h4) hend
theorem wX(k:List Nat):∀(l:List En) (i:Nat),jd k i l<0→∀y∈l,y.1≠k:=by
 intro l
 induction l with
 | nil=>intro i _ y hy;cases hy
 | cons e l ih =>
  intro i h y hy
  unfold jd at h
  split at h
  ·omega
  ·rename_i hk
   rcases List.mem_cons.1 hy with rfl|hy
   ·exact hk
   ·exact ih (i+1) h y hy
theorem afo{x:Tp}(h:vTp x=0):x.e.Pairwise fun a b=>a.1≠b.1:=by
 rw[List.pairwise_iff_getElem]
 intro i j hi hj hij he
 have h1:=(kK h).2.2.2 j hj
 have e:x.e.getD j eD=x.e[j]:=by simp [List.getD,hj]
 have h2:bi (x.e.take j) (x.e[j]).1<0:=by
  unfold pO at h1
  rw[e] at h1
  split at h1
  ·cases h1
  ·split at h1
   ·cases h1
   ·split at h1
    ·cases h1
    ·omega
 refine wX _ _ _ h2 x.e[i] ?_ he
 rw[List.mem_iff_getElem]
 exact⟨i,by simp;omega,by simp⟩
theorem abV{x:Tp}(hv:vTp x=0)(k:List Nat)(w:Int):(prE x k w).Pairwise fun a b=>a.1≠b.1:=by
 have hd:=afo hv
 have hfr:=lQ x.e k
 unfold prE
 split
 ·rename_i q1
  have hlt:(bi x.e k).toNat<x.e.length:=by omega
  have e:x.e.getD (bi x.e k).toNat eD=x.e[(bi x.e k).toNat]:=by simp [List.getD,hlt]
  rw[e]
  have hm:(x.e.set (bi x.e k).toNat ((x.e[(bi x.e k).toNat]).1,(aO (x.e[(bi x.e k).toNat]).2.1 w).1,(x.e[(bi x.e k).toNat]).2.2)).map (fun y=>y.1)=x.e.map (fun y=>y.1):=by
   rw[List.map_set]
   apply List.ext_getElem?
   intro t
   rw[List.getElem?_set]
   split
   ·rename_i ht
    subst ht
    rw[List.length_map,if_pos hlt,List.getElem?_map,List.getElem?_eq_getElem hlt];rfl
   ·rfl
  have h1:=List.pairwise_map (f:=fun y:En=>y.1) (R:=fun a b=>a≠b) (l:=x.e)
  have h2:=List.pairwise_map (f:=fun y:En=>y.1) (R:=fun a b=>a≠b) (l:=x.e.set (bi x.e k).toNat ((x.e[(bi x.e k).toNat]).1,(aO (x.e[(bi x.e k).toNat]).2.1 w).1,(x.e[(bi x.e k).toNat]).2.2))
  rw[hm] at h2
  exact h2.1 (h1.2 hd)
 ·rename_i q1
  have hno:=wX k x.e 0 (by have:bi x.e k=jd k 0 x.e:=rfl;omega)
  split
  ·rw[List.pairwise_append]
   refine⟨hd,by simp,fun a ha b hb => ?_⟩
   simp at hb;subst hb
   exact hno a ha
  ·rw[List.pairwise_iff_getElem] at hd ⊢
   intro i j hi hj hij
   simp only[List.length_set] at hi hj
   rw[List.getElem_set,List.getElem_set]
   rw[if_neg (by omega)]
   split
   ·exact hno _ (List.getElem_mem _)
   ·exact hd i j hi hj hij
theorem abW{x:Tp}(ho:octE x.e)(k:List Nat)(hk:oct k)(w:Int):octE (prE x k w):=by
 intro y hy
 unfold prE at hy
 split at hy
 ·rcases FY hy with h|h
  ·exact ho y h
  ·subst h;exact fV ho _
 ·split at hy
  ·rcases List.mem_append.1 hy with h|h
   ·exact ho y h
   ·simp at h;subst h;exact hk
  ·rcases FY hy with h|h
   ·exact ho y h
   ·subst h;exact hk
theorem akm(x:Tp)(k:List Nat)(w:Int)(ho:oct k)(hx:octE x.e)(c1:vTp x=0)(c2:bT k w=0)(q1:0≤bi x.e k) :
  Gxx 28 [.agg (tpF x),.agg [vs k,vi w]] (.tup [.agg [vi x.z,vi (aO x.t w).1,.sl (.own 0 119) 3 (ev (srt bfE (kJ x k w).1)),vb (x.b||(aO x.t w).2||(kJ x k w).2)],vi 0]):=by
 have h1:=Jt x hx (by have:=(kK c1).2.2.1;have:=(kK c1).1;omega)
 have h2:=bz k w
 rw[c1] at h1
 rw[c2] at h2
 obtain⟨i1,i2,i3,i4⟩:=kK c1
 obtain⟨j1,j2⟩:=fU c2
 have hw:W64 w:=by unfold W64;omega
 have hwt:W64 x.t:=by unfold W64;omega
 have hkL:=Gl x (by omega)
 have hfr:=lQ x.e k
 have hel:=aG x.e
 have hpf:=Zo c1 k w j1.1
 have hpl:=abU c1 k w
 have hpb:=ajD c1 k w j1
 have hpd:=abV c1 k w
 have hpo:=abW hx k ho w
 have hpe:prE x k w=x.e.set (bi x.e k).toNat ((x.e.getD (bi x.e k).toNat eD).1,(aO (x.e.getD (bi x.e k).toNat eD).2.1 w).1,(x.e.getD (bi x.e k).toNat eD).2.2):=if_pos q1
 have ei:(kJ x k w).2=(aO (x.e.getD (bi x.e k).toNat eD).2.1 w).2:=by unfold kJ;rw[if_pos q1]
 rw[ei,←hpf]
 have hlt:(bi x.e k).toNat<x.e.length:=by omega
 have hg:=eY x.e (bi x.e k).toNat hlt
 have her:=su (i4 _ hlt)
 have hwy:W64 (x.e.getD (bi x.e k).toNat eD).2.1:=by unfold W64;omega
 generalize x.e.getD (bi x.e k).toNat eD=y at *
 obtain⟨yk,yc,ye⟩:=y
 simp only at hg her hwy hpe ei ⊢
 have hes:=o6 x.e (bi x.e k).toNat yk (aO yc w).1 ye
 rw[←hpe] at hes
 have hE2l:(prE x k w).length=x.e.length:=by rw[hpe,List.length_set]
 generalize prE x k w=E2 at *
 have hif:=fun (e:Nat→V) (bx:Bxx) (n:Nat) (h:Nat→V) (tg:Tag) (hb:bx 1=some (45,[vs k,vi w])) (hbn:1<n)=>GN e bx n h 1 k w x.e tg hx ho (by omega) hb hbn
 generalize hfi:bi x.e k=fi at *
 have hzt:=fun (e:Nat→V) (bx:Bxx) (n:Nat) (h:Nat→V) (en:V) (hb:bx 0=some (34,[vi x.z,vi x.t,en,vb x.b]))=>JP e bx n h 0 x.t w x.z x.t en x.b hwt hw hb
 have hzy:=fun (e:Nat→V) (bx:Bxx) (n:Nat) (h:Nat→V) (t':Int) (en:V) (sa:Bool) (hb:bx 0=some (34,[vi x.z,vi t',en,vb sa]))=>JP e bx n h 0 yc w x.z t' en sa hwy hw hb
 have hst:=fun (e:Nat→V) (bx:Bxx) (n:Nat) (h:Nat→V) (id:Nat)=>CG e bx n h id E2 (by omega) hpd hpo hpb
 clear ei hpe
 obtain⟨z,t,l,b⟩:=x
 simp only at *
 refine gI (eu [] mix) Tryz.func28 Tryz.results28 ?_
 (repeat' (first|(simp (disch:=first|exact dqz|fail) only[pgz,simprocAttr,pgE,pgj,iC,hel])|(refine tC ?_;first|refine cU h1 ?_|refine cU h2 ?_|refine cU hkL ?_|refine dZ _ (hzt _ _ _ _ _ (by first|rfl|simp [upd])) rfl ?_|refine cY (hif _ _ _ _ _ (by first|rfl|simp [upd]) (by omega)) ?_)|(refine tE ?_ ?_<;>intro hc)|refine xK ?_|fail))
 have hnd:([56,57,58,59,60,61,62,63,64,65,66,67,68,69]:List Nat).Nodup:=by decide
 refine Pv mix 14 [(56,.ref 0 2),(57,.sl (.own 4 119) 3 (ev l)),(58,vi fi),(59,.ref 0 2),(60,.sl (.own 4 119) 3 (ev l)),(61,vi fi),(62,.el (.own 4 119) 3 (ev l) fi.toNat 0),(63,.el (.own 4 119) 3 (ev l) fi.toNat 1),(64,vi yc),(65,.ref 1 1),(66,vi w),(67,vi (aO yc w).1),(68,.el (.own 4 119) 3 (ev l) fi.toNat 0),(69,.el (.own 4 119) 3 (ev l) fi.toNat 1)] 11 0 (34,[vi z,vi (aO t w).1,.sl (.own 4 119) 3 (ev l),vb (b||(aO t w).2||(aO yc w).2)]) (by decide) (by decide) (by decide) ?_ ?_
 ·intro S i o ho hi hS he
  rcases (by omega:i=0∨i=1∨i=2∨i=3∨i=4∨i=5∨i=6∨i=7∨i=8∨i=9∨i=10∨i=11∨i=12∨i=13) with rfl|rfl|rfl|rfl|rfl|rfl|rfl|rfl|rfl|rfl|rfl|rfl|rfl|rfl
  all_goals (simp only[List.getElem?_cons_zero,List.getElem?_cons_succ,Option.some.injEq] at ho;subst ho)
  ·(repeat' (first|(simp (disch:=first|exact dqz|fail) only[pgz,simprocAttr,hS,hel,aC,aQ])|(refine tS ?_ ?_<;>intro hc)|(with_reducible refine cK ?_)))
   exact bI 0 rfl hnd (by rw[bV (by decide)]) rfl
  ·have s0:=he 0 (by decide)
   cases h11:S 11
   ·(repeat' (first|(simp (disch:=first|exact dqz|fail) only[pgz,simprocAttr,hS,s0,h11,aC,aQ])|(refine tS ?_ ?_<;>intro hc)|(with_reducible refine cK ?_)))
    exact bI 1 rfl hnd (by rw[bV (by decide)];simp only[h11];rfl) rfl
   ·(repeat' (first|(simp (disch:=first|exact dqz|fail) only[pgz,simprocAttr,hS,s0,h11,aC,aQ])|(refine tS ?_ ?_<;>intro hc)|(with_reducible refine cK ?_)))
    exact bI 1 rfl hnd (by rw[bV (by decide)];simp only[h11];rfl) rfl
  ·(repeat' (first|(simp (disch:=first|exact dqz|fail) only[pgz,simprocAttr,hS,hel,aC,aQ])|(refine tS ?_ ?_<;>intro hc)|(with_reducible refine cK ?_)))
   exact bI 2 rfl hnd (by rw[bV (by decide)]) rfl
  ·(repeat' (first|(simp (disch:=first|exact dqz|fail) only[pgz,simprocAttr,hS,hel,aC,aQ])|(refine tS ?_ ?_<;>intro hc)|(with_reducible refine cK ?_)))
   exact bI 3 rfl hnd (by rw[bV (by decide)]) rfl
  ·have s3:=he 3 (by decide)
   cases h11:S 11
   ·(repeat' (first|(simp (disch:=first|exact dqz|fail) only[pgz,simprocAttr,hS,s3,h11,aC,aQ])|(refine tS ?_ ?_<;>intro hc)|(with_reducible refine cK ?_)))
    exact bI 4 rfl hnd (by rw[bV (by decide)];simp only[h11];rfl) rfl
   ·(repeat' (first|(simp (disch:=first|exact dqz|fail) only[pgz,simprocAttr,hS,s3,h11,aC,aQ])|(refine tS ?_ ?_<;>intro hc)|(with_reducible refine cK ?_)))
    exact bI 4 rfl hnd (by rw[bV (by decide)];simp only[h11];rfl) rfl
  ·(repeat' (first|(simp (disch:=first|exact dqz|fail) only[pgz,simprocAttr,hS,hel,aC,aQ])|(refine tS ?_ ?_<;>intro hc)|(with_reducible refine cK ?_)))
   exact bI 5 rfl hnd (by rw[bV (by decide)]) rfl
  ·have s4:=he 4 (by decide)
   have s5:=he 5 (by decide)
   (repeat' (first|(simp (disch:=first|exact dqz|fail) only[pgz,simprocAttr,hS,s4,s5,hel,aC,aQ])|(refine tS ?_ ?_<;>intro hc)|(with_reducible refine cK ?_)))
   exact bI 6 rfl hnd (by rw[bV (by decide)]) rfl
  ·have s6:=he 6 (by decide)
   (repeat' (first|(simp (disch:=first|exact dqz|fail) only[pgz,simprocAttr,hS,s6,hel,aC,aQ])|(refine tS ?_ ?_<;>intro hc)|(with_reducible refine cK ?_)))
   exact bI 7 rfl hnd (by rw[bV (by decide)]) rfl
  ·have s7:=he 7 (by decide)
   (repeat' (first|(simp (disch:=first|exact dqz|fail) only[pgz,simprocAttr,hS,s7,hg,hel,aC,aQ])|(refine tS ?_ ?_<;>intro hc)|(with_reducible refine cK ?_)))
   exact bI 8 rfl hnd (by rw[bV (by decide)]) rfl
  ·(repeat' (first|(simp (disch:=first|exact dqz|fail) only[pgz,simprocAttr,hS,hel,aC,aQ])|(refine tS ?_ ?_<;>intro hc)|(with_reducible refine cK ?_)))
   exact bI 9 rfl hnd (by rw[bV (by decide)]) rfl
  ·have s9:=he 9 (by decide)
   cases h11:S 11
   ·(repeat' (first|(simp (disch:=first|exact dqz|fail) only[pgz,simprocAttr,hS,s9,h11,aC,aQ])|(refine tS ?_ ?_<;>intro hc)|(with_reducible refine cK ?_)))
    exact bI 10 rfl hnd (by rw[bV (by decide)];simp only[h11];rfl) rfl
   ·(repeat' (first|(simp (disch:=first|exact dqz|fail) only[pgz,simprocAttr,hS,s9,h11,aC,aQ])|(refine tS ?_ ?_<;>intro hc)|(with_reducible refine cK ?_)))
    exact bI 10 rfl hnd (by rw[bV (by decide)];simp only[h11];rfl) rfl
  ·have s8:=he 8 (by decide)
   have s10:=he 10 (by decide)
   (repeat' (first|(simp (disch:=first|exact dqz|fail) only[pgz,simprocAttr,hS,s8,s10,aC,aQ])|(refine tS ?_ ?_<;>intro hc)|(with_reducible refine cK ?_)))
   (try simp only[hS,Bool.false_eq_true,if_false])
   refine cZ (hzy _ _ _ _ (aO t w).1 (.sl (.own 4 119) 3 (ev l)) (b||(aO t w).2) (by first|rfl|simp [upd])) ?_ (by simp only[List.map_cons,List.map_nil,pgo,simprocAttr,s8,s10,aC,aQ])
   refine bI (T:=[(56,.ref 0 2),(57,.sl (.own 4 119) 3 (ev l)),(58,vi fi),(59,.ref 0 2),(60,.sl (.own 4 119) 3 (ev l)),(61,vi fi),(62,.el (.own 4 119) 3 (ev l) fi.toNat 0),(63,.el (.own 4 119) 3 (ev l) fi.toNat 1),(64,vi yc),(65,.ref 1 1),(66,vi w),(67,vi (aO yc w).1),(68,.el (.own 4 119) 3 (ev l) fi.toNat 0),(69,.el (.own 4 119) 3 (ev l) fi.toNat 1)]) 11 rfl hnd ?_ rfl
   simp only[Ad,if_true]
  ·have s1:=he 1 (by decide)
   have s2:=he 2 (by decide)
   (repeat' (first|(simp (disch:=first|exact dqz|fail) only[pgz,simprocAttr,hS,s1,s2,hel,aC,aQ])|(refine tS ?_ ?_<;>intro hc)|(with_reducible refine cK ?_)))
   exact bI 12 rfl hnd (by rw[bV (by decide)]) rfl
  ·have s12:=he 12 (by decide)
   (repeat' (first|(simp (disch:=first|exact dqz|fail) only[pgz,simprocAttr,hS,s12,hel,aC,aQ])|(refine tS ?_ ?_<;>intro hc)|(with_reducible refine cK ?_)))
   exact bI 13 rfl hnd (by rw[bV (by decide)]) rfl
 ·intro S hall
  have s0:=hall 0 (by decide) (by decide)
  have s1:=hall 1 (by decide) (by decide)
  have s2:=hall 2 (by decide) (by decide)
  have s3:=hall 3 (by decide) (by decide)
  have s4:=hall 4 (by decide) (by decide)
  have s5:=hall 5 (by decide) (by decide)
  have s6:=hall 6 (by decide) (by decide)
  have s7:=hall 7 (by decide) (by decide)
  have s8:=hall 8 (by decide) (by decide)
  have s9:=hall 9 (by decide) (by decide)
  have s10:=hall 10 (by decide) (by decide)
  have s11:=hall 11 (by decide) (by decide)
  have s12:=hall 12 (by decide) (by decide)
  have s13:=hall 13 (by decide) (by decide)
  simp only[List.drop_succ_cons,List.drop_zero,List.map_cons,List.map_nil]
  (repeat' (first|(simp (disch:=first|exact dqz|fail) only[pgz,simprocAttr,s0,s1,s2,s3,s4,s5,s6,s7,s8,s9,s10,s11,s12,s13,aC,aQ,pgE,pgj,iC,hel,hg,hes,qB,kR,FW])|(refine tC ?_;refine dZ _ (hst _ _ _ _ _) rfl ?_)|(refine tE ?_ ?_<;>intro hc)|refine xK ?_|fail))
  refine bZ [4] (.tup [.agg [vi z,vi (aO t w).1,.sl (.own 4 119) 3 (ev (srt bfE (nM E2))),vb (b||(aO t w).2||(aO yc w).2)],vi 0]) (by simp (disch:=first|assumption|omega) only[pgr,pgo,tyf,simprocAttr,aC,aQ,qB,kR,FW];first|rfl|skip) (by decide) (by simp only[pgo,simprocAttr]) ?_
  first|rfl|simp only[pgo,simprocAttr]|skip
theorem akn(x:Tp)(k:List Nat)(w:Int)(ho:oct k)(hx:octE x.e)(c1:vTp x=0)(c2:bT k w=0)(q1:¬0≤bi x.e k)(q2:(x.e.length:Int)<x.z) :
  Gxx 28 [.agg (tpF x),.agg [vs k,vi w]] (.tup [.agg [vi x.z,vi (aO x.t w).1,.sl (.own 0 119) 3 (ev (srt bfE (kJ x k w).1)),vb (x.b||(aO x.t w).2||(kJ x k w).2)],vi 0]):=by
 have h1:=Jt x hx (by have:=(kK c1).2.2.1;have:=(kK c1).1;omega)
 have h2:=bz k w
 rw[c1] at h1
 rw[c2] at h2
 obtain⟨i1,i2,i3,i4⟩:=kK c1
 obtain⟨j1,j2⟩:=fU c2
 have hw:W64 w:=by unfold W64;omega
 have hwt:W64 x.t:=by unfold W64;omega
 have hkL:=Gl x (by omega)
 have hel:=aG x.e
 have hpf:=Zo c1 k w j1.1
 have hpl:=abU c1 k w
 have hpb:=ajD c1 k w j1
 have hpd:=abV c1 k w
 have hpo:=abW hx k ho w
 have hpe:prE x k w=x.e++[(k,w,0)]:=by unfold prE;rw[if_neg q1,if_pos q2]
 have ei:(kJ x k w).2=false:=by unfold kJ;rw[if_neg q1,if_pos q2]
 rw[ei,←hpf]
 have hes:=mr x.e k w 0
 rw[←hpe] at hes
 have hE2l:(prE x k w).length=x.e.length+1:=by rw[hpe];simp
 generalize prE x k w=E2 at *
 have hif:=fun (e:Nat→V) (bx:Bxx) (n:Nat) (h:Nat→V) (tg:Tag) (hb:bx 1=some (45,[vs k,vi w])) (hbn:1<n)=>GN e bx n h 1 k w x.e tg hx ho (by omega) hb hbn
 have hq:(bi x.e k≥0)=False:=eq_false q1
 generalize hfi:bi x.e k=fi at *
 have hzt:=fun (e:Nat→V) (bx:Bxx) (n:Nat) (h:Nat→V) (en:V) (hb:bx 0=some (34,[vi x.z,vi x.t,en,vb x.b]))=>JP e bx n h 0 x.t w x.z x.t en x.b hwt hw hb
 have hst:=fun (e:Nat→V) (bx:Bxx) (n:Nat) (h:Nat→V) (id:Nat)=>CG e bx n h id E2 (by omega) hpd hpo hpb
 clear ei hpe
 obtain⟨z,t,l,b⟩:=x
 simp only at *
 have hq2:((l.length:Int)<z)=True:=eq_true q2
 cases l with
 | nil =>
  have hev0:ev []=[]:=rfl
  have hes':[V.agg [vs k,vi w,vi 0]]=ev E2:=by rw[←hes];rfl
  have hvl:(ev E2).length=1:=by rw[aG,hE2l];rfl
  have hap:∀(e2:Nat→V) (b2:Bxx) (n2:Nat) (h2:Nat→V),apK e2 b2 n2 h2 119 3 32 (.sl .nn 3 []) [V.agg [vs k,vi w,vi 0]]=some (.sl (.own n2 119) 3 (ev E2),⟨e2,b2,n2+1,h2⟩):=fun e2 b2 n2 h2=>by
   rw[←hes']
   exact Wq (e:=e2) (b:=b2) (n:=n2) (h:=h2) 119 3 32 3 _ (show Fits 1 32 by decide) Nat.one_pos
  refine gI (eu [] mix) Tryz.func28 Tryz.results28 ?_
  (repeat' (first|(simp (disch:=first|exact dqz|fail) only[pgz,simprocAttr,pgE,pgj,iC,Oo,hev0,hap,hq,hq2,qB,kR,FW])|(refine tC ?_;first|refine cU h1 ?_|refine cU h2 ?_|refine cU hkL ?_|refine dZ _ (hzt _ _ _ _ _ (by first|rfl|simp [upd])) rfl ?_|refine cY (hif _ _ _ _ _ (by first|rfl|simp [upd]) (by omega)) ?_|refine dZ _ (hst _ _ _ _ _) rfl ?_)|(refine tE ?_ ?_<;>intro hc)|refine xK ?_|fail))
  refine bZ [6] (.tup [.agg [vi z,vi (aO t w).1,.sl (.own 6 119) 3 (ev (srt bfE (nM E2))),vb (b||(aO t w).2)],vi 0]) (by simp (disch:=first|assumption|omega) only[pgr,pgo,tyf,simprocAttr,qB,kR,FW];first|rfl|skip) (by decide) (by simp only[pgo,simprocAttr]) ?_
  first|rfl|simp only[pgo,simprocAttr]|skip
 | cons y0' l' =>
  generalize hl:y0'::l'=l at *
  have hl1:0<l.length:=by rw[←hl];simp
  refine gI (eu [] mix) Tryz.func28 Tryz.results28 ?_
  (repeat' (first|(simp (disch:=first|exact dqz|fail) only[pgz,simprocAttr,pgE,pgj,iC,hel,hq,hq2,hes,qB,kR,FW])|(refine tC ?_;first|refine cU h1 ?_|refine cU h2 ?_|refine cU hkL ?_|refine dZ _ (hzt _ _ _ _ _ (by first|rfl|simp [upd])) rfl ?_|refine cY (hif _ _ _ _ _ (by first|rfl|simp [upd]) (by omega)) ?_|refine dZ _ (hst _ _ _ _ _) rfl ?_)|(refine tE ?_ ?_<;>intro hc)|refine xK ?_|fail))
  refine bZ [4] (.tup [.agg [vi z,vi (aO t w).1,.sl (.own 4 119) 3 (ev (srt bfE (nM E2))),vb (b||(aO t w).2)],vi 0]) (by simp (disch:=first|assumption|omega) only[pgr,pgo,tyf,simprocAttr,qB,kR,FW,Bool.or_false];first|rfl|skip) (by decide) (by simp only[pgo,simprocAttr]) ?_
  first|rfl|simp only[pgo,simprocAttr]|skip
theorem ako(x:Tp)(k:List Nat)(w:Int)(ho:oct k)(hx:octE x.e)(c1:vTp x=0)(c2:bT k w=0)(q1:¬0≤bi x.e k)(q2:¬(x.e.length:Int)<x.z) :
  Gxx 28 [.agg (tpF x),.agg [vs k,vi w]] (.tup [.agg [vi x.z,vi (aO x.t w).1,.sl (.own 0 119) 3 (ev (srt bfE (kJ x k w).1)),vb (x.b||(aO x.t w).2||(kJ x k w).2)],vi 0]):=by
 have h1:=Jt x hx (by have:=(kK c1).2.2.1;have:=(kK c1).1;omega)
 have h2:=bz k w
 rw[c1] at h1
 rw[c2] at h2
 obtain⟨i1,i2,i3,i4⟩:=kK c1
 obtain⟨j1,j2⟩:=fU c2
 have hw:W64 w:=by unfold W64;omega
 have hwt:W64 x.t:=by unfold W64;omega
 have hkL:=Gl x (by omega)
 have hel:=aG x.e
 have hpf:=Zo c1 k w j1.1
 have hpl:=abU c1 k w
 have hpb:=ajD c1 k w j1
 have hpd:=abV c1 k w
 have hpo:=abW hx k ho w
 have hpe:prE x k w=x.e.set (x.e.length-1) (k,(aO (fK x) w).1,fK x):=by unfold prE;rw[if_neg q1,if_neg q2]
 have ei:(kJ x k w).2=(aO (fK x) w).2:=by unfold kJ;rw[if_neg q1,if_neg q2]
 rw[ei,←hpf]
 have hes:=o6 x.e (x.e.length-1) k (aO (fK x) w).1 (fK x)
 rw[←hpe] at hes
 have hE2l:(prE x k w).length=x.e.length:=by rw[hpe,List.length_set]
 have hlw:W64 (fK x):=by
  unfold fK
  split
  ·unfold W64;omega
  ·have:=(su (i4 (x.e.length-1) (by omega))).2.1
   unfold W64;omega
 generalize prE x k w=E2 at *
 have hif:=fun (e:Nat→V) (bx:Bxx) (n:Nat) (h:Nat→V) (tg:Tag) (hb:bx 1=some (45,[vs k,vi w])) (hbn:1<n)=>GN e bx n h 1 k w x.e tg hx ho (by omega) hb hbn
 have hq:(bi x.e k≥0)=False:=eq_false q1
 generalize hfi:bi x.e k=fi at *
 have hzt:=fun (e:Nat→V) (bx:Bxx) (n:Nat) (h:Nat→V) (en:V) (hb:bx 0=some (34,[vi x.z,vi x.t,en,vb x.b]))=>JP e bx n h 0 x.t w x.z x.t en x.b hwt hw hb
 have hzl:=fun (e:Nat→V) (bx:Bxx) (n:Nat) (h:Nat→V) (t':Int) (en:V) (sa:Bool) (hb:bx 0=some (34,[vi x.z,vi t',en,vb sa]))=>JP e bx n h 0 (fK x) w x.z t' en sa hlw hw hb
 have hst:=fun (e:Nat→V) (bx:Bxx) (n:Nat) (h:Nat→V) (id:Nat)=>CG e bx n h id E2 (by omega) hpd hpo hpb
 clear ei hpe
 generalize fK x=ls at *
 obtain⟨z,t,l,b⟩:=x
 simp only at *
 have hq2:((l.length:Int)<z)=False:=eq_false q2
 have hzz:z=(l.length:Int):=by omega
 subst hzz
 have hl1:0<l.length:=by omega
 have hto:((l.length:Int)-1).toNat=l.length-1:=by omega
 have hix:(l.length-1<l.length)=True:=eq_true (by omega)
 have hgl:=eY l (l.length-1) (by omega)
 refine gI (eu [] mix) Tryz.func28 Tryz.results28 ?_
 (repeat' (first|(simp (disch:=first|exact dqz|fail) only[pgz,simprocAttr,pgE,pgj,iC,hel,hq,hq2,hes,qB,kR,FW])|(refine tC ?_;first|refine cU h1 ?_|refine cU h2 ?_|refine cU hkL ?_|refine dZ _ (hzt _ _ _ _ _ (by first|rfl|simp [upd])) rfl ?_|refine cY (hif _ _ _ _ _ (by first|rfl|simp [upd]) (by omega)) ?_)|(refine tE ?_ ?_<;>intro hc)|refine xK ?_|fail))
 have hnd:([39,40,41,42,43,44,45,46,47,48,49,50,51]:List Nat).Nodup:=by decide
 refine Pv mix 13 [(39,.ref 0 2),(40,.sl (.own 4 119) 3 (ev l)),(41,.ref 0 0),(42,vi l.length),(43,vi ((l.length:Int)-1)),(44,.ref 1 0),(45,vs k),(46,vi ls),(47,.ref 1 1),(48,vi w),(49,vi (aO ls w).1),(50,vi ls),(51,.agg [vs k,vi (aO ls w).1,vi ls])] 10 0 (34,[vi l.length,vi (aO t w).1,.sl (.own 4 119) 3 (ev l),vb (b||(aO t w).2||(aO ls w).2)]) (by decide) (by decide) (by decide) ?_ ?_
 ·intro S i o ho hi hS he
  rcases (by omega:i=0∨i=1∨i=2∨i=3∨i=4∨i=5∨i=6∨i=7∨i=8∨i=9∨i=10∨i=11∨i=12) with rfl|rfl|rfl|rfl|rfl|rfl|rfl|rfl|rfl|rfl|rfl|rfl|rfl
  all_goals (simp only[List.getElem?_cons_zero,List.getElem?_cons_succ,Option.some.injEq] at ho;subst ho)
  ·(repeat' (first|(simp (disch:=first|exact dqz|fail) only[pgz,simprocAttr,hS,hel,aC,aQ])|(refine tS ?_ ?_<;>intro hc)|(with_reducible refine cK ?_)))
   exact bI 0 rfl hnd (by rw[bV (by decide)]) rfl
  ·have s0:=he 0 (by decide)
   cases h11:S 10
   ·(repeat' (first|(simp (disch:=first|exact dqz|fail) only[pgz,simprocAttr,hS,s0,h11,aC,aQ])|(refine tS ?_ ?_<;>intro hc)|(with_reducible refine cK ?_)))
    exact bI 1 rfl hnd (by rw[bV (by decide)];simp only[h11];rfl) rfl
   ·(repeat' (first|(simp (disch:=first|exact dqz|fail) only[pgz,simprocAttr,hS,s0,h11,aC,aQ])|(refine tS ?_ ?_<;>intro hc)|(with_reducible refine cK ?_)))
    exact bI 1 rfl hnd (by rw[bV (by decide)];simp only[h11];rfl) rfl
  ·(repeat' (first|(simp (disch:=first|exact dqz|fail) only[pgz,simprocAttr,hS,hel,aC,aQ])|(refine tS ?_ ?_<;>intro hc)|(with_reducible refine cK ?_)))
   exact bI 2 rfl hnd (by rw[bV (by decide)]) rfl
  ·have s2:=he 2 (by decide)
   cases h11:S 10
   ·(repeat' (first|(simp (disch:=first|exact dqz|fail) only[pgz,simprocAttr,hS,s2,h11,aC,aQ])|(refine tS ?_ ?_<;>intro hc)|(with_reducible refine cK ?_)))
    exact bI 3 rfl hnd (by rw[bV (by decide)];simp only[h11];rfl) rfl
   ·(repeat' (first|(simp (disch:=first|exact dqz|fail) only[pgz,simprocAttr,hS,s2,h11,aC,aQ])|(refine tS ?_ ?_<;>intro hc)|(with_reducible refine cK ?_)))
    exact bI 3 rfl hnd (by rw[bV (by decide)];simp only[h11];rfl) rfl
  ·have s3:=he 3 (by decide)
   (repeat' (first|(simp (disch:=first|exact dqz|fail) only[pgz,simprocAttr,hS,s3,hel,aC,aQ])|(refine tS ?_ ?_<;>intro hc)|(with_reducible refine cK ?_)))
   exact bI 4 rfl hnd (by rw[bV (by decide)]) rfl
  ·(repeat' (first|(simp (disch:=first|exact dqz|fail) only[pgz,simprocAttr,hS,hel,aC,aQ])|(refine tS ?_ ?_<;>intro hc)|(with_reducible refine cK ?_)))
   exact bI 5 rfl hnd (by rw[bV (by decide)]) rfl
  ·have s5:=he 5 (by decide)
   cases h11:S 10
   ·(repeat' (first|(simp (disch:=first|exact dqz|fail) only[pgz,simprocAttr,hS,s5,h11,aC,aQ])|(refine tS ?_ ?_<;>intro hc)|(with_reducible refine cK ?_)))
    exact bI 6 rfl hnd (by rw[bV (by decide)];simp only[h11];rfl) rfl
   ·(repeat' (first|(simp (disch:=first|exact dqz|fail) only[pgz,simprocAttr,hS,s5,h11,aC,aQ])|(refine tS ?_ ?_<;>intro hc)|(with_reducible refine cK ?_)))
    exact bI 6 rfl hnd (by rw[bV (by decide)];simp only[h11];rfl) rfl
  ·(repeat' (first|(simp (disch:=first|exact dqz|fail) only[pgz,simprocAttr,hS,hel,aC,aQ])|(refine tS ?_ ?_<;>intro hc)|(with_reducible refine cK ?_)))
   exact bI 7 rfl hnd (by rw[bV (by decide)]) rfl
  ·(repeat' (first|(simp (disch:=first|exact dqz|fail) only[pgz,simprocAttr,hS,hel,aC,aQ])|(refine tS ?_ ?_<;>intro hc)|(with_reducible refine cK ?_)))
   exact bI 8 rfl hnd (by rw[bV (by decide)]) rfl
  ·have s8:=he 8 (by decide)
   cases h11:S 10
   ·(repeat' (first|(simp (disch:=first|exact dqz|fail) only[pgz,simprocAttr,hS,s8,h11,aC,aQ])|(refine tS ?_ ?_<;>intro hc)|(with_reducible refine cK ?_)))
    exact bI 9 rfl hnd (by rw[bV (by decide)];simp only[h11];rfl) rfl
   ·(repeat' (first|(simp (disch:=first|exact dqz|fail) only[pgz,simprocAttr,hS,s8,h11,aC,aQ])|(refine tS ?_ ?_<;>intro hc)|(with_reducible refine cK ?_)))
    exact bI 9 rfl hnd (by rw[bV (by decide)];simp only[h11];rfl) rfl
  ·have s7:=he 7 (by decide)
   have s9:=he 9 (by decide)
   (repeat' (first|(simp (disch:=first|exact dqz|fail) only[pgz,simprocAttr,hS,s7,s9,aC,aQ])|(refine tS ?_ ?_<;>intro hc)|(with_reducible refine cK ?_)))
   (try simp only[hS,Bool.false_eq_true,if_false])
   refine cZ (hzl _ _ _ _ (aO t w).1 (.sl (.own 4 119) 3 (ev l)) (b||(aO t w).2) (by first|rfl|simp [upd])) ?_ (by simp only[List.map_cons,List.map_nil,pgo,simprocAttr,s7,s9,aC,aQ])
   refine bI (T:=[(39,.ref 0 2),(40,.sl (.own 4 119) 3 (ev l)),(41,.ref 0 0),(42,vi l.length),(43,vi ((l.length:Int)-1)),(44,.ref 1 0),(45,vs k),(46,vi ls),(47,.ref 1 1),(48,vi w),(49,vi (aO ls w).1),(50,vi ls),(51,.agg [vs k,vi (aO ls w).1,vi ls])]) 10 rfl hnd ?_ rfl
   simp only[Ad,if_true]
  ·(repeat' (first|(simp (disch:=first|exact dqz|fail) only[pgz,simprocAttr,hS,hel,aC,aQ])|(refine tS ?_ ?_<;>intro hc)|(with_reducible refine cK ?_)))
   exact bI 11 rfl hnd (by rw[bV (by decide)]) rfl
  ·have s6:=he 6 (by decide)
   have s10:=he 10 (by decide)
   have s11:=he 11 (by decide)
   (repeat' (first|(simp (disch:=first|exact dqz|fail) only[pgz,simprocAttr,hS,s6,s10,s11,hel,aC,aQ])|(refine tS ?_ ?_<;>intro hc)|(with_reducible refine cK ?_)))
   exact bI 12 rfl hnd (by rw[bV (by decide)];simp only[s10];rfl) rfl
 ·intro S hall
  have s0:=hall 0 (by decide) (by decide)
  have s1:=hall 1 (by decide) (by decide)
  have s2:=hall 2 (by decide) (by decide)
  have s3:=hall 3 (by decide) (by decide)
  have s4:=hall 4 (by decide) (by decide)
  have s5:=hall 5 (by decide) (by decide)
  have s6:=hall 6 (by decide) (by decide)
  have s7:=hall 7 (by decide) (by decide)
  have s8:=hall 8 (by decide) (by decide)
  have s9:=hall 9 (by decide) (by decide)
  have s10:=hall 10 (by decide) (by decide)
  have s11:=hall 11 (by decide) (by decide)
  have s12:=hall 12 (by decide) (by decide)
  simp only[List.drop_succ_cons,List.drop_zero,List.map_cons,List.map_nil]
  (repeat' (first|(simp (disch:=first|exact dqz|fail) only[pgz,simprocAttr,s0,s1,s2,s3,s4,s5,s6,s7,s8,s9,s10,s11,s12,aC,aQ,pgE,pgj,iC,hel,hto,hix,hgl,hes,qB,kR,FW])|(refine tC ?_;refine dZ _ (hst _ _ _ _ _) rfl ?_)|(refine tE ?_ ?_<;>intro hc)|refine xK ?_|fail))
  refine bZ [4] (.tup [.agg [vi l.length,vi (aO t w).1,.sl (.own 4 119) 3 (ev (srt bfE (nM E2))),vb (b||(aO t w).2||(aO ls w).2)],vi 0]) (by simp (disch:=first|assumption|omega) only[pgr,pgo,tyf,simprocAttr,aC,aQ,qB,kR,FW];first|rfl|skip) (by decide) (by simp only[pgo,simprocAttr]) ?_
  first|rfl|simp only[pgo,simprocAttr]|skip
theorem akP(x:Tp)(k:List Nat)(w:Int)(ho:oct k)(hx:octE x.e)(hn:x.e.length≤1000000):Gxx 28 [.agg (tpF x),.agg [vs k,vi w]] (.tup [.agg (tpF (oz x k w).1),vi (oz x k w).2]):=by
 have h1:=Jt x hx hn
 have h2:=bz k w
 unfold oz
 by_cases c1:vTp x=0
 ·rw[if_neg (by omega)]
  by_cases c2:bT k w=0
  ·rw[if_neg (by omega)]
   refine Good.fzt (vs:=[.agg [vi x.z,vi (aO x.t w).1,.sl (.own 0 119) 3 (ev (srt bfE (kJ x k w).1)),vb (x.b||(aO x.t w).2||(kJ x k w).2)],vi 0]) ?_ rfl ⟨aH _,aH _,trivial⟩
   by_cases q1:0≤bi x.e k
   ·exact akm x k w ho hx c1 c2 q1
   ·by_cases q2:(x.e.length:Int)<x.z
    ·exact akn x k w ho hx c1 c2 q1 q2
    ·exact ako x k w ho hx c1 c2 q1 q2
  ·rw[if_pos (by omega)]
   rw[c1] at h1
   refine Good.fzt (vs:=[.agg [vi 0,vi 0,nls,vb false],vi (bT k w)]) ?_ rfl ⟨FK,aH _,trivial⟩
   obtain⟨z,t,l,b⟩:=x
   have c2':(bT k w=0)=False:=eq_false c2
   refine gI (eu [] mix) Tryz.func28 Tryz.results28 ?_
   (repeat' (first|(simp (disch:=first|exact dqz|fail) only[pgz,simprocAttr,pgE,pgj,iC,c2'])|(refine tC ?_;first|refine cU h1 ?_|refine cU h2 ?_)|(refine tE ?_ ?_<;>intro hc)|refine xK ?_|fail))
   (refine rT [] ?_;first|rfl|simp only[pgo,simprocAttr]|skip)
 ·rw[if_pos (by omega)]
  refine Good.fzt (vs:=[.agg [vi 0,vi 0,nls,vb false],vi (vTp x)]) ?_ rfl ⟨FK,aH _,trivial⟩
  obtain⟨z,t,l,b⟩:=x
  have c1':(vTp ⟨z,t,l,b⟩=0)=False:=eq_false c1
  refine gI (eu [] mix) Tryz.func28 Tryz.results28 ?_
  (repeat' (first|(simp (disch:=first|exact dqz|fail) only[pgz,simprocAttr,pgE,pgj,iC,c1'])|(refine tC ?_;refine cU h1 ?_)|(refine tE ?_ ?_<;>intro hc)|refine xK ?_|fail))
  (refine rT [] ?_;first|rfl|simp only[pgo,simprocAttr]|skip)
end Go.Proofs.YtiohdbjggmmjcaaGreat
