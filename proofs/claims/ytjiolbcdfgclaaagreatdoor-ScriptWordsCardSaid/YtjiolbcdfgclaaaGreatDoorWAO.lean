/-
  Texts of this claim, merged; own names are short.
-/
import Derived.Test.YtjiolbcdfgclaaaGreatDoorWAN
import Derived.Test.YtjiolbcdfgclaaaGreatDoorWAI
import Derived.Test.YtjiolbcdfgclaaaGreatDoorWAM
set_option linter.unusedVariables false
set_option linter.unusedSimpArgs false
set_option linter.unusedSectionVars false
set_option linter.defProp false
set_option maxRecDepth 100000
set_option maxHeartbeats 8000000
namespace Go.Proofs.YtjiolbcdfgclaaaGreatDoor
open Go Go.Pg
def aH:List (List Nat):=[[],[99,114,101,97,116,101],[100,114,111,112],[114,101,110,97,109,101],[108,105,115,116],[113,117,101,114,121],[105,110,115,101,114,116],[109,101,114,103,101],[99,111,109,112,97,114,101],[111,112,101,110],[114,101,97,100],[99,108,111,115,101],[99,117,114,115,111,114],[110,101,120,116],[101,110,100],[101,120,112,111,114,116],[105,109,112,111,114,116],[99,111,108,108,101,99,116]]
def kN:List (List Nat):=[[],[116,97,108,108,121],[99,111,117,110,116,109,105,110],[108,111,103,108,111,103],[116,111,112],[102,114,101,113,117,101,110,116],[114,97,110,107,115]]
def gu:List (List Nat):=[[],[116,111,116,97,108],[112,111,105,110,116],[114,101,103,105,115,116,101,114,115],[100,105,115,116,105,110,99,116],[116,111,112],[114,97,110,107],[113,117,97,110,116,105,108,101]]
def yM:List (List Nat):=[[],[99,97,108,108],[112,105,99,107],[99,97,110,99,101,108]]
theorem aaG(e:Nat→V)(b:Nat→Option (TypeId × List V))(n:Nat)(h:Nat→V):bV Tryz.prog ⟨e,b,n,h⟩ 23 18 [(0,V.c (.string ⟨#[]⟩)),(1,V.c (.string ⟨#[99,114,101,97,116,101]⟩)),(2,V.c (.string ⟨#[100,114,111,112]⟩)),(3,V.c (.string ⟨#[114,101,110,97,109,101]⟩)),(4,V.c (.string ⟨#[108,105,115,116]⟩)),(5,V.c (.string ⟨#[113,117,101,114,121]⟩)),(6,V.c (.string ⟨#[105,110,115,101,114,116]⟩)),(7,V.c (.string ⟨#[109,101,114,103,101]⟩)),(8,V.c (.string ⟨#[99,111,109,112,97,114,101]⟩)),(9,V.c (.string ⟨#[111,112,101,110]⟩)),(10,V.c (.string ⟨#[114,101,97,100]⟩)),(11,V.c (.string ⟨#[99,108,111,115,101]⟩)),(12,V.c (.string ⟨#[99,117,114,115,111,114]⟩)),(13,V.c (.string ⟨#[110,101,120,116]⟩)),(14,V.c (.string ⟨#[101,110,100]⟩)),(15,V.c (.string ⟨#[101,120,112,111,114,116]⟩)),(16,V.c (.string ⟨#[105,109,112,111,114,116]⟩)),(17,V.c (.string ⟨#[99,111,108,108,101,99,116]⟩))]=some (.sl (.own n 9) 1 (sv aH),⟨e,b,n+1,h⟩):=by
 rw[eG,qQ,Option.bind_some,x8,Option.bind_some,xZ,Option.bind_some]
 rfl
theorem aN:Gxx 39 [] (.sl (.own 0 9) 1 (sv aH)):=by
 refine gI oW Tryz.func39 Tryz.results39 ?_
 exact wR' @aaG trivial (ids [0])
theorem aaH(e:Nat→V)(b:Nat→Option (TypeId × List V))(n:Nat)(h:Nat→V):bV Tryz.prog ⟨e,b,n,h⟩ 23 7 [(0,V.c (.string ⟨#[]⟩)),(1,V.c (.string ⟨#[116,97,108,108,121]⟩)),(2,V.c (.string ⟨#[99,111,117,110,116,109,105,110]⟩)),(3,V.c (.string ⟨#[108,111,103,108,111,103]⟩)),(4,V.c (.string ⟨#[116,111,112]⟩)),(5,V.c (.string ⟨#[102,114,101,113,117,101,110,116]⟩)),(6,V.c (.string ⟨#[114,97,110,107,115]⟩))]=some (.sl (.own n 9) 1 (sv kN),⟨e,b,n+1,h⟩):=by
 rw[eG,qQ,Option.bind_some,x8,Option.bind_some,xZ,Option.bind_some]
 rfl
theorem lG:Gxx 76 [] (.sl (.own 0 9) 1 (sv kN)):=by
 refine gI oW Tryz.func76 Tryz.results76 ?_
 exact wR' @aaH trivial (ids [0])
theorem Po(e:Nat→V)(b:Nat→Option (TypeId × List V))(n:Nat)(h:Nat→V):bV Tryz.prog ⟨e,b,n,h⟩ 23 8 [(0,V.c (.string ⟨#[]⟩)),(1,V.c (.string ⟨#[116,111,116,97,108]⟩)),(2,V.c (.string ⟨#[112,111,105,110,116]⟩)),(3,V.c (.string ⟨#[114,101,103,105,115,116,101,114,115]⟩)),(4,V.c (.string ⟨#[100,105,115,116,105,110,99,116]⟩)),(5,V.c (.string ⟨#[116,111,112]⟩)),(6,V.c (.string ⟨#[114,97,110,107]⟩)),(7,V.c (.string ⟨#[113,117,97,110,116,105,108,101]⟩))]=some (.sl (.own n 9) 1 (sv gu),⟨e,b,n+1,h⟩):=by
 rw[eG,qQ,Option.bind_some,x8,Option.bind_some,xZ,Option.bind_some]
 rfl
theorem iH:Gxx 78 [] (.sl (.own 0 9) 1 (sv gu)):=by
 refine gI oW Tryz.func78 Tryz.results78 ?_
 exact wR' @Po trivial (ids [0])
theorem yN:Gxx 61 [] (.sl (.own 0 9) 1 (sv yM)):=by
 refine gI oW Tryz.func61 Tryz.results61 ?_
 exact wR trivial trivial (ids [0])
def kw(l:List Nat):List Nat:=if (fk l).2=0 then (fk l).1 else [45]
theorem uS(l:List Nat)(ho:oct l):Gxx 45 [vs l] (vs (kw l)):=by
 have h:=aan l ho
 unfold fkV at h
 unfold kw
 refine gI oW Tryz.func45 Tryz.results45 ?_
 by_cases h0:(fk l).2=0
 ·rw[h0] at h
  rw[if_pos h0]
  exact wR trivial h ah
 ·have h1:((fk l).2:Int)≠0:=by omega
  rw[if_neg h0]
  exact wR @k45 h ah
theorem dQ(e:Nat→V)(bx:Nat→Option (TypeId × List V))(n:Nat)(h:Nat→V)(b id:Nat)(tg:Tag)(xs ys:List (List Nat))(hb:bx b=some (23,[.sl (.own id 9) 1 (sv xs)]))(hl:xs.length+ys.length≤1000000)(ht:Tag.is id tg=false) :
  Gxz 40 [.sl tg 1 (sv ys),.ref b 0] ⟨e,bx,n,h⟩ ⟨lX (aJ id) e,upd (sH (aJ id) bx) b (some (23,[.sl (.own id 9) 1 (sv (xs++ys))])),max n (id+1),lX (aJ id) h⟩ (.tup []):=by
 have hx:=au xs
 have hy:=au ys
 refine gZ oW Tryz.func40 Tryz.results40 ?_
 refine wS (aI @iQ (aI @dm (aI @bI (aI @hb @Oa)))) trivial ?_
 refine lh (vN _ _) ?_
 rw[Ir,Iu,dJ,dK]
def lL:List (List Nat × Int)→List (List Nat)
 | []=>[]
 | x::l=>kw x.1::ak x.2::lL l
theorem aaI(a b:List (List Nat × Int)):lL (a++b)=lL a++lL b:=by
 induction a with
 | nil=>rfl
 | cons x a ih=>simp only[List.cons_append,lL,ih]
theorem Gl(l:List (List Nat × Int))(i:Nat)(x:List Nat × Int)(hx:l[i]?=some x):lL (l.take (i+1))=lL (l.take i)++[kw x.1,ak x.2]:=by
 have hi:=(List.getElem?_eq_some_iff.1 hx).1
 rw[List.take_succ_eq_append_getElem hi,aaI,(List.getElem?_eq_some_iff.1 hx).2]
 rfl
theorem yO(l:List (List Nat × Int)):(lL l).length=2*l.length:=by
 induction l with
 | nil=>rfl
 | cons x l ih=>simp only[lL,List.length_cons,ih];omega
def qU(o:O):List (List Nat):=[[105,110,115,101,114,116],o.name,fb o.coins]++lL o.items
theorem zZ(l:List Nat):(kw l).length≤65:=by
 unfold kw
 split
 ·exact ajm l
 ·simp
theorem uT(l:List Nat):(fb l).length≤2*l.length+1:=by
 unfold fb
 split
 ·simp
 ·rw[lq];omega
def Wt(n:Int):Prop := -9223372036854775808≤n∧n≤9223372036854775807
theorem yQ(l:List (List Nat × Int))(hw:∀x∈l,Wt x.2):tot (lL l)≤l.length*100:=by
 induction l with
 | nil=>simp [lL,dL]
 | cons x l ih =>
  have h1:=zZ x.1
  have h2:=vX x.2 (hw x (by simp)).1 (hw x (by simp)).2
  have h3:=ih fun y hy=>hw y (by simp [hy])
  simp only[lL,bz,List.length_cons]
  omega
theorem KZ:(sv aH)[6]?=some (.c (.string (sB [105,110,115,101,114,116]))):=rfl
theorem k32:(⟨#[32]⟩:ByteArray)=sB [32]:=rfl
theorem La(o:O)(ho:o.Oct)(hk:o.kind=6)(hv:vop o=0)(hc:o.coins.length≤1000)(hn:o.name.length≤1000)(hi:o.items.length≤1000)(hw:∀x∈o.items,Wt x.2) :
  Gxx 13 [.agg (opF o)] (.tup [vs (jn (qU o)),vi 0]):=by
 have h1:=dH o ho
 rw[hv] at h1
 have hfb:=nM o.coins ho.2.2.2.2.1 (by omega)
 have hoi:=ho.2.2.2.1
 have htot:=yQ o.items hw
 have hfl:=uT o.coins
 have hjl:(jn (qU o)).length≤1000000:=by
  have h2:=xg (qU o)
  have h3:tot (qU o)=6+1+(o.name.length+1+((fb o.coins).length+1+tot (lL o.items))):=by simp [qU,bz]
  omega
 have hnl:(qU o).length≤1000000:=by
  have h2:(qU o).length=(lL o.items).length+3:=by simp [qU]
  have h3:=yO o.items
  omega
 have hjo:=kK (qU o) (by omega) (by omega)
 unfold qU at hjo
 unfold qU
 obtain⟨kind,name,other,names,pk,pz,pd,ps,items,coins,exp,src,hnd,idx,cur,cnt,qk,qkey,qc,qn,qd,data⟩:=o
 simp only at hk hv hc hn hi hw hfb hoi hjo ⊢
 subst hk
 refine gI oD Tryz.func13 Tryz.results13 ?_
 have hsl:(sv aH).length=18:=rfl
 clear htot hfl hjl hnl
 have hil:=aB items
 (repeat' first|refine wPA (aI @KZ (aI @ai (aI @au (aI @aB (aI @List.append_eq.{0} (aI @List.cons_append.{0} (aI @List.nil_append.{0} (aI @List.length_cons.{0} @List.length_nil.{0})))))))) (aI h1 (aI aN hfb)) ?_|refine cY (dQ _ _ _ _ _ _ _ [_] [_,_] rfl (by simp) rfl) ?_|refine cAZ (dQ _ _ _ _ _ _ _ [_] [_,_] rfl (by simp) rfl) ?_|refine tS ?_ ?_<;>intro hc|fail)
 generalize hpre:([[105,110,115,101,114,116],name,fb coins]:List (List Nat))=pre at hjo ⊢
 have hpl:pre.length=3:=by rw[←hpre];rfl
 refine aK (fun i:Nat=>mkA [(1,.ref 0 0),(5,.ref 1 0),(6,.fn 40 [] [.ref 1 0]),(7,.fn 41 [] []),(75,fzt items),(76,vi items.length),(77,vi i)] [(0,(32,opF ⟨6,name,other,names,pk,pz,pd,ps,items,coins,exp,src,hnd,idx,cur,cnt,qk,qkey,qc,qn,qd,data⟩)),(1,(23,[.sl (.own 0 9) 1 (sv (pre++lL (items.take i)))]))] 2 (fun _ => .top)) (fun i=>i≤items.length) (fun i=>items.length-i) 0 [6] [0,7] ?_ (Nat.zero_le _) ?_
 ·(refine iy ?_ ?_ (kD _ _ _) (by decide) (by decide) (by decide) (by decide);(repeat' (first|exact trivial|refine gJ _ _ rfl rfl ?_ ?_));all_goals (try simp only[pgs,pgl,pgx,pgf,pgw,fQ,ig,fU,iq,dB,eY,fJ,pgn,simprocAttr]);all_goals (try (repeat' (first|apply aI)));all_goals (try (first|exact trivial|exact gB (by omega)|exact gq rfl|exact aW rfl rfl|exact je rfl)))
  all_goals first|exact GI rfl rfl|(exact aW rfl (by rw[←hpre];rfl))
 ·intro i hi
  replace hi:i≤items.length:=hi
  rcases Nat.lt_or_ge i items.length with hlt|hge
  ·have hg:=sS items i hlt
   have hx:=getD_some items i ([],0) hlt
   have hmem:items.getD i ([],0)∈items:=by rw[List.getD_eq_getElem?_getD,List.getElem?_eq_getElem hlt];exact List.getElem_mem hlt
   have ho1:=hoi _ hmem
   have hw1:=hw _ hmem
   have hnx:=Gl items i _ hx
   have hln:(lL (items.take i)).length=2*(items.take i).length:=yO _
   have hlt2:(items.take i).length≤i:=by simp;omega
   generalize items.getD i ([],0)=x at hg hx hmem ho1 hw1 hnx
   obtain⟨k,n⟩:=x
   simp only at ho1 hw1 hnx
   (repeat' (first|(simp (disch:=first|exact dqz|fail) only[pgz,simprocAttr,pga,hg,ai,au,aB])|((with_reducible show gU _ _ _ _ _ _);first|refine aP _ (uS k ho1) rfl rfl rfl rfl ?_|refine aP _ (jv n hw1.1 hw1.2) rfl rfl rfl rfl ?_|refine yg _ (dQ _ _ _ _ _ 0 _ _ [_,_] rfl (by simp only[List.length_append,List.length_cons,List.length_nil];omega) rfl) rfl ?_)|((with_reducible show nz _ _ _ _ _ _ _);first|refine dZ _ (uS k ho1) rfl rfl rfl rfl rfl (Nat.le_of_ble_eq_true rfl) ?_|refine dZ _ (jv n hw1.1 hw1.2) rfl rfl rfl rfl rfl (Nat.le_of_ble_eq_true rfl) ?_|refine oO _ (dQ _ _ _ _ _ 0 _ _ [_,_] rfl (by simp only[List.length_append,List.length_cons,List.length_nil];omega) rfl) rfl ?_)|((with_reducible first|apply di|apply bK|apply dw)<;>intro hc<;>(try simp only[hc])<;>(try simp only[pgd] at hc))|(with_reducible refine vP (by kernel_rfl) ?_)|((with_reducible show sN _ _ _ _ _);first|refine oP (by decide +kernel) ?_|refine oQ (by decide +kernel) ?_)|(with_reducible refine cK ?_)))
   (refine bC (i+1) [0] [0,1] (hlt) (by first|omega|(simp only[List.length_cons];omega)) ?_;(refine iy ?_ ?_ (kD _ _ _) (by decide) (by decide) (by decide) (by decide);(repeat' (first|exact trivial|refine gJ _ _ rfl rfl ?_ ?_));all_goals (try simp only[pgs,pgl,pgx,pgf,pgw,fQ,ig,fU,iq,dB,eY,fJ,pgn,simprocAttr]);all_goals (try (repeat' (first|apply aI)));all_goals (try (first|exact trivial|exact gB (by omega)|exact gq rfl|exact aW rfl rfl|exact je rfl))))
   all_goals first|exact GI rfl rfl|(exact aW rfl (by rw[hnx,List.append_assoc]))
  ·have:i=items.length:=by omega
   subst this
   rw[List.take_length]
   refine wSA (aI @aB @k32) hjo ?_
   (refine rT [] ?_;first|rfl|simp only[pgo,simprocAttr]|skip)
   rw[←hpre];rfl
abbrev rdC(l:List (List Nat))(bad:Bool):List V:=[fzs l,vb bad]
theorem ajq(w:List Nat)(l:List (List Nat)):slV Tryz.prog 23 (fzs (w::l)) (some (vi 1)) none=some (fzs l):=by
 rw[Dk]
 simp only[bdV,Option.bind_some,qQ,ak8]
 rw[if_pos ⟨trivial,by omega,by rw[au];simp;omega,by omega⟩]
 simp [sv]
 exact List.take_of_length_le (by simp)
theorem vY(e:Nat→V)(bx:Nat→Option (TypeId × List V))(n:Nat)(h:Nat→V)(b:Nat)(w:List Nat)(l:List (List Nat))(bad:Bool)(hb:bx b=some (108,rdC (w::l) bad))(hl:l.length≤1000000000) :
  Gxz 93 [.ref b 0] ⟨e,bx,n,h⟩ ⟨e,upd bx b (some (108,rdC l bad)),n,h⟩ (vs w):=by
 have hx:(sv (w::l)).length=l.length+1:=au _
 have hg:(sv (w::l))[0]?=some (vs w):=rfl
 refine gZ oW Tryz.func93 Tryz.results93 ?_
 refine wS (aI @iQ (aI @dm (aI @bI (aI @hb (aI @hx (aI @hg @ajq)))))) trivial ?_
 refine lh (aG _ _ _) ?_
 rw[dJ,dK]
theorem afn(e:Nat→V)(bx:Nat→Option (TypeId × List V))(n:Nat)(h:Nat→V)(b:Nat)(bad:Bool)(hb:bx b=some (108,rdC [] bad)) :
  Gxz 93 [.ref b 0] ⟨e,bx,n,h⟩ ⟨e,upd bx b (some (108,rdC [] true)),n,h⟩ (vs []):=by
 have hx:(sv []).length=0:=au _
 refine gZ oW Tryz.func93 Tryz.results93 ?_
 refine wS (aI @iQ (aI @dm (aI @bI (aI @hb (aI @hx @ai))))) trivial ?_
 refine lh (aG _ _ _) ?_
 rw[dJ,dK]
theorem Aa(e:Nat→V)(bx:Nat→Option (TypeId × List V))(n:Nat)(h:Nat→V)(b:Nat)(w:List Nat)(l:List (List Nat))(hb:bx b=some (108,rdC (w::l) false))(hl:l.length≤1000000000)(ho:oct w)(hw:w.length≤1000000)(hp:(aZ w).2=0) :
  Gxz 98 [.ref b 0] ⟨e,bx,n,h⟩ ⟨e,upd bx b (some (108,rdC l false)),n,h⟩ (vi (aZ w).1):=by
 have hn:=aaf w ho (by omega)
 unfold Ry at hn
 rw[hp] at hn
 refine gZ oW Tryz.func98 Tryz.results98 ?_
 (repeat' first|refine wP (aI @iQ (aI @dm (aI @bI @hb))) hn ?_|refine cZ (vY _ _ _ _ b w l false hb hl) ?_|refine tS ?_ ?_<;>intro hc|fail)
 refine lh (aG _ _ _) ?_
 rw[dJ,dK,jG]
theorem jI(l:List Nat)(h:(l.all fun b=>decide (b<256))=true):oct l:=fun b hb=>by simpa using List.all_eq_true.1 h b hb
theorem ajr{a c:List Nat}(ha:oct a)(hc:oct c)(h:a≠c):decide (sB a=sB c)=false:=by rw[sJ ha hc];exact decide_eq_false h
theorem DY(a:ByteArray):decide (a=a)=true:=decide_eq_true rfl
theorem yR(e:Nat→V)(bx:Nat→Option (TypeId × List V))(n:Nat)(h:Nat→V)(b:Nat)(w:List Nat)(l:List (List Nat))(tg:Tag)(L:List (List Nat))(k:Nat)(hb:bx b=some (108,rdC (w::l) false))(hl:l.length≤1000000000)(ho:oct w)(hLo:∀x∈L,oct x)(hLl:L.length≤1000)
  (hk:1≤k∧k<L.length) (hw:L.getD k []=w) (hne:∀j,j<k→1≤j→L.getD j []≠w) :
  Gxz 92 [.ref b 0,.sl tg 1 (sv L)] ⟨e,bx,n,h⟩ ⟨e,upd bx b (some (108,rdC l false)),n,h⟩ (vi k):=by
 have hx:=au L
 refine gZ oW Tryz.func92 Tryz.results92 ?_
 (repeat' first|refine wP (aI @iQ (aI @dm (aI @bI @hb))) trivial ?_|refine cZ (vY _ _ _ _ b w l false hb hl) ?_|refine tS ?_ ?_<;>intro hc|fail)
 refine OM (fun i:Nat=>[(0,.ref b 0),(1,.sl tg 1 (sv L)),(5,vs w),(6,vi i)]) (fun _=>upd bx b (some (108,rdC l false))) (fun _=>n) (fun i=>1≤i∧i≤k) (fun i=>k-i) 1 ?_ (fun _ => .inl rfl) (Nat.le_refl _) ⟨Nat.le_refl _,hk.1⟩ ?_
 ·((try simp only[kF,lQ,lD,mf,pgo,simprocAttr,and_true,true_and]);try (repeat' (first|exact trivial|rfl|apply aI)))
 ·rintro i ⟨h1,h2⟩
  have hlt:i<L.length:=by omega
  have hg:=iK L i hlt
  have hoi:oct (L.getD i []):=hLo _ (by rw[List.getD_eq_getElem?_getD,List.getElem?_eq_getElem hlt];exact List.getElem_mem hlt)
  by_cases hik:i=k
  ·subst hik
   rw[hw] at hg
   refine wS (aI @hg (aI @hx (aI @DY @dm))) trivial ?_
   refine lh (aG _ _ _) ?_
   rw[dJ,dK]
  ·have hni:=ajr hoi ho (hne i (by omega) h1)
   generalize L.getD i []=v at hg hoi hni
   refine wS (aI @hg (aI @hx @hni)) trivial ?_
   refine Dz (i+1) ⟨by omega,by omega⟩ (by omega) ?_ (fun _ => .inl rfl) (Nat.le_refl _)
   ((try simp only[kF,lQ,lD,mf,pgo,simprocAttr,and_true,true_and]);try (repeat' (first|exact trivial|rfl|apply aI)))
theorem pw{α:Type}{n:Nat}{f g bx:Nat→Option α}(h:∀c,c<n→f c=g c)(h2:∀c,n≤c→f c=bx c):∀c,f c=g c∨f c=none∨(n≤c∧f c=bx c):=by
 intro c
 rcases Nat.lt_or_ge c n with hc|hc
 ·exact .inl (h c hc)
 ·exact .inr (.inr ⟨hc,h2 c hc⟩)
abbrev op0(k:Int):List V:=[vi k,vs [],vs [],nls,vi 0,vi 0,vi 0,vu 0,nls,nls,vi 0,vi 0,vi 0,vi 0,vi 0,vi 0,vi 0,vs [],vi 0,vi 0,vi 0,nls]
theorem Pq:∀x∈aH,oct x:=by
 intro x hx
 have:∀x∈aH,(x.all fun b=>decide (b<256))=true:=by decide
 intro b hb
 simpa using List.all_eq_true.1 (this x hx) b hb
theorem aaJ(e:Nat→V)(bx:Nat→Option (TypeId × List V))(n:Nat)(h:Nat→V)(b:Nat)(hb:bx b=some (108,rdC [[108,105,115,116]] false))(hbn:b<n) :
  Gxz 54 [.ref b 0] ⟨e,bx,n,h⟩ ⟨e,upd bx b (some (108,rdC [] false)),n+10,h⟩ (.agg (op0 4)):=by
 have hne:∀j,j<4→1≤j→aH.getD j []≠[108,105,115,116]:=by decide
 have d1:¬n=b:=by omega
 have d2:¬b=n:=by omega
 have d3:¬n=n+1+1:=by omega
 have d4:¬n+1+1=n:=by omega
 have d5:¬n+1+1=b:=by omega
 have d6:¬b=n+1+1:=by omega
 have key:∃bx' n',Gxz 54 [.ref b 0] ⟨e,bx,n,h⟩ ⟨e,bx',n',h⟩ (.agg (op0 4))∧n'≤n+10∧∀c,upd bx b (some (108,rdC [] false)) c=bx' c∨upd bx b (some (108,rdC [] false)) c=none∨(n≤c∧upd bx b (some (108,rdC [] false)) c=bx c):=by
  apply Exists.intro;apply Exists.intro
  refine⟨?_, ?_⟩
  ·refine gZ oW Tryz.func54 Tryz.results54 ?_
   (repeat' first|refine wP (aI @iQ (aI @dm (aI @bI (aI @hb (aI @ai (aI @d1 (aI @d2 (aI @d3 (aI @d4 (aI @d5 @d6)))))))))) aN ?_|refine cZ (yR _ _ _ _ b [108,105,115,116] [] _ aH 4 (by simp only[upd];rw[if_neg (by omega)];exact hb) (by simp) (jI _ rfl) Pq (by decide) (by decide) rfl hne) ?_|refine tS ?_ ?_<;>intro hc|fail)
   (refine lh (by first|exact aG _ _ _|exact jq _ _ _ _|(simp (disch:=first|assumption|omega|(simp only[Fits,maxLen,pgq] at *;omega)) only[pgr,pgo,tyf,simprocAttr,d1,d2,d3,d4,d5,d6,hb];done)|(simp (disch:=first|assumption|omega|(simp only[Fits,maxLen,pgq] at *;omega)) only[pgr,pgo,tyf,simprocAttr,d1,d2,d3,d4,d5,d6,hb];rfl)) ?_;rw[dJ,dK])
  ·refine⟨by omega, ?_⟩
   exact pw (fun c hc=>by simp only[upd];(repeat' split)<;>first|rfl|omega) (fun c hc=>by simp only[upd];rw[if_neg (by omega)])
 obtain⟨bx',n',h1,h2,h3⟩:=key
 exact h1.le h2 h3
def O0(k:Int):O:=⟨k,[],[],[],0,0,0,0,[],[],0,0,0,0,0,0,0,[],0,0,0,[]⟩
theorem ajs(k:Int):(O0 k).Oct:=⟨dV,dV,(fun _ h=>by cases h),(fun _ h=>by cases h),dV,dV,dV⟩
theorem aaK:vop (O0 4)=0:=by decide
theorem Vs:Gxx 38 [.agg (op0 4)] (vi 0):=by
 have h:=dH (O0 4) (ajs 4)
 rw[aaK] at h
 refine h.wk ⟨.inr ⟨_,_,rfl,rfl, ?_⟩,trivial⟩
 (repeat' (first|exact trivial|refine iV (.inl rfl) ?_|refine iV (oq _ _) ?_))
theorem Lc:Gxx 15 [fzs [[108,105,115,116]]] (.tup [.agg (op0 4),vi 0]):=by
 have hv:=Vs
 refine gI oW Tryz.func15 Tryz.results15 ?_
 (repeat' first|refine wP @ai hv ?_|refine cZ (aaJ _ _ _ _ 1 rfl (by omega)) ?_|refine tS ?_ ?_<;>intro hc|fail)
 exact rE []
abbrev ev1:List V:=[vi 2,vi 1]++op0 0
abbrev ev2:List V:=[vi 1,vi 0]++op0 4
theorem RF:∀x∈yM,oct x:=by
 intro x hx
 have:∀x∈yM,(x.all fun b=>decide (b<256))=true:=by decide
 intro b hb
 simpa using List.all_eq_true.1 (this x hx) b hb
theorem ajt:aZ [49]=(1,0):=by decide
theorem aju:aZ [48]=(0,0):=by decide
theorem aaL:Gxx 67 [fzs [[112,105,99,107],[49]]] (.tup [.agg ev1,vi 0]):=by
 refine gI oW Tryz.func67 Tryz.results67 ?_
 (repeat' (first|(simp (disch:=first|exact dqz|fail) only[pgz,simprocAttr,Tryz.f67,ai,ajt])|((with_reducible show gU _ _ _ _ _ _);first|refine cU yN ?_|refine nT _ (yR _ _ _ _ 1 [112,105,99,107] [[49]] _ yM 2 rfl (by simp) (jI _ rfl) RF (by decide) (by decide) rfl (by decide)) rfl ?_|refine nT _ (Aa _ _ _ _ 1 [49] [] rfl (by simp) (jI _ rfl) (by decide) rfl) rfl ?_)|((with_reducible first|apply di|apply bK|apply dw)<;>intro hc<;>(try simp only[hc])<;>(try simp only[pgd] at hc))|(with_reducible refine cK ?_)))
 (refine rT [] ?_;first|rfl|simp only[pgo,simprocAttr]|skip)
theorem aaM:Gxx 67 [fzs [[99,97,108,108],[48],[108,105,115,116]]] (.tup [.agg ev2,vi 0]):=by
 have h0:=Lc
 refine gI oW Tryz.func67 Tryz.results67 ?_
 (repeat' (first|(simp (disch:=first|exact dqz|fail) only[pgz,simprocAttr,Tryz.f67,ai,aju])|((with_reducible show gU _ _ _ _ _ _);first|refine cU yN ?_|refine cU h0 ?_|refine nT _ (yR _ _ _ _ 1 [99,97,108,108] [[48],[108,105,115,116]] _ yM 1 rfl (by simp) (jI _ rfl) RF (by decide) (by decide) rfl (by decide)) rfl ?_|refine nT _ (Aa _ _ _ _ 1 [48] [[108,105,115,116]] rfl (by simp) (jI _ rfl) (by decide) rfl) rfl ?_)|((with_reducible first|apply di|apply bK|apply dw)<;>intro hc<;>(try simp only[hc])<;>(try simp only[pgd] at hc))|(with_reducible refine cK ?_)))
 (refine rT [] ?_;first|rfl|simp only[pgo,simprocAttr]|skip)
def kT:List Nat:=[112,105,99,107,32,49,10,35,32,110,111,116,104,105,110,103,10,99,97,108,108,32,48,32,108,105,115,116]
theorem ajv:oct kT:=jI _ rfl
abbrev kL1:List Nat:=[112,105,99,107,32,49]
abbrev kL2:List Nat:=[35,32,110,111,116,104,105,110,103]
abbrev kL3:List Nat:=[99,97,108,108,32,48,32,108,105,115,116]
theorem aaN:Iy kT = .tup [.sl (.own 0 9) 1 (sv [kL1,kL2,kL3]),vi 0]:=by
 unfold Iy
 rw[if_neg (by decide),if_neg (by decide),if_neg (by decide)]
 rfl
theorem kF1:fld kL1=[[112,105,99,107],[49]]:=by decide
theorem kF2:fld kL2=[]:=by decide
theorem kF3:fld kL3=[[99,97,108,108],[48],[108,105,115,116]]:=by decide
theorem aaO:Gxx 65 [vs kT] (.tup [.sl (.own 0 9) 1 (sv [kL1,kL2,kL3]),vi 0]):=by
 have h:=ajk kT ajv
 rw[aaN] at h
 exact h
theorem DZ(l:List Nat)(hl:l.length≤1000)(f:List (List Nat))(hf:fld l=f)(ho:(l.all fun b=>decide (b<256))=true):Gxx 66 [vs l] (.sl (.own 0 9) 1 (sv f)):=by
 have h:=ajl l (jI _ ho) (by omega)
 rw[hf] at h
 exact h
def evV:Nat→V
 | 0=>nls
 | 1 => .sl (.own 1 69) 24 [.agg ev1]
 | 2 => .sl (.own 1 69) 24 [.agg ev1]
 | _ => .sl (.own 1 69) 24 [.agg ev1,.agg ev2]
theorem afo:evV 0=nls:=rfl
theorem afp:evV 1 = .sl (.own 1 69) 24 [.agg ev1]:=rfl
theorem afq:evV 2 = .sl (.own 1 69) 24 [.agg ev1]:=rfl
theorem afr:evV 3 = .sl (.own 1 69) 24 [.agg ev1,.agg ev2]:=rfl
theorem aaP:Gxx 28 [vs kT] (.tup [.sl (.own 0 69) 24 [.agg ev1,.agg ev2],vi 0,vi 0]):=by
 have f1:=DZ kL1 (by decide) _ kF1 rfl
 have f2:=DZ kL2 (by decide) _ kF2 rfl
 have f3:=DZ kL3 (by decide) _ kF3 rfl
 have hs:(sv [kL1,kL2,kL3]).length=3:=rfl
 have hg0:(sv [kL1,kL2,kL3])[0]?=some (vs kL1):=rfl
 have hg1:(sv [kL1,kL2,kL3])[1]?=some (vs kL2):=rfl
 have hg2:(sv [kL1,kL2,kL3])[2]?=some (vs kL3):=rfl
 refine gI oW Tryz.func28 Tryz.results28 ?_
 refine wS @hs aaO ?_
 refine aK (fun i:Nat=>mkA [(2,evV i),(19,.sl (.own 0 9) 1 (sv [kL1,kL2,kL3])),(20,vi 3),(21,vi i)] [] 2 (fun _ => .top)) (fun i=>i≤3) (fun i=>3-i) 0 [0] [] ?_ (Nat.zero_le _) ?_
 ·exact kE
 ·intro i hi
  have hi4:i=0∨i=1∨i=2∨i=3:=by omega
  rcases hi4 with rfl|rfl|rfl|rfl
  ·refine wS (aI @hs (aI @hg0 (aI @hg1 (aI @hg2 (aI @afo (aI @afp (aI @afq (aI @afr (aI @Int.natCast_one (aI @au (aI @List.length_cons.{0} (aI @List.length_nil.{0} (aI @List.cons_append.{0} (aI @List.nil_append.{0} (aI @List.append_eq.{0} @ai))))))))))))))) (aI f1 aaL) ?_
   exact bE (0+1) [0,5] [] ((by omega))
   all_goals exact aW rfl rfl
  ·refine wS (aI @hs (aI @hg0 (aI @hg1 (aI @hg2 (aI @afo (aI @afp (aI @afq (aI @afr (aI @Int.natCast_one (aI @au (aI @List.length_cons.{0} (aI @List.length_nil.{0} (aI @List.cons_append.{0} (aI @List.nil_append.{0} (aI @List.append_eq.{0} @ai))))))))))))))) f2 ?_
   exact bE (1+1) [0,1] [] ((by omega))
   all_goals exact aW rfl rfl
  ·refine wS (aI @hs (aI @hg0 (aI @hg1 (aI @hg2 (aI @afo (aI @afp (aI @afq (aI @afr (aI @Int.natCast_one (aI @au (aI @List.length_cons.{0} (aI @List.length_nil.{0} (aI @List.cons_append.{0} (aI @List.nil_append.{0} (aI @List.append_eq.{0} @ai))))))))))))))) (aI f3 aaM) ?_
   exact bE (2+1) [0,1] [] ((by omega))
   all_goals exact aW rfl rfl
  ·exact wR (aI @hs (aI @hg0 (aI @hg1 (aI @hg2 (aI @afo (aI @afp (aI @afq (aI @afr (aI @Int.natCast_one (aI @au (aI @List.length_cons.{0} (aI @List.length_nil.{0} (aI @List.cons_append.{0} (aI @List.nil_append.{0} (aI @List.append_eq.{0} @ai))))))))))))))) trivial (ids [1])
theorem kc1:(⟨#[105,110,115,101,114,116,32,97,32,45,32,120,32,51]⟩:ByteArray)=sB [105,110,115,101,114,116,32,97,32,45,32,120,32,51]:=rfl
theorem kc2:(⟨#[112,105,99,107,32,49,10,35,32,110,111,116,104,105,110,103,10,99,97,108,108,32,48,32,108,105,115,116]⟩:ByteArray)=sB kT:=rfl
theorem kc3:(⟨#[101,114,114,111,114,32,49,52]⟩:ByteArray)=sB [101,114,114,111,114,32,49,52]:=rfl
theorem kc4:(⟨#[101,114,114,111,114,32]⟩:ByteArray)=sB [101,114,114,111,114,32]:=rfl
theorem ka1:(⟨#[97]⟩:ByteArray)=sB [97]:=rfl
theorem ka2:(⟨#[120]⟩:ByteArray)=sB [120]:=rfl
theorem ajw:ak 3=[51]:=by rw[uQ,if_neg (by decide)];exact RD 3 (by decide)
theorem afs:ak 14=[49,52]:=by
 rw[uQ,if_neg (by decide)]
 show dd 14=_
 rw[ahb 14 (by decide),RD (14 / 10) (by decide)]
 rfl
theorem anP:kw [120]=[120]:=by decide
def O6:O:=⟨6,[97],[],[],0,0,0,0,[([120],3)],[],0,0,0,0,0,0,0,[],0,0,0,[]⟩
theorem ajx:O6.Oct:=⟨jI _ rfl,dV,(fun _ h=>by cases h),(fun x h=>by simp [O6] at h;rw[h];exact jI _ rfl),dV,dV,dV⟩
theorem alS:vop O6=0:=by decide
theorem ajy:jn (qU O6)=[105,110,115,101,114,116,32,97,32,45,32,120,32,51]:=by
 have:qU O6=[[105,110,115,101,114,116],[97],[45],kw [120],ak 3]:=rfl
 rw[this,anP,ajw]
 rfl
theorem ajz:Gxx 13 [.agg [vi 6,vs [97],vs [],nls,vi 0,vi 0,vi 0,vu 0,fzt [([120],3)],nls,vi 0,vi 0,vi 0,vi 0,vi 0,vi 0,vi 0,vs [],vi 0,vi 0,vi 0,nls]] (.tup [vs [105,110,115,101,114,116,32,97,32,45,32,120,32,51],vi 0]):=by
 have h:=La O6 ajx rfl alS (by decide) (by decide) (by decide) (fun x hx=>by simp [O6] at hx;rw[hx];exact⟨by decide,by decide⟩)
 rw[ajy] at h
 refine h.wk ⟨.inr ⟨_,_,rfl,rfl, ?_⟩,trivial⟩
 (repeat' (first|exact trivial|refine iV (.inl rfl) ?_|refine iV (oq _ _) ?_))
abbrev rsC(e c v h:Int)(nm:V)(a b:Int)(k:List Nat)(nu en:V)(st:Bool)(da:V):List V:=[vi e,vi c,vi v,vi h,nm,vi a,vi b,vs k,nu,en,vb st,da]
theorem Vt(e c v h:Int)(nm:V)(a b:Int)(k:List Nat)(nu en:V)(st:Bool)(da:V)(he:Wt e)(h0:e≠0)(hnm:nm.erase=nm)(hnu:nu.erase=nu)(hen:en.erase=en)(hda:da.erase=da) :
  Gxx 23 [.agg (rsC e c v h nm a b k nu en st da)] (vs ([101,114,114,111,114,32]++ak e)):=by
 have hi:=jv e he.1 he.2
 have hl:=vX e he.1 he.2
 have hs:([101,114,114,111,114,32]:List Nat).length+(ak e).length≤9223372036854775807:=by show 6+_≤_;omega
 refine gI oW Tryz.func23 Tryz.results23 ?_
 (repeat' (first|(simp (disch:=first|exact dqz|fail) only[pgz,simprocAttr,Tryz.f23,h0,kc4,adW _ _ _ _ hs])|((with_reducible show gU _ _ _ _ _ _);first|refine cU hi ?_)|((with_reducible first|apply di|apply bK|apply dw)<;>intro hc<;>(try simp only[hc])<;>(try simp only[pgd] at hc))|(with_reducible refine cK ?_)))
 exact rE []
theorem aaQ:Gxx 23 [.agg (rsC 14 0 0 0 nls 0 0 [] nls nls false nls)] (vs [101,114,114,111,114,32,49,52]):=by
 have h:=Vt 14 0 0 0 nls 0 0 [] nls nls false nls ⟨by decide,by decide⟩ (by decide) rfl rfl rfl rfl
 rw[afs] at h
 exact h
theorem aft:Gxx 10 [] (vb true):=by
 have h1:=ajz
 have h2:=aaP
 have h3:=aaQ
 refine gI oW Tryz.func10 Tryz.results10 ?_
 exact wR (aI @kc1 (aI @kc2 (aI @kc3 (aI @ka1 (aI @ka2 (aI @ai (aI @DY (aI @List.length_cons.{0} (aI @List.length_nil.{0} (aI @List.cons_append.{0} (aI @List.nil_append.{0} @List.append_eq.{0}))))))))))) (aI h1 (aI h2 h3)) ah
theorem ahc(P:Program)(t:TypeId)(a b:List Nat)(ha:a.length≤1000000000000)(hb:b.length≤1000000000000):eu P .add t (.c (.string (sB a))) (.c (.string (sB b)))=some (.c (.string (sB (a++b)))):=adW P t a b (by omega)
theorem dR(l:List (List Nat))(hl:tot l≤100000000):Gxx 48 [fzs l] (vs (jn l)):=by
 have hx:=au l
 have hln:=Q9 l
 refine gI oW Tryz.func48 Tryz.results48 ?_
 refine wS @ai trivial ?_
 refine aK (fun i:Nat=>mkA [(0,fzs l),(3,vs (jn (l.take i))),(4,vi i)] [] 0 (fun _ => .top)) (fun i=>i≤l.length) (fun i=>l.length-i) 0 [] [] ?_ (Nat.zero_le _) ?_
 ·exact kE
 ·intro i hi
  replace hi:i≤l.length:=hi
  rcases Nat.lt_or_ge i l.length with hlt|hge
  ·have hg:=iK l i hlt
   have h1:(jn (l.take i)).length≤1000000000:=by have:=xg (l.take i);have:=KH l i;omega
   have h2:(l.getD i []).length≤1000000000:=by have:=KI l i;omega
   have h3:(jn (l.take i)++[32]).length≤1000000000000:=by simp;omega
   rcases Nat.eq_zero_or_pos i with h0|h0
   ·subst h0
    have h4:=ZB hlt
    rw[List.take_zero] at h1 ⊢
    generalize l.getD 0 []=w at hg h2 h4
    have e0:jn ([]:List (List Nat))=[]:=rfl
    refine wS (aI @hg (aI @e0 (aI @ahc @List.nil_append.{0}))) trivial ?_
    (refine bL (0+1) [] [] hlt ?_;refine kL ?_)
    all_goals exact gq (by rw[h4])
   ·have h4:=aeN hlt h0
    generalize l.getD i []=w at hg h2 h4
    refine wS (aI @hg (aI @k32 @ahc)) trivial ?_
    (refine bL (i+1) [] [] hlt ?_;refine kL ?_)
    all_goals exact gq (by rw[h4];simp)
  ·have:i=l.length:=by omega
   subst this
   rw[List.take_length]
   exact wR trivial trivial ah
theorem jX(n:Int)(h:Wt n):Gxx 51 [vi n] (vs (ak n)):=by
 have h1:=ajh n h.1 h.2
 refine gI oW Tryz.func51 Tryz.results51 ?_
 exact wR trivial h1 ah
theorem yT(l:List Nat)(ho:oct l)(hl:l.length≤1000000):Gxx 52 [fzb l] (vs (fb l)):=by
 have h1:=O5 l ho (by omega)
 have hb:=ax l
 unfold fb
 refine gI oW Tryz.func52 Tryz.results52 ?_
 by_cases h0:l.length=0
 ·rw[if_pos h0]
  exact wR (aI @ax (aI @h0 @k45)) trivial ah
 ·rw[if_neg h0]
  exact wR (aI @ax (aI @h0 @rH)) h1 ah
def env(l:List (List Nat × Int × Int)):List V:=l.map fun x=>V.agg [vs x.1,vi x.2.1,vi x.2.2]
structure Rs where
 err:Int
 commit:Int
 version:Int
 handle:Int
 names:List (List Nat)
 value:Int
 error:Int
 key:List Nat
 numbers:List Int
 entries:List (List Nat × Int × Int)
 sat:Bool
 data:List Nat
structure Rs.Ok (r:Rs):Prop where
 err:Wt r.err
 commit:Wt r.commit
 version:Wt r.version
 handle:Wt r.handle
 names:∀x∈r.names,oct x
 value:Wt r.value
 error:Wt r.error
 key:oct r.key
 numbers:∀n∈r.numbers,Wt n
 entries:∀x∈r.entries,oct x.1∧Wt x.2.1∧Wt x.2.2
 data:oct r.data
structure Rs.Lt (r:Rs):Prop where
 names:r.names.length≤20
 name:∀x∈r.names,x.length≤100
 numbers:r.numbers.length≤50
 entries:r.entries.length≤30
 key:r.key.length≤100
 ekey:∀x∈r.entries,x.1.length≤100
 data:r.data.length≤300
def enW:List (List Nat × Int × Int)→List (List Nat)
 | []=>[]
 | x::l=>kw x.1::ak x.2.1::ak x.2.2::enW l
def q0(r:Rs):List (List Nat):=[[111,107],ak r.commit,ak r.version,ak r.handle]
def q1(r:Rs):List (List Nat):=if r.names.length=0 then [] else [110,97,109,101,115]::r.names
def q2(r:Rs):List (List Nat):=if r.value=0 then [] else [[118,97,108,117,101],ak r.value]
def q3(r:Rs):List (List Nat):=if r.error=0 then [] else [[101,114,114,111,114],ak r.error]
def q4(r:Rs):List (List Nat):=if r.key.length=0 then [] else [[107,101,121],kw r.key]
def q5(r:Rs):List (List Nat):=if r.numbers.length=0 then [] else [110,117,109,98,101,114,115]::r.numbers.map ak
def q6(r:Rs):List (List Nat):=if r.entries.length=0 then [] else [101,110,116,114,105,101,115]::enW r.entries
def q7(r:Rs):List (List Nat):=if r.sat=true then [[115,97,116,117,114,97,116,101,100]] else []
def q8(r:Rs):List (List Nat):=if r.data.length=0 then [] else [[100,97,116,97],fb r.data]
end Go.Proofs.YtjiolbcdfgclaaaGreatDoor
section
namespace Go.Proofs.YtjiolbcdfgclaaaGreatDoor
open Go Go.Pg
def kl(a b:List Nat):Bool:=Op.bytesLess (sB a).toList (sB b).toList
theorem rP(a b:List Nat):Op.bytesLess (sB a).toList (sB b).toList=kl a b:=rfl
def octE(l:List En):Prop:=∀e∈l,oct e.1
theorem lu{l:List En}(h:octE l)(i:Nat):oct (l.getD i ([],0,0)).1:=by
 rcases Nat.lt_or_ge i l.length with hi|hi
 ·have:l.getD i ([],0,0)=l[i]:=by simp [List.getD,hi]
  rw[this];exact h _ (List.getElem_mem hi)
 ·have:l.getD i ([],0,0)=([],0,0):=by simp [List.getD,hi]
  rw[this];exact dV
theorem Vu{l:List En}(h:octE l)(n:Nat):octE (l.take n):=fun e he=>h e (List.mem_of_mem_take he)
def bfE(a b:En):Bool:=decide (b.2.1<a.2.1)||(decide (a.2.1=b.2.1)&&kl a.1 b.1)
theorem Gm(a b:En):Gxx 202 [.agg [vs a.1,vi a.2.1,vi a.2.2],.agg [vs b.1,vi b.2.1,vi b.2.2]] (vb (bfE a b)):=by
 obtain⟨k1,c1,e1⟩:=a
 obtain⟨k2,c2,e2⟩:=b
 unfold bfE
 simp only
 refine gI oW Tryz.func202 Tryz.results202 ?_
 by_cases h1:c2<c1
 ·rw[decide_eq_true h1]
  exact wR @rP trivial ah
 ·rw[decide_eq_false h1]
  by_cases h2:c1=c2
  ·rw[decide_eq_true h2]
   cases hk:kl k1 k2
   ·exact wR (aI @rP @hk) trivial ah
   ·exact wR (aI @rP @hk) trivial ah
  ·rw[decide_eq_false h2]
   exact wR @rP trivial ah
def Ld(k:List Nat):Nat→List En→Int
 | _,[] => -1
 | i,e::l=>if e.1=k then i else Ld k (i+1) l
def iG(l:List En)(k:List Nat):Int:=Ld k 0 l
theorem aaR(k:List Nat):∀(l:List En) (i:Nat),Ld k i l = -1∨(i:Int)≤Ld k i l∧Ld k i l<i+l.length:=by
 intro l
 induction l with
 | nil=>intro i;exact .inl rfl
 | cons e l ih =>
  intro i
  unfold Ld
  split
  ·right;simp only[List.length_cons];omega
  ·rcases ih (i+1) with h|h
   ·exact .inl h
   ·right;simp only[List.length_cons];omega
theorem D5(l:List En)(k:List Nat):iG l k = -1∨0≤iG l k∧iG l k<l.length:=by
 have:=aaR k l 0
 unfold iG
 omega
theorem aaS(l:List En)(i:Nat)(h:i<l.length):l.drop i=l.getD i ([],0,0)::l.drop (i+1):=by rw[List.drop_eq_getElem_cons h];simp [List.getD,h]
theorem Iz(l:List En)(k:List Nat)(hl:octE l)(ho:oct k)(hn:l.length≤1000000):Gxx 201 [fzv l,vs k] (vi (iG l k)):=by
 have hel:=aY l
 refine gI oW Tryz.func201 Tryz.results201 ?_
 refine wS trivial trivial ?_
 refine aK (fun i:Nat=>mkA [(0,fzv l),(1,vs k),(5,vi i)] [] 0 (fun _ => .top)) (fun i=>i≤l.length∧iG l k=Ld k i (l.drop i)) (fun i=>l.length-i) 0 [] [] ?_ ⟨Nat.zero_le _,rfl⟩ ?_
 ·exact kE
 ·rintro i ⟨hi,he⟩
  rcases Nat.lt_or_ge i l.length with hlt|hge
  ·rw[aaS l i hlt] at he
   have hg:=jr l i hlt
   have hox:=lu hl i
   generalize l.getD i ([],0,0)=x at *
   obtain⟨xk,xc,xe⟩:=x
   simp only at hg hox
   unfold Ld at he
   have hd:=sJ hox ho
   by_cases hx:xk=k
   ·rw[if_pos hx] at he
    rw[he]
    rw[decide_eq_true hx] at hd
    exact wR (aI @aY (aI @hg @hd)) trivial ah
   ·rw[if_neg hx] at he
    rw[decide_eq_false hx] at hd
    refine wS (aI @aY (aI @hg @hd)) trivial ?_
    exact bE (i+1) [] [] ⟨hlt,he⟩
  ·have:i=l.length:=by omega
   subst this
   rw[List.drop_length] at he
   rw[he]
   exact wR @aY trivial ah
section
variable {α:Type}
def qV(bf:α→α→Bool)(x:α):List α→List α
 | []=>[x]
 | y::ys=>if bf x y=true then y::qV bf x ys else x::y::ys
def Ac(bf:α→α→Bool):List α→List α→List α
 | acc,[]=>acc
 | acc,x::l=>Ac bf (qV bf x acc) l
def srt(bf:α→α→Bool)(l:List α):List α:=(Ac bf [] l).reverse
theorem uU(bf:α→α→Bool)(x:α)(l:List α):(qV bf x l).length=l.length+1:=by
 induction l with
 | nil=>rfl
 | cons y ys ih=>unfold qV;split<;>simp [ih]
theorem aaT(bf:α→α→Bool)(x z:α)(l:List α):z∈qV bf x l↔z=x∨z∈l:=by
 induction l with
 | nil=>simp [qV]
 | cons y ys ih =>
  unfold qV
  split
  ·simp only[List.mem_cons,ih]
   constructor
   ·rintro (h|h|h)<;>simp [h]
   ·rintro (h|h|h)<;>simp [h]
  ·simp
theorem aaU(bf:α→α→Bool)(l:List α):∀acc,(Ac bf acc l).length=acc.length+l.length:=by
 induction l with
 | nil=>intro acc;rfl
 | cons x l ih=>intro acc;rw[Ac,ih,uU];simp only[List.length_cons];omega
theorem aaV(bf:α→α→Bool)(z:α)(l:List α):∀acc,z∈Ac bf acc l↔z∈acc∨z∈l:=by
 induction l with
 | nil=>intro acc;simp [Ac]
 | cons x l ih =>
  intro acc
  rw[Ac,ih,aaT]
  simp only[List.mem_cons]
  constructor
  ·rintro ((h|h)|h)<;>simp [h]
  ·rintro (h|h|h)<;>simp [h]
theorem RG(bf:α→α→Bool)(l:List α):(srt bf l).length=l.length:=by simp [srt,aaU]
theorem RH(bf:α→α→Bool)(z:α)(l:List α):z∈srt bf l↔z∈l:=by simp [srt,aaV]
def mov(p:List α)(x:α)(t:List α):List α:=p.reverse++x::t
theorem BR(p:List α)(x:α)(t:List α):(mov p x t).length=p.length+1+t.length:=by simp [mov];omega
theorem aaW(p:List α)(x:α)(t:List α)(d:α):(mov p x t).getD p.length d=x:=by simp [mov,List.getD]
theorem RI(y:α)(p:List α)(x:α)(t:List α)(d:α):(mov (y::p) x t).getD p.length d=y:=by simp [mov,List.getD]
theorem Lh(y:α)(p:List α)(x:α)(t:List α):((mov (y::p) x t).set (p.length+1) y).set p.length x=mov p x (y::t):=by
 unfold mov
 have h1:(y::p).reverse=p.reverse++[y]:=by simp
 rw[h1]
 have e1:p.length=p.reverse.length:=by simp
 rw[e1]
 rw[List.append_assoc,List.set_append_right _ _ (by omega),show p.reverse.length+1-p.reverse.length=1 by omega]
 rw[List.set_append_right _ _ (by omega),Nat.sub_self]
 rfl
theorem BU(bf:α→α→Bool)(p:List α)(x:α)(t:List α)(h:p=[]∨∃y q,p=y::q∧bf x y=false):(qV bf x p).reverse++t=mov p x t:=by
 rcases h with rfl|⟨y,q,rfl,h⟩
 ·simp [qV,mov]
 ·unfold qV
  rw[if_neg (by rw[h];simp)]
  simp [mov]
theorem aaX(bf:α→α→Bool)(y:α)(p:List α)(x:α)(t:List α)(h:bf x y=true):(qV bf x (y::p)).reverse++t=(qV bf x p).reverse++y::t:=by
 conv=>lhs;unfold qV
 rw[if_pos h]
 simp
end
theorem mD{α:Type}(l:List α)(i:Nat)(d:α)(h:i<l.length):l.drop i=l.getD i d::l.drop (i+1):=by rw[List.drop_eq_getElem_cons h];simp [List.getD,h]
theorem D6(l:List En)(hn:l.length≤1000000):Gxx 214 [fzv l] (.sl (.own 0 59) 3 (ev (srt bfE l))):=by
 have hel:=aY l
 refine gI oW Tryz.func214 Tryz.results214 ?_
 refine wS trivial trivial ?_
 refine aK (fun x:Nat × List En=>mkA [(0,fzv l),(3,.sl (.own 0 59) 3 (ev x.2.reverse)),(4,vi x.1)] [] 1 (fun _ => .top)) (fun x=>x.1≤l.length∧x.2.length=x.1∧Ac bfE x.2 (l.drop x.1)=Ac bfE [] l) (fun x=>l.length-x.1) (0,[]) [] [] ?_ ⟨Nat.zero_le _,rfl,rfl⟩ ?_
 ·exact kE
  all_goals first|exact gK rfl|skip
 ·rintro⟨i,acc⟩ ⟨hi,ha,hs⟩
  simp only at hi ha hs
  have hal:(ev acc.reverse).length=i:=by rw[aY,List.length_reverse,ha]
  rcases Nat.lt_or_ge i l.length with hlt|hge
  ·rw[mD l i ([],0,0) hlt] at hs
   have hg:=jr l i hlt
   generalize l.getD i ([],0,0)=x at *
   have hsn:ev acc.reverse++[V.agg [vs x.1,vi x.2.1,vi x.2.2]]=ev (mov acc x []):=by rw[sW];unfold mov;rfl
   have hml:(ev (mov acc x [])).length=i+1:=by rw[aY,BR,ha];rfl
   (repeat' (first|(simp (disch:=first|exact dqz|fail) only[pgz,simprocAttr,hg,aY,hsn,hml,hal])|((with_reducible first|apply di|apply bK|apply dw)<;>intro hc<;>(try simp only[hc])<;>(try simp only[pgd] at hc))|(with_reducible refine cK ?_)))
   refine aK (fun y:List En × List En=>mkA [(0,fzv l),(3,.sl (.own 0 59) 3 (ev (mov y.1 x y.2))),(4,vi i),(5,vi y.1.length)] [] 1 (fun _ => .top)) (fun y=>y.1.length+y.2.length=i∧(qV bfE x y.1).reverse++y.2=(qV bfE x acc).reverse) (fun y=>y.1.length) (acc,[]) [0] [] ?_ ⟨by simp [ha],by simp⟩ ?_
   ·(refine iy ?_ ?_ (kD _ _ _) (by decide) (by decide) (by decide) (by decide);(repeat' (first|exact trivial|refine gJ _ _ rfl rfl ?_ ?_));all_goals (try simp only[pgs,pgl,pgx,pgf,pgw,fQ,ig,fU,iq,dB,eY,fJ,pgn,simprocAttr]);all_goals (try (repeat' (first|apply aI)));all_goals (try (first|exact trivial|exact gB (by omega)|exact gq rfl|exact aW rfl rfl|exact je rfl)))
    all_goals exact gB (by omega)
   ·rintro⟨p,t⟩ ⟨hp1,hp2⟩
    simp only at hp1 hp2
    have hmp:=BR p x t
    have hmp2:(ev (mov p x t)).length=i+1:=by rw[aY,hmp];omega
    cases p with
    | nil =>
     rw[BU bfE [] x t (.inl rfl)] at hp2
     refine wS @hmp2 trivial ?_
     refine bC (i+1,qV bfE x acc) [0] [] ⟨hlt,by simp only;rw[uU,ha],by simp only;rw[←hs];rfl⟩ (by show l.length-(i+1)<l.length-i;omega) ?_
     refine kL ?_
     all_goals exact aW rfl (by rw[hp2])
    | cons y p =>
     have g1:=jr (mov (y::p) x t) (p.length+1) (by rw[hmp];simp only[List.length_cons];omega)
     have g2:=jr (mov (y::p) x t) p.length (by rw[hmp];simp only[List.length_cons];omega)
     have m1:(mov (y::p) x t).getD (p.length+1) ([],0,0)=x:=aaW (y::p) x t _
     rw[m1] at g1
     rw[RI] at g2
     have hb:=Gm x y
     have hi1:(((y::p).length:Nat):Int)=(p.length:Int)+1:=by simp
     have hi2:((p.length:Int)+1).toNat=p.length+1:=by omega
     have hi3:((p.length:Int)+1-1)=(p.length:Int):=by omega
     cases hbf:bfE x y
     ·rw[BU bfE (y::p) x t (.inr ⟨y,p,rfl,hbf⟩)] at hp2
      rw[hbf] at hb
      refine wS (aI @hi1 (aI @hi2 (aI @hi3 (aI @hmp2 (aI @g1 @g2))))) hb ?_
      refine bC (i+1,qV bfE x acc) [0] [] ⟨hlt,by simp only;rw[uU,ha],by simp only;rw[←hs];rfl⟩ (by show l.length-(i+1)<l.length-i;omega) ?_
      refine kL ?_
      all_goals exact aW rfl (by rw[hp2])
     ·rw[aaX bfE y p x t hbf] at hp2
      rw[hbf] at hb
      have hsw:=Lh y p x t
      have hs1:(ev (mov (y::p) x t)).set (p.length+1) (V.agg [vs y.1,vi y.2.1,vi y.2.2])=ev ((mov (y::p) x t).set (p.length+1) y):=DI _ _ _ _ _
      have hs2:(ev ((mov (y::p) x t).set (p.length+1) y)).set p.length (V.agg [vs x.1,vi x.2.1,vi x.2.2])=ev (mov p x (y::t)):=by
       rw[DI]
       exact congrArg ev hsw
      have hl1:(ev ((mov (y::p) x t).set (p.length+1) y)).length=i+1:=by rw[aY,List.length_set,hmp];simp only[List.length_cons] at hp1 ⊢;omega
      have hg3:(ev ((mov (y::p) x t).set (p.length+1) y))[p.length]?=some (V.agg [vs y.1,vi y.2.1,vi y.2.2]):=by rw[←hs1,List.getElem?_set_ne (by omega),g2]
      generalize (mov (y::p) x t).set (p.length+1) y=mm at hs1 hs2 hl1 hg3
      refine wS (aI @hi1 (aI @hi2 (aI @hi3 (aI @hmp2 (aI @g1 (aI @g2 (aI @hs1 (aI @hs2 (aI @hl1 @hg3))))))))) hb ?_
      refine bC (p,y::t) [0] [] ⟨by simp only[List.length_cons] at hp1 ⊢;omega,hp2⟩ (by show p.length<(y::p).length;simp) ?_
      refine kL ?_
      all_goals (simp only[pgo,hs1,hs2];first|exact trivial|exact aW rfl rfl)
  ·have:i=l.length:=by omega
   subst this
   rw[List.drop_length] at hs
   have hs':acc=Ac bfE [] l:=hs
   refine wS @aY trivial ?_
   (refine rT [0] ?_;first|rfl|simp only[pgo,simprocAttr]|skip)
   all_goals (unfold srt;rw[hs'];rfl)
theorem afu(l:List En):V.flatL (ev l)=true:=by
 induction l with
 | nil=>rfl
 | cons a l ih=>simp only[ev,List.map_cons,V.flatL,V.flat] at ih ⊢;simpa using ih
theorem rQ(id:Nat)(e:TypeId)(k:Nat)(l:List En):(V.sl (.own id e) k (ev l)).flat=true:=afu l
end Go.Proofs.YtjiolbcdfgclaaaGreatDoor
end
namespace Go.Proofs.YtjiolbcdfgclaaaGreatDoor
open Go Go.Pg
def tC(f:Nat→Int):Nat→Nat→Int
 | 0,_=>0
 | n+1,i=>if f i≠0 then f i else tC f n (i+1)
theorem D7(f:Nat→Int)(n i:Nat)(h:f i≠0):tC f (n+1) i=f i:=if_pos h
theorem uV(f:Nat→Int)(n i:Nat)(h:f i=0):tC f (n+1) i=tC f n (i+1):=if_neg (by omega)
theorem D8(f:Nat→Int):∀n i,tC f n i=0→∀j,i≤j→j<i+n→f j=0:=by
 intro n
 induction n with
 | zero=>intro i _ j h1 h2;omega
 | succ n ih =>
  intro i h j h1 h2
  by_cases hf:f i=0
  ·rw[uV f n i hf] at h
   rcases Nat.eq_or_lt_of_le h1 with rfl|h3
   ·exact hf
   ·exact ih (i+1) h j h3 (by omega)
  ·rw[D7 f n i hf] at h;exact absurd h hf
abbrev eD:En:=([],0,0)
def Ba(l:List En)(i:Nat):Int :=
 if fH (l.getD i eD).1=false then 7
 else if ¬((1≤(l.getD i eD).2.1∧(l.getD i eD).2.1≤1099511627776)∧(0≤(l.getD i eD).2.2∧(l.getD i eD).2.2≤(l.getD i eD).2.1-1)) then 5
 else if iG (l.take i) (l.getD i eD).1≥0 then 9
 else if 0<i∧bfE (l.getD (i-1) eD) (l.getD i eD)=false then 19 else 0
def vTp(t:Tp):Int:=if ¬((1≤t.z∧t.z≤32)∧(0≤t.t∧t.t≤1099511627776)) then 5 else if (t.e.length:Int) > t.z then 11 else tC (Ba t.e) t.e.length 0
theorem pX(x:Tp)(ho:octE x.e)(hn:x.e.length≤1000000):Gxx 158 [.agg (tpF x)] (vi (vTp x)):=by
 obtain⟨z,t,l,b⟩:=x
 simp only at ho hn
 unfold vTp
 simp only
 have hel:=aY l
 by_cases c1:(1≤z∧z≤32)∧(0≤t∧t≤1099511627776)
 ·rw[if_neg (fun h=>h c1)]
  have k1:=aU z 1 32 c1.1
  have k2:=aU t 0 1099511627776 c1.2
  by_cases c2:(l.length:Int) > z
  ·rw[if_pos c2]
   refine gI oW Tryz.func158 Tryz.results158 ?_
   exact wR @aY (aI k1 k2) ah
  ·rw[if_neg c2]
   refine gI oW Tryz.func158 Tryz.results158 ?_
   refine wS @aY (aI k1 k2) ?_
   generalize hE:tC (Ba l) l.length 0=E
   refine aK (fun i:Nat=>mkA [(1,.ref 0 0),(3,vi i)] [(0,(86,tpF ⟨z,t,l,b⟩))] 1 (fun _ => .top)) (fun i=>i≤l.length∧tC (Ba l) (l.length-i) i=E) (fun i=>l.length-i) 0 [] [0] ?_ ⟨Nat.zero_le _,hE⟩ ?_
   ·exact kE
   ·rintro i ⟨hi,he⟩
    rcases Nat.lt_or_ge i l.length with hlt|hge
    ·have hg:=jr l i hlt
     have hox:=lu ho i
     rw[show l.length-i=(l.length-(i+1))+1 by omega] at he
     have k3:=uH (l.getD i eD).1
     have k4:=Iz (l.take i) (l.getD i eD).1 (Vu ho i) hox (by simp only[List.length_take];omega)
     have hfr:=D5 (l.take i) (l.getD i eD).1
     have htk:=ae2 l i
     have et:Ba l i=if fH (l.getD i eD).1=false then 7 else if ¬((1≤(l.getD i eD).2.1∧(l.getD i eD).2.1≤1099511627776)∧(0≤(l.getD i eD).2.2∧(l.getD i eD).2.2≤(l.getD i eD).2.1-1)) then 5 else if iG (l.take i) (l.getD i eD).1≥0 then 9 else if 0<i∧bfE (l.getD (i-1) eD) (l.getD i eD)=false then 19 else 0:=rfl
     generalize hxx:l.getD i eD=x at *
     have hb:=fun y=>Gm y x
     obtain⟨xk,xc,xe⟩:=x
     simp only at hox k3 k4 hfr et hg hb
     have ext:∀v:Int,v≠0→Ba l i=v→v=E:=fun v h0 h1=>by rw[D7 _ _ _ (by omega)] at he;omega
     cases q1:fH xk
     ·rw[q1] at k3 et
      have:=ext 7 (by omega) (by rw[et];rfl)
      subst this
      exact wR (aI @aY @hg) k3 ah
     ·rw[q1] at k3 et
      rw[if_neg (by simp)] at et
      by_cases q2:(1≤xc∧xc≤1099511627776)∧(0≤xe∧xe≤xc-1)
      ·rw[if_neg (fun h=>h q2)] at et
       have k5:=aU xc 1 1099511627776 q2.1
       have k6:=aU xe 0 (xc-1) q2.2
       by_cases q3:iG (l.take i) xk≥0
       ·rw[if_pos q3] at et
        have:=ext 9 (by omega) et
        subst this
        exact wR (aI @pgv (aI @hg @htk)) (aI k3 (aI k5 (aI k6 k4))) ah
       ·rw[if_neg q3] at et
        by_cases q4:0<i
        ·have hg1:=jr l (i-1) (by omega)
         have hi1:((i:Int)-1).toNat=i-1:=by omega
         have hb1:=hb (l.getD (i-1) eD)
         generalize l.getD (i-1) eD=y at *
         cases q5:bfE y (xk,xc,xe)
         ·rw[if_pos ⟨q4,q5⟩] at et
          rw[q5] at hb1
          have:=ext 19 (by omega) et
          subst this
          exact wR (aI @pgv (aI @hg (aI @htk (aI @hi1 @hg1)))) (aI k3 (aI k5 (aI k6 (aI k4 hb1)))) ah
         ·rw[if_neg (by rw[q5];simp)] at et
          rw[q5] at hb1
          rw[uV _ _ _ et] at he
          refine wS (aI @pgv (aI @hg (aI @htk (aI @hi1 @hg1)))) (aI k3 (aI k5 (aI k6 (aI k4 hb1)))) ?_
          exact bE (i+1) [] [0] ⟨hlt,he⟩
        ·rw[if_neg (by omega)] at et
         rw[uV _ _ _ et] at he
         refine wS (aI @pgv (aI @hg @htk)) (aI k3 (aI k5 (aI k6 k4))) ?_
         exact bE (i+1) [] [0] ⟨hlt,he⟩
      ·rw[if_pos q2] at et
       have:=ext 5 (by omega) et
       subst this
       by_cases q6:1≤xc∧xc≤1099511627776
       ·have k5:=aU xc 1 1099511627776 q6
        have k6:=fC xe 0 (xc-1)
        rw[jY (by omega)] at k6
        exact wR (aI @aY @hg) (aI k3 (aI k5 k6)) ah
       ·have k5:=fC xc 1 1099511627776
        rw[jY q6] at k5
        exact wR (aI @aY @hg) (aI k3 k5) ah
    ·have:i=l.length:=by omega
     subst this
     rw[Nat.sub_self] at he
     have he0:0=E:=he
     subst he0
     exact wR @aY trivial ah
 ·rw[if_pos c1]
  by_cases c2:1≤z∧z≤32
  ·have k1:=aU z 1 32 c2
   have k2:=fC t 0 1099511627776
   rw[jY (by omega)] at k2
   refine gI oW Tryz.func158 Tryz.results158 ?_
   exact wR trivial (aI k1 k2) ah
  ·have k1:=fC z 1 32
   rw[jY c2] at k1
   refine gI oW Tryz.func158 Tryz.results158 ?_
   exact wR trivial k1 ah
def jR(t:Tp):Int:=if t.e.length=0∨(t.e.length:Int)≠t.z then 0 else (t.e.getD (t.e.length-1) eD).2.1
theorem aaY(x:Tp)(hn:x.e.length≤1000000):Gxx 213 [.agg (tpF x)] (vi (jR x)):=by
 obtain⟨z,t,l,b⟩:=x
 simp only at hn
 unfold jR
 simp only
 have hel:=aY l
 by_cases c1:l.length=0
 ·rw[if_pos (.inl c1)]
  refine gI oW Tryz.func213 Tryz.results213 ?_
  exact wR @aY trivial ah
 ·by_cases c2:(l.length:Int)=z
  ·rw[if_neg (by omega)]
   have hg:=jr l (l.length-1) (by omega)
   generalize l.getD (l.length-1) eD=y at *
   have hi:((l.length:Int)-1).toNat=l.length-1:=by omega
   refine gI oW Tryz.func213 Tryz.results213 ?_
   exact wR (aI @aY (aI @hi @hg)) trivial ah
  ·rw[if_pos (.inr c2)]
   refine gI oW Tryz.func213 Tryz.results213 ?_
   exact wR @aY trivial ah
def fK(a b:Int):Int × Bool:=tq a b 1099511627776
theorem tH(a b:Int)(ha:W64 a)(hb:W64 b):Gxx 212 [vi a,vi b] (.tup [vi (fK a b).1,vb (fK a b).2]):=ai0 a b ha hb
theorem Ad(a b:Int):0≤(fK a b).1∧(fK a b).1≤1099511627776:=by
 have h1:=Fb a
 have h2:=Fb b
 have h3:lK 1099511627776=1099511627776:=Rt (by decide)
 unfold fK tq
 split
 ·simp only;omega
 ·simp only;omega
def Ae(t:Tp)(k:List Nat)(w:Int):List En × Bool :=
 if 0≤iG t.e k then (t.e.set (iG t.e k).toNat ((t.e.getD (iG t.e k).toNat eD).1,(fK (t.e.getD (iG t.e k).toNat eD).2.1 w).1,(t.e.getD (iG t.e k).toNat eD).2.2),(fK (t.e.getD (iG t.e k).toNat eD).2.1 w).2)
 else if (t.e.length:Int)<t.z then (t.e++[(k,w,0)],false)
 else (t.e.set (t.e.length-1) (k,(fK (jR t) w).1,min (jR t) ((fK (jR t) w).1-1)),(fK (jR t) w).2)
def yU(t:Tp)(k:List Nat)(w:Int):Tp × Int :=
 if vTp t≠0 then (Tp.o,vTp t) else if eF k w≠0 then (Tp.o,eF k w) else (⟨t.z,(fK t.t w).1,srt bfE (Ae t k w).1,t.b||(fK t.t w).2||(Ae t k w).2⟩,0)
theorem IA{t:Tp}(h:vTp t=0):(1≤t.z∧t.z≤32)∧(0≤t.t∧t.t≤1099511627776)∧(t.e.length:Int)≤t.z∧∀i,i<t.e.length→Ba t.e i=0:=by
 unfold vTp at h
 split at h
 ·cases h
 ·rename_i h1
  split at h
  ·cases h
  ·rename_i h2
   have h1:=Classical.byContradiction h1
   exact⟨h1.1,h1.2,by omega,fun i hi=>D8 _ _ _ h i (Nat.zero_le _) (by omega)⟩
theorem yV{l:List En}{i:Nat}(h:Ba l i=0):fH (l.getD i eD).1=true∧(1≤(l.getD i eD).2.1∧(l.getD i eD).2.1≤1099511627776)∧0≤(l.getD i eD).2.2∧(l.getD i eD).2.2≤(l.getD i eD).2.1-1:=by
 unfold Ba at h
 split at h
 ·cases h
 ·rename_i h1
  split at h
  ·cases h
  ·rename_i h2
   have h2:=Classical.byContradiction h2
   exact⟨by simpa using h1,h2.1,h2.2⟩
theorem aaZ:wkV (.agg [vi 0,vi 0,nls,vb false]) (.agg (tpF Tp.o)) := .inr ⟨_,_,rfl,rfl,⟨.inl rfl,.inl rfl,oq _ _,.inl rfl,trivial⟩⟩
theorem IB(x:Tp)(k:List Nat)(w:Int)(ho:oct k)(hx:octE x.e)(hn:x.e.length≤1000000):Gxx 175 [.agg (tpF x),.agg [vs k,vi w]] (.tup [.agg (tpF (yU x k w).1),vi (yU x k w).2]):=by
 have h1:=pX x hx hn
 have h2:=bZ k w
 unfold yU
 by_cases c1:vTp x=0
 ·rw[if_neg (by omega)]
  rw[c1] at h1
  by_cases c2:eF k w=0
  ·rw[if_neg (by omega)]
   rw[c2] at h2
   obtain⟨i1,i2,i3,i4⟩:=IA c1
   obtain⟨j1,j2⟩:=rJ c2
   have hw:W64 w:=by unfold W64;omega
   have k1:=tH x.t w (by unfold W64;omega) hw
   have k2:=Iz x.e k hx ho (by omega)
   have hfr:=D5 x.e k
   refine Good.fzt (vs:=[.agg [vi x.z,vi (fK x.t w).1,.sl (.own 0 59) 3 (ev (srt bfE (Ae x k w).1)),vb (x.b||(fK x.t w).2||(Ae x k w).2)],vi 0]) ?_ rfl ⟨aA _,aA _,trivial⟩
   have hel:=aY x.e
   by_cases q1:0≤iG x.e k
   ·have ei:Ae x k w=(x.e.set (iG x.e k).toNat ((x.e.getD (iG x.e k).toNat eD).1,(fK (x.e.getD (iG x.e k).toNat eD).2.1 w).1,(x.e.getD (iG x.e k).toNat eD).2.2),(fK (x.e.getD (iG x.e k).toNat eD).2.1 w).2):=if_pos q1
    rw[ei]
    have hlt:(iG x.e k).toNat<x.e.length:=by omega
    have hg:=jr x.e (iG x.e k).toNat hlt
    have her:=yV (i4 _ hlt)
    have k3:=tH (x.e.getD (iG x.e k).toNat eD).2.1 w (by unfold W64;omega) hw
    generalize x.e.getD (iG x.e k).toNat eD=y at *
    obtain⟨yk,yc,ye⟩:=y
    simp only at hg her k3 ⊢
    have hes:=DI x.e (iG x.e k).toNat yk (fK yc w).1 ye
    have hso:=D6 (x.e.set (iG x.e k).toNat (yk,(fK yc w).1,ye)) (by rw[List.length_set];omega)
    generalize hes2:x.e.set (iG x.e k).toNat (yk,(fK yc w).1,ye)=e2 at *
    have hfl:=rQ 0 59 3 (srt bfE e2)
    generalize iG x.e k=fi at *
    generalize fK x.t w=a at *
    generalize fK yc w=a' at *
    obtain⟨a1,a2⟩:=a
    obtain⟨b1,b2⟩:=a'
    simp only at k1 k3 hes ⊢
    obtain⟨z,t,l,b⟩:=x
    simp only at *
    refine gI oD Tryz.func175 Tryz.results175 ?_
    (repeat' first|refine wPA (aI @aY (aI @hg @hes)) (aI h1 (aI h2 (aI k1 (aI k2 k3)))) ?_|refine cF hso hfl ?_|refine tS ?_ ?_<;>intro hc|fail)
    all_goals exact rE [13]
   ·by_cases q2:(x.e.length:Int)<x.z
    ·have ei:Ae x k w=(x.e++[(k,w,0)],false):=by unfold Ae;rw[if_neg q1,if_pos q2]
     rw[ei]
     have hes:=sW x.e k w 0
     have hso:=D6 (x.e++[(k,w,0)]) (by simp;omega)
     generalize hes2:x.e++[(k,w,0)]=e2 at *
     have hfl:=rQ 0 59 3 (srt bfE e2)
     generalize iG x.e k=fi at *
     generalize fK x.t w=a at *
     obtain⟨a1,a2⟩:=a
     simp only at k1 ⊢
     obtain⟨z,t,l,b⟩:=x
     simp only at *
     refine gI oD Tryz.func175 Tryz.results175 ?_
     (repeat' first|refine wPA (aI @aY @hes) (aI h1 (aI h2 (aI k1 k2))) ?_|refine cF hso hfl ?_|refine tS ?_ ?_<;>intro hc|fail)
     all_goals (refine rT [14] ?_;first|rfl|simp only[pgo,simprocAttr]|skip)
     all_goals skip
    ·have ei:Ae x k w=(x.e.set (x.e.length-1) (k,(fK (jR x) w).1,min (jR x) ((fK (jR x) w).1-1)),(fK (jR x) w).2):=by unfold Ae;rw[if_neg q1,if_neg q2]
     rw[ei]
     have hl1:x.e.length-1<x.e.length:=by omega
     have hle:jR x=(x.e.getD (x.e.length-1) eD).2.1:=if_neg (by omega)
     have her:=yV (i4 _ hl1)
     have hlr:1≤jR x∧jR x≤1099511627776:=by rw[hle];exact her.2.1
     have k3:=tH (jR x) w (by unfold W64;omega) hw
     have k4:=aaY x hn
     have har:=Ad (jR x) w
     have hes:=DI x.e (x.e.length-1) k (fK (jR x) w).1 (min (jR x) ((fK (jR x) w).1-1))
     have hso:=D6 (x.e.set (x.e.length-1) (k,(fK (jR x) w).1,min (jR x) ((fK (jR x) w).1-1))) (by rw[List.length_set];omega)
     have hg:=jr x.e (x.e.length-1) hl1
     generalize hes2:x.e.set (x.e.length-1) (k,(fK (jR x) w).1,min (jR x) ((fK (jR x) w).1-1))=e2 at *
     generalize x.e.getD (x.e.length-1) eD=y at *
     have hfl:=rQ 0 59 3 (srt bfE e2)
     clear hle
     generalize iG x.e k=fi at *
     generalize jR x=low at *
     generalize fK x.t w=a at *
     generalize fK low w=a' at *
     obtain⟨a1,a2⟩:=a
     obtain⟨b1,b2⟩:=a'
     simp only at k1 k3 hes har ⊢
     obtain⟨z,t,l,b⟩:=x
     simp only at *
     have hi:((l.length:Int)-1).toNat=l.length-1:=by omega
     cases b
     ·refine gI oD Tryz.func175 Tryz.results175 ?_
      (repeat' first|refine wPA (aI @aY (aI @hi (aI @hg @hes))) (aI h1 (aI h2 (aI k1 (aI k2 (aI k3 k4))))) ?_|refine cF hso hfl ?_|refine tS ?_ ?_<;>intro hc|fail)
      all_goals exact rE [13]
     ·refine gI oD Tryz.func175 Tryz.results175 ?_
      (repeat' first|refine wPA (aI @aY (aI @hi (aI @hg @hes))) (aI h1 (aI h2 (aI k1 (aI k2 (aI k3 k4))))) ?_|refine cF hso hfl ?_|refine tS ?_ ?_<;>intro hc|fail)
      all_goals exact rE [13]
  ·rw[if_pos (by omega)]
   refine Good.fzt (vs:=[.agg [vi 0,vi 0,nls,vb false],vi (eF k w)]) ?_ rfl ⟨aaZ,aA _,trivial⟩
   refine gI oD Tryz.func175 Tryz.results175 ?_
   exact wRA trivial (aI h1 h2) ah
 ·rw[if_pos (by omega)]
  refine Good.fzt (vs:=[.agg [vi 0,vi 0,nls,vb false],vi (vTp x)]) ?_ rfl ⟨aaZ,aA _,trivial⟩
  refine gI oD Tryz.func175 Tryz.results175 ?_
  exact wRA trivial h1 ah
end Go.Proofs.YtjiolbcdfgclaaaGreatDoor
