/-
  Texts of this claim, merged; own names are short.
-/
import Derived.Test.YtjiolbcdfgclaaaGreatDoorWBA
import Derived.Test.YtjiolbcdfgclaaaGreatDoorWBC
set_option linter.unusedVariables false
set_option linter.unusedSimpArgs false
set_option linter.unusedSectionVars false
set_option linter.defProp false
set_option maxRecDepth 100000
set_option maxHeartbeats 8000000
namespace Go.Proofs.YtjiolbcdfgclaaaGreatDoor
open Go Go.Pg
theorem acE{f:FuncId}{k:Nat}{xs ys:List V}{r:V}(h:Gxx f [.sl .fz k ys] r)(he:elE k xs ys):Gxx f [.sl .fz k xs] r :=
 ⟨h.1,fun A w cargs hT hA hargs=>h.2 A w cargs hT hA (by
  obtain⟨u,q,rfl,h1,h2⟩:=hargs
  obtain⟨p,o,us,rfl,e1,e2⟩:=h1
  rw[QF he] at e2 ⊢
  exact⟨_,q,rfl,⟨p,o,us,rfl,Xb he e1,e2⟩,h2⟩)⟩
def clE(x:Ev):Ev:=if x.k=1 then x else ⟨x.k,x.s,oE⟩
def clK(x:Ev):Bool:=decide ((acU [clE x]).2=0)&&decide ((clE x).o.data.length<1000)
def cln(l:List Ev):List Ev:=l.flatMap fun x=>if clK x=true then [clE x] else []
theorem acF{x:Ev}(ok:x.Ok):(clE x).Ok:=by
 unfold clE
 split
 ·exact ok
 ·exact⟨ok.k,ok.s,ao5⟩
theorem abd(l:List Ev):(cln l).length≤l.length:=by
 induction l with
 | nil=>exact Nat.le_refl _
 | cons x l ih =>
  unfold cln at ih ⊢
  simp only[List.flatMap_cons,List.length_append,List.length_cons]
  split<;>simp only[List.length_cons,List.length_nil]<;>omega
theorem aql{l:List Ev}(hok:∀e∈l,e.Ok):∀e∈cln l,e.Ok:=by
 intro e he
 obtain⟨x,hx,he⟩:=List.mem_flatMap.1 he
 split at he
 ·simp only[List.mem_singleton] at he
  subst he
  exact acF (hok x hx)
 ·cases he
theorem acG(l:List Ev)(i:Nat)(h:i<l.length):cln (l.take (i+1))=cln (l.take i)++(if clK (l.getD i xD)=true then [clE (l.getD i xD)] else []):=by
 unfold cln
 rw[List.take_succ_eq_append_getElem h,List.flatMap_append]
 simp [List.getD,h]
theorem aj3(l:List Ev)(hok:∀e∈l,e.Ok)(hl:l.length≤100000):Gxx 20 [fzx l] (.sl (.own 0 69) 24 (xvV (cln l))):=by
 have hil:=aba l
 refine gI oW Tryz.func20 Tryz.results20 ?_
 refine wS @hil trivial ?_
 refine aK (fun i:Nat=>mkA [(0,fzx l),(3,.sl (.own 0 69) 24 (xvV (cln (l.take i)))),(4,vi i)] [] 1 (fun _ => .top)) (fun i=>i≤l.length) (fun i=>l.length-i) 0 [] [] ?_ (Nat.zero_le _) ?_
 ·exact kE
  all_goals exact gK rfl
 ·intro i hi
  replace hi:i≤l.length:=hi
  have hcl:=aba (cln (l.take i))
  have hcb:(cln (l.take i)).length≤100000:=by have:=abd (l.take i);rw[List.length_take] at this;omega
  rcases Nat.lt_or_ge i l.length with hlt|hge
  ·have hg:=acT l i hlt xD
   have hnx:=acG l i hlt
   have ok:(l.getD i xD).Ok:=hok _ (by rw[List.getD_eq_getElem?_getD,List.getElem?_eq_getElem hlt];exact List.getElem_mem hlt)
   generalize l.getD i xD=x at *
   have hF:=af2 [clE x] (fun e he=>by simp only[List.mem_singleton] at he;subst he;exact acF ok) (by simp)
   have hbl:=ax x.o.data
   have hsn:=GM (cln (l.take i)) (clE x)
   by_cases c1:x.k=1
   ·have e:clE x=x:=if_pos c1
    unfold clK at hnx
    rw[e] at hF hnx hsn
    generalize acU [x]=F at *
    by_cases c2:F.2=0
    ·rw[c2] at hF
     by_cases c3:x.o.data.length<1000
     ·rw[c2,if_pos (by simp [c3])] at hnx
      rw[←hnx] at hsn
      (repeat' first|refine wP (aI @hil (aI @hcl (aI @hg (aI @hsn (aI @hbl @id_eq.{1}))))) trivial ?_|refine cG [1,2] hF ?_|refine tS ?_ ?_<;>intro hc|fail)
      all_goals exact bE (i+1) [0] [] hlt
     ·rw[c2,if_neg (by simp;omega),List.append_nil] at hnx
      (repeat' first|refine wP (aI @hil (aI @hcl (aI @hg (aI @hbl @id_eq.{1})))) trivial ?_|refine cG [1,2] hF ?_|refine tS ?_ ?_<;>intro hc|fail)
      all_goals (refine bC (i+1) [0] [] (hlt) (by first|omega|(simp only[List.length_cons];omega)) ?_;(refine iy ?_ ?_ (kD _ _ _) (by decide) (by decide) (by decide) (by decide);(repeat' (first|exact trivial|refine gJ _ _ rfl rfl ?_ ?_));all_goals (try simp only[pgs,pgl,pgx,pgf,pgw,fQ,ig,fU,iq,dB,eY,fJ,pgn,simprocAttr]);all_goals (try (repeat' (first|apply aI)));all_goals (try (first|exact trivial|exact gB (by omega)|exact gq rfl|exact aW rfl rfl|exact je rfl))))
      all_goals exact aW rfl (by rw[hnx])
    ·rw[if_neg (by simp [c2]),List.append_nil] at hnx
     generalize F.2=er at *
     (repeat' first|refine wP (aI @hil (aI @hcl (aI @hg (aI @hbl @id_eq.{1})))) trivial ?_|refine cG [1,2] hF ?_|refine tS ?_ ?_<;>intro hc|fail)
     all_goals (refine bC (i+1) [0] [] (hlt) (by first|omega|(simp only[List.length_cons];omega)) ?_;(refine iy ?_ ?_ (kD _ _ _) (by decide) (by decide) (by decide) (by decide);(repeat' (first|exact trivial|refine gJ _ _ rfl rfl ?_ ?_));all_goals (try simp only[pgs,pgl,pgx,pgf,pgw,fQ,ig,fU,iq,dB,eY,fJ,pgn,simprocAttr]);all_goals (try (repeat' (first|apply aI)));all_goals (try (first|exact trivial|exact gB (by omega)|exact gq rfl|exact aW rfl rfl|exact je rfl))))
     all_goals exact aW rfl (by rw[hnx])
   ·have e:clE x=⟨x.k,x.s,oE⟩:=if_neg c1
    unfold clK at hnx
    rw[e] at hF hnx hsn
    replace hF:=acE hF (show elE 24 [V.agg (xvZ x.k x.s)] _ from ⟨.inr (.inr (af8 _ _)),trivial⟩)
    generalize acU [⟨x.k,x.s,oE⟩]=F at *
    by_cases c2:F.2=0
    ·rw[c2] at hF
     rw[c2,if_pos (by simp)] at hnx
     rw[←hnx] at hsn
     (repeat' first|refine wP (aI @hil (aI @hcl (aI @hg (aI @ai @id_eq.{1})))) trivial ?_|refine cG [1,2] hF ?_|refine tS ?_ ?_<;>intro hc|fail)
     all_goals (refine bC (i+1) [0] [] (hlt) (by first|omega|(simp only[List.length_cons];omega)) ?_;(refine iy ?_ ?_ (kD _ _ _) (by decide) (by decide) (by decide) (by decide);(repeat' (first|exact trivial|refine gJ _ _ rfl rfl ?_ ?_));all_goals (try simp only[pgs,pgl,pgx,pgf,pgw,fQ,ig,fU,iq,dB,eY,fJ,pgn,simprocAttr]);all_goals (try (repeat' (first|apply aI)));all_goals (try (first|exact trivial|exact gB (by omega)|exact gq rfl|exact aW rfl rfl|exact je rfl))))
     all_goals exact Y4 rfl (by rw[←hsn];exact Js (.inr (.inr ⟨_,_,rfl,rfl,ajR _ _⟩)) _)
    ·rw[if_neg (by simp [c2]),List.append_nil] at hnx
     generalize F.2=er at *
     (repeat' first|refine wP (aI @hil (aI @hcl (aI @hg (aI @ai @id_eq.{1})))) trivial ?_|refine cG [1,2] hF ?_|refine tS ?_ ?_<;>intro hc|fail)
     all_goals (refine bC (i+1) [0] [] (hlt) (by first|omega|(simp only[List.length_cons];omega)) ?_;(refine iy ?_ ?_ (kD _ _ _) (by decide) (by decide) (by decide) (by decide);(repeat' (first|exact trivial|refine gJ _ _ rfl rfl ?_ ?_));all_goals (try simp only[pgs,pgl,pgx,pgf,pgw,fQ,ig,fU,iq,dB,eY,fJ,pgn,simprocAttr]);all_goals (try (repeat' (first|apply aI)));all_goals (try (first|exact trivial|exact gB (by omega)|exact gq rfl|exact aW rfl rfl|exact je rfl))))
     all_goals exact aW rfl (by rw[hnx])
  ·have:i=l.length:=by omega
   subst this
   rw[List.take_length]
   exact wR (aI @hil @hcl) trivial (ids [0])
theorem aj6:(⟨#[32,35]⟩:ByteArray)=sB [32,35]:=rfl
theorem aqm(n:Int):bits .and .i64 n 65535=n%65536:=jH n 16 (by decide)
theorem aqR(n:Int):bits .and .i64 n 3=n%4:=jH n 2 (by decide)
theorem aqS(c:Nat)(s:St)(d:Option Nat)(tg:Tag)(K:Kd→St→Prop):AX Tryz.prog s d 28 9 (.sl tg 1 [.c (.int .u8 (c:Int))]) K=K (kq [.sl tg 1 [.c (.int .u8 (c:Int))]] (.c (.string (sB [c])))) (s.put d (.c (.string (sB [c])))):=J9 s d 28 9 tg [c] K (by kernel_rfl) (by kernel_rfl) (by kernel_rfl) (by kernel_rfl)
def brk(T:List Nat)(i c:Nat)(k:Int):List Nat:=if k=1 then T.take i++T.drop (i+1) else if k=2 then (T.take i++[10])++T.drop i else if k=3 then (T.take i++[32,35])++T.drop i else (T.take i++[c])++T.drop (i+1)
theorem aj7{T:List Nat}(h:oct T)(i c:Nat)(hc:c<256)(k:Int):oct (brk T i c k):=by
 have h1:oct (T.take i):=fun x hx=>h x (List.mem_of_mem_take hx)
 have h2:∀j,oct (T.drop j):=fun j x hx=>h x (List.mem_of_mem_drop hx)
 have h3:oct [c]:=by intro x hx;simp only[List.mem_singleton] at hx;omega
 unfold brk
 (repeat' split)
 ·exact bM h1 (h2 _)
 ·exact bM (bM h1 (jI _ rfl)) (h2 _)
 ·exact bM (bM h1 (jI _ rfl)) (h2 _)
 ·exact bM (bM h1 h3) (h2 _)
theorem aq7(s:List Nat)(ho:oct s)(l:List Int)(hl:l.length≤9223372036854775807)(n a:Int)(c:Nat)(hc:c<256):Gxx 5 [vs s,fzi l,vi n,vi a,.c (.int .u8 c)] (vb true):=by
 obtain⟨m,hm⟩:∃m:Nat,n%8=m:=⟨(n%8).toNat,by omega⟩
 have hS:=aoN l (m+1) hl (by omega)
 have h7:=apZ n
 rw[hm] at h7
 have hm1:1+(m:Int)=((m+1:Nat):Int):=by omega
 have hlen:=afA l 3 (m+1)
 have hokS:∀e∈EJ l 3 (m+1),e.Ok:=by
  intro e he
  obtain⟨j,hj,rfl⟩:=List.mem_map.1 he
  exact apR l j (by have:=List.mem_range.1 hj;omega)
 generalize EJ l 3 (m+1)=L at *
 have hC:=aj3 L hokS (by omega)
 have hCok:=aql hokS
 have hClen:=abd L
 generalize cln L=C at *
 have hF:=af2 C hCok (by omega)
 have hkn:=aft
 have hPs:=Qm s ho
 by_cases cs:1000<s.length
 ·refine gI oW Tryz.func5 Tryz.results5 ?_
  exact wR @ai hkn ah
 by_cases c9:(acU C).2=0
 ·obtain⟨f1,f2,f3,f4⟩:=ao7 c9
  have hoT:=af7 C hCok
  rw[c9,f4] at hF
  generalize txt C=T at *
  by_cases cT:T.length=0
  ·refine gI oW Tryz.func5 Tryz.results5 ?_
   (repeat' first|refine wP (aI @ai (aI @h7 (aI @hm1 @cT))) (aI hS (aI hkn hPs)) ?_|refine cG [0] hC ?_|refine cG [0,1] hF ?_|refine tS ?_ ?_<;>intro hc|fail)
   all_goals exact rE []
  ·obtain⟨i,hi⟩:∃i:Nat,(a%65536).tmod T.length=i:=⟨(a%65536).toNat%T.length,by
    obtain⟨q,hq⟩:∃q:Nat,a%65536=q:=⟨(a%65536).toNat,by omega⟩
    rw[hq]
    rfl⟩
   have hiT:i<T.length:=by
    have h1:=Int.tmod_lt_of_pos (a%65536) (show (0:Int)<T.length by omega)
    omega
   have h16:=aqm a
   have ht0:(i:Int).toNat=i:=rfl
   have ht1:((i:Int)+1).toNat=i+1:=rfl
   have e1:(T.take i).length=i:=by simp;omega
   have e2:(T.drop i).length=T.length-i:=by simp
   have e3:(T.drop (i+1)).length=T.length-(i+1):=by simp
   have hb:=aqS c
   have h33:bits .and .i64 (n.fdiv (2^min 3 IntKind.i64.bits)) 3=n.fdiv 8%4:=aqR (n.fdiv 8)
   have a1:=fun (P:Program) (t:TypeId)=>adW P t (T.take i) [c] (by simp only[List.length_cons,List.length_nil];omega)
   have a2:=fun (P:Program) (t:TypeId)=>adW P t (T.take i++[c]) (T.drop (i+1)) (by simp only[List.length_append,List.length_cons,List.length_nil];omega)
   have a3:=fun (P:Program) (t:TypeId)=>adW P t (T.take i) (T.drop (i+1)) (by omega)
   have a4:=fun (P:Program) (t:TypeId)=>adW P t (T.take i) [10] (by simp only[List.length_cons,List.length_nil];omega)
   have a5:=fun (P:Program) (t:TypeId)=>adW P t (T.take i++[10]) (T.drop i) (by simp only[List.length_append,List.length_cons,List.length_nil];omega)
   have a6:=fun (P:Program) (t:TypeId)=>adW P t (T.take i) [32,35] (by simp only[List.length_cons,List.length_nil];omega)
   have a7:=fun (P:Program) (t:TypeId)=>adW P t (T.take i++[32,35]) (T.drop i) (by simp only[List.length_append,List.length_cons,List.length_nil];omega)
   have hPT:=Qm T hoT
   have hPX:=Qm _ (aj7 hoT i c hc (n.fdiv 8%4))
   unfold brk at hPX
   generalize n.fdiv 8%4=k at *
   refine gI oW Tryz.func5 Tryz.results5 ?_
   by_cases k1:k=1
   ·subst k1
    rw[if_pos rfl] at hPX
    (repeat' first|refine wP (aI @ai (aI @afV (aI @aj6 (aI @h7 (aI @hm1 (aI @h16 (aI @hi (aI @h33 (aI @hb (aI @ht0 (aI @ht1 (aI @a1 (aI @a2 (aI @a3 (aI @a4 (aI @a5 (aI @a6 @a7))))))))))))))))) (aI hS (aI hkn (aI hPs (aI hPT hPX)))) ?_|refine cG [0] hC ?_|refine cG [0,1] hF ?_|refine tS ?_ ?_<;>intro hc|fail)
    all_goals exact rE []
   ·rw[if_neg k1] at hPX
    by_cases k2:k=2
    ·subst k2
     rw[if_pos rfl] at hPX
     (repeat' first|refine wP (aI @ai (aI @afV (aI @aj6 (aI @h7 (aI @hm1 (aI @h16 (aI @hi (aI @h33 (aI @hb (aI @ht0 (aI @ht1 (aI @a1 (aI @a2 (aI @a3 (aI @a4 (aI @a5 (aI @a6 @a7))))))))))))))))) (aI hS (aI hkn (aI hPs (aI hPT hPX)))) ?_|refine cG [0] hC ?_|refine cG [0,1] hF ?_|refine tS ?_ ?_<;>intro hc|fail)
     all_goals exact rE []
    ·rw[if_neg k2] at hPX
     by_cases k3:k=3
     ·subst k3
      rw[if_pos rfl] at hPX
      (repeat' first|refine wP (aI @ai (aI @afV (aI @aj6 (aI @h7 (aI @hm1 (aI @h16 (aI @hi (aI @h33 (aI @hb (aI @ht0 (aI @ht1 (aI @a1 (aI @a2 (aI @a3 (aI @a4 (aI @a5 (aI @a6 @a7))))))))))))))))) (aI hS (aI hkn (aI hPs (aI hPT hPX)))) ?_|refine cG [0] hC ?_|refine cG [0,1] hF ?_|refine tS ?_ ?_<;>intro hc|fail)
      all_goals exact rE []
     ·rw[if_neg k3] at hPX
      (repeat' first|refine wP (aI @ai (aI @afV (aI @aj6 (aI @h7 (aI @hm1 (aI @h16 (aI @hi (aI @h33 (aI @hb (aI @ht0 (aI @ht1 (aI @a1 (aI @a2 (aI @a3 (aI @a4 (aI @a5 (aI @a6 @a7))))))))))))))))) (aI hS (aI hkn (aI hPs (aI hPT hPX)))) ?_|refine cG [0] hC ?_|refine cG [0,1] hF ?_|refine tS ?_ ?_<;>intro hc|fail)
      all_goals exact rE []
 ·generalize (acU C).2=er at *
  generalize (acU C).1=T at *
  refine gI oW Tryz.func5 Tryz.results5 ?_
  (repeat' first|refine wP (aI @ai (aI @h7 @hm1)) (aI hS (aI hkn hPs)) ?_|refine cG [0] hC ?_|refine cG [0,1] hF ?_|refine tS ?_ ?_<;>intro hc|fail)
  all_goals exact rE []
end Go.Proofs.YtjiolbcdfgclaaaGreatDoor
