/-
  Merged texts.
-/
import Derived.Shelf.SlSortCmp.NoneTotal
import Derived.Test.YtiohdbjggmmjcaaGreatWAY
import Derived.Shelf.SlicesQ.IndexFunc
import Derived.Ground.SlsfProg
import Derived.Ground.SlgfProg
import Derived.Test.YtiohdbjggmmjcaaGreatProg
import Derived.Test.YtiohdbjggmmjcaaGreatWAV
import Derived.Test.YtiohdbjggmmjcaaGreatWAN
import Derived.Test.YtiohdbjggmmjcaaGreatWAU
set_option linter.unusedVariables false
set_option linter.unusedSimpArgs false
set_option linter.unusedSectionVars false
set_option linter.defProp false
set_option maxRecDepth 100000
set_option maxHeartbeats 8000000
section
namespace Go.Pg
open Go
section
variable {P:Program} [Tb P] {C:Cx} {s:St} {L L':Lay} {a:Act} {w w':World}
theorem Ef:∀{l us:List Value},Reps L w (l.map V.c) us→us=l
 | [],_,h=>h
 | _::_,_,⟨u,r,e,h1,h2⟩=>by
  simp only[Rep] at h1
  rw[e,h1,Ef h2]
theorem Yr{k:Nat}:∀{ls:List (List Value)} {us:List Value},RepE L w k (ls.map fun l=>V.agg (l.map V.c)) us→us=ls.flatten
 | [],_,h=>h
 | l::ls,_,⟨u,r,e,h1,h2,h3,h4⟩=>by
  obtain⟨ar,hu,h5⟩:=h3
  have h6:=Ef h5
  subst hu
  have:(Value.agg ar).cells=ar:=rfl
  rw[this] at e h1
  rw[e,Yr h4,h6]
  rfl
theorem Yt{k:Nat}:∀{ls:List (List Value)},(∀l∈ls,l.length=k∧∀v∈l,v.oneCell'=true)→RepE L w k (ls.map fun l=>V.agg (l.map V.c)) ls.flatten
 | [],_=>rfl
 | l::ls,h=>by
  have h1:=h l (List.mem_cons_self ..)
  refine⟨.agg l.toArray,ls.flatten,rfl,by show l.toArray.size=k;simpa using h1.1,⟨?_, ?_⟩,⟨l.toArray,rfl,qf L w l⟩,Yt (fun l' h'=>h l' (List.mem_cons_of_mem _ h'))⟩
  ·simp only[V.free,V.any,Bool.not_eq_true']
   exact Az _ _ _ l
  ·show l.toArray.toList.all _=true
   rw[List.all_eq_true]
   intro v hv
   exact h1.2 v (by simpa using hv)
theorem JX{k:Nat}(hk:0<k):∀{ls:List (List Value)},(∀l∈ls,l.length=k)→∀t,ls.flatten[t]?=(ls[t / k]?).bind fun l=>l[t%k]?
 | [],_,t=>by simp
 | l::ls,h,t=>by
  have h1:=h l (List.mem_cons_self ..)
  have ih:=JX hk (ls:=ls) (fun l' h'=>h l' (List.mem_cons_of_mem _ h'))
  rw[List.flatten_cons]
  by_cases ht:t<k
  ·rw[List.getElem?_append_left (by omega),Nat.div_eq_of_lt ht,Nat.mod_eq_of_lt ht];rfl
  ·rw[List.getElem?_append_right (by omega),h1,ih (t-k)]
   have e1:t / k=(t-k) / k+1:=by rw[Nat.div_eq_sub_div hk (by omega)]
   have e2:t%k=(t-k)%k:=by rw[Nat.mod_eq_sub_mod (by omega)]
   rw[e1,e2];rfl
theorem Cc{α:Type}[Inhabited α](enc:α→List Value){k:Nat}(hk0:0<k)(hk:∀x,(enc x).length=k)(l:List α):(Sort.flatK enc k l.toArray).toList=(l.map enc).flatten:=by
 apply List.ext_getElem?
 intro t
 rw[JX hk0 (fun x hx=>by obtain⟨y,_,rfl⟩:=List.mem_map.1 hx;exact hk y)]
 by_cases ht:t<l.length*k
 ·have h1:t / k<l.length:=(Nat.div_lt_iff_lt_mul hk0).2 ht
  have h2:t%k<k:=Nat.mod_lt _ hk0
  have h3:=Sort.get_flatK enc k l.toArray t (by simpa using ht)
  have h4:t<(Sort.flatK enc k l.toArray).size:=by simpa using ht
  rw[getElem!_pos _ t h4] at h3
  rw[Array.getElem?_toList,Array.getElem?_eq_getElem h4,h3]
  rw[List.getElem?_map,List.getElem?_eq_getElem h1]
  simp only[Option.map_some,Option.bind_some]
  have h5:l.toArray[t / k]! = l[t / k]:=by rw[getElem!_pos _ _ (by simpa using h1)];simp
  rw[h5]
  have h6:t%k<(enc l[t / k]).length:=by rw[hk];exact h2
  rw[List.getElem?_eq_getElem h6,getElem!_pos (enc l[t / k]) (t%k) h6]
 ·rw[Array.getElem?_toList,Array.getElem?_eq_none (by simp;omega)]
  have h1:l.length≤t / k:=(Nat.le_div_iff_mul_le hk0).2 (by omega)
  rw[List.getElem?_map,List.getElem?_eq_none h1];rfl
theorem Pj{α:Type}[Inhabited α]{f g:FuncId}(enc:α→List Value){k:Nat}(hk0:0<k)(hk:∀x,(enc x).length=k)(h1:∀x,∀v∈enc x,v.oneCell'=true)(cf:α→α→Int)(good:∀x y,Good P g [.agg ((enc x).map V.c),.agg ((enc y).map V.c)] (.c (.int .i64 (cf x y))))(l l':List α)(hl:l'.length=l.length)(hen:jD P f=true)
  (H:∀(blk cap:Nat) (w:World),Sort.HoldsK enc k w blk 0 l.toArray→blk<w.heap.size→Go.Proofs.CmpLays P g #[] enc k cf blk 0 l.length w→Calls P f #[.slice (some ⟨blk,0,none⟩) l.length cap,.func (.func g) #[] #[]] w fun e w'=>e = .returned (.tuple #[])∧∃n os,w'=Go.Proofs.sortWorldK enc k w blk 0 n l'.toArray os)
  (H0:∀p cap w,l.length=0→Calls P f #[.slice p 0 cap,.func (.func g) #[] #[]] w fun e w'=>e = .returned (.tuple #[])∧w'=w) (id:Nat) (e:TypeId) (s:St) :
  GoodZ P f [.sl (.own id e) k (l.map fun x=>V.agg ((enc x).map V.c)),.fn g [] []] s (s.mapV (tuO id k (l'.map fun x=>V.agg ((enc x).map V.c)))) (.tup []):=by
 have em:∀l:List α,(l.map fun x=>V.agg ((enc x).map V.c))=(l.map enc).map fun l=>V.agg (l.map V.c):=fun l=>by simp
 rintro C L a w cargs hT S ⟨u,r,rfl,⟨ad,cap,cells,rfl,h2,h3⟩,⟨u2,r2,rfl,⟨a1,a2,rfl,h10,h11⟩,hr⟩⟩
 simp only[Reps] at hr h10 h11
 subst hr
 have ea1:a1=#[]:=by apply Array.ext';simpa using h10
 have ea2:a2=#[]:=by apply Array.ext';simpa using h11
 subst ea1
 subst ea2
 rw[em] at h2
 have hce:=Yr h2
 subst hce
 refine .inl ⟨hen, ?_⟩
 simp only[List.length_map] at h3 ⊢
 have hfl:∀l:List α,((l.map enc).flatten).length=l.length*k:=fun l=>by
  induction l with
  | nil=>simp
  | cons x xs ih=>simp only[List.map_cons,List.flatten_cons,List.length_append,ih,hk,List.length_cons,Nat.succ_mul];omega
 have hrk:∀(L:Lay) (w:World) (l:List α),RepE L w k ((l.map enc).map fun l=>V.agg (l.map V.c)) (l.map enc).flatten:=fun L w l=>Yt (fun y hy=>by
  obtain⟨x,_,rfl⟩:=List.mem_map.1 hy
  exact⟨hk x,h1 x⟩)
 rcases h3 with ⟨h4,rfl,rfl⟩|⟨b,arr,h4,rfl,h5,h6,h7,h8,h9⟩
 ·rw[h4]
  have hn:l=[]:=List.eq_nil_of_length_eq_zero h4
  subst hn
  refine (H0 none 0 w rfl).mono ?_
  rintro e' w' ⟨rfl,rfl⟩
  have hn':l'=[]:=List.eq_nil_of_length_eq_zero (by simpa using hl)
  subst hn'
  refine⟨_,L,rfl, ?_,#[],rfl,rfl⟩
  have K:Trans (fun _=>false) (fun _=>false) _root_.id _root_.id L L w' w':=⟨rfl,fun g h=>⟨h,.of rfl⟩,fun id e _ g h=>⟨⟨rfl,h⟩,rfl⟩,fun _ _ _ h=>⟨h,.of rfl⟩⟩
  have hψ:∀v u,Rep L w' v u→Rep L w' (tuO id k [] v) u:=by
   intro v u h
   unfold tuO
   split
   ·rename_i j e' k' xs
    split
    ·split
     ·rename_i hk;obtain⟨rfl,hxs⟩:=hk
      have:xs=[]:=List.eq_nil_of_length_eq_zero (by simpa using hxs)
      subst this;exact h
     ·trivial
    ·exact h
   ·rename_i j e' k' xs i off
    split
    ·split
     ·rename_i hk;obtain⟨rfl,hxs⟩:=hk
      have:xs=[]:=List.eq_nil_of_length_eq_zero (by simpa using hxs)
      subst this;exact h
     ·trivial
    ·exact h
   ·unfold aJ;split
    ·trivial
    ·exact h
  refine⟨S.defers,S.size,fun t=>hψ _ _ (S.env t),fun t=>hψ _ _ (S.hid t), ?_,S.wf,S.kp⟩
  intro j x hj
  simp only[St.mapV,Option.map_eq_some_iff] at hj
  obtain⟨l2,hl2,rfl⟩:=hj
  obtain⟨g',arr',k1,k2,k3⟩:=S.box j l2 hl2
  refine⟨g',arr',k1,k2, ?_⟩
  show Reps _ _ (l2.2.map (tuO id k [])) (arr'.toList.take (l2.2.map (tuO id k [])).length)
  rw[List.length_map]
  exact iZ hψ k3
 ·have hgl:=(Array.getElem?_eq_some_iff.1 h5).1
  have hcap:l.length*k≤arr.size:=by rw[h8];exact Nat.mul_le_mul_right k h6
  have hH:Sort.HoldsK enc k w b 0 l.toArray:=by
   intro j hj
   simp only[Sort.size_flatK,List.size_toArray] at hj
   refine⟨?_,by simp [World.frozen?,h5]⟩
   have hrow:Row w b 0 (l.map enc).flatten:=⟨arr,e,(0,0),h5,by rw[hfl];simpa using h9⟩
   have hj2:j<((l.map enc).flatten).length:=by rw[hfl];exact hj
   have:=hrow.cell (j:=j) (v:=((l.map enc).flatten)[j]) (by rw[List.getElem?_eq_getElem hj2])
   rw[this]
   have h12:j<(Sort.flatK enc k l.toArray).size:=by simpa using hj
   have h13:=Cc enc hk0 hk l
   have h14:(Sort.flatK enc k l.toArray)[j]! = ((l.map enc).flatten)[j]:=by
    rw[getElem!_pos _ j h12]
    simp only[←h13,Array.getElem_toList]
   simp [h14]
  have hturn:∀(dk:List α),dk.length=l.length→∀(n:Nat) (os:Array Obj),Sim C (s.mapV (tuO id k (dk.map fun x=>V.agg ((enc x).map V.c)))) L a (Go.Proofs.sortWorldK enc k w b 0 n dk.toArray os):=by
   intro dk hdk n os
   obtain⟨T,arr',k1,k2,k3⟩:=JF _root_.id h5 (Sort.flatK enc k dk.toArray) (by simpa [hdk] using hcap) n os
   refine Sim.turn (cells':=(dk.map enc).flatten) S h4 h5 k1 k2 ?_ ?_ T
   ·rw[List.map_id,Cc enc hk0 hk] at k3
    simpa using k3
   ·rw[em]
    exact hrk L w dk
  have hcmp:Go.Proofs.CmpLays P g #[] enc k cf b 0 l.length w:=by
   intro m os dk hdk x y
   have S2:=hturn dk.toList (by simpa using hdk) m os
   rw[Array.toArray_toList] at S2
   have G:=(good x y).2 (fun _=>False) (Go.Proofs.sortWorldK enc k w b 0 m dk os) [.agg (enc x).toArray,.agg (enc y).toArray] (hT _ S2.kp) (fun _ h=>h.elim) ⟨_,_,rfl,⟨_,rfl,qf _ _ _⟩,_,_,rfl,⟨_,rfl,qf _ _ _⟩,rfl⟩
   refine G.mono ?_
   rintro e' w' ⟨u,L2,rfl,hu,kp,_⟩
   simp only[Rep] at hu
   subst hu
   exact⟨rfl,kp.grew⟩
  refine (H b cap w hH hgl hcmp).mono ?_
  rintro e' w' ⟨rfl,n,os,rfl⟩
  exact⟨_,L,rfl,hturn l' hl n os,#[],rfl,rfl⟩
end
end Go.Pg
end
namespace Go.Proofs.YtiohdbjggmmjcaaGreat
open Go.Shelf
def Tryz.sortE_ren:Go.Shelf.Ren:=⟨fun|6=>141|15=>159|14=>167|28=>181|29=>182|20=>185|21=>186|22=>187|23=>188|24=>189|25=>190|26=>191|27=>192|46=>209|47=>204|48=>205|49=>210|50=>211|57=>217|n=>n,fun|22=>32|24=>119|25=>170|3=>3|39=>47|0=>0|53=>194|55=>23|4=>4|46=>189|45=>188|50=>108|5=>5|9=>9|66=>206|70=>210|76=>216|77=>217|n=>n,fun|n=>n⟩
theorem Tryz.sortE:Go.Proofs.SlLaysF0.n6 Tryz.prog Tryz.sortE_ren:={
 mixed:=by kernel_rfl
 f6:=⟨Tryz.f141.name,by decide,Tryz.func141.trans (congrArg some (by kernel_rfl))⟩
 f14:=⟨Tryz.f167.name,by decide,Tryz.func167.trans (congrArg some (by kernel_rfl))⟩
 f15:=Tryz.func159.trans (congrArg some (by kernel_rfl))
 f20:=⟨Tryz.f185.name,by decide,Tryz.func185.trans (congrArg some (by kernel_rfl))⟩
 f21:=⟨Tryz.f186.name,by decide,Tryz.func186.trans (congrArg some (by kernel_rfl))⟩
 f22:=⟨Tryz.f187.name,by decide,Tryz.func187.trans (congrArg some (by kernel_rfl))⟩
 f23:=⟨Tryz.f188.name,by decide,Tryz.func188.trans (congrArg some (by kernel_rfl))⟩
 f24:=⟨Tryz.f189.name,by decide,Tryz.func189.trans (congrArg some (by kernel_rfl))⟩
 f25:=⟨Tryz.f190.name,by decide,Tryz.func190.trans (congrArg some (by kernel_rfl))⟩
 f26:=⟨Tryz.f191.name,by decide,Tryz.func191.trans (congrArg some (by kernel_rfl))⟩
 f27:=⟨Tryz.f192.name,by decide,Tryz.func192.trans (congrArg some (by kernel_rfl))⟩
 f28:=Tryz.func181.trans (congrArg some (by kernel_rfl))
 f29:=Tryz.func182.trans (congrArg some (by kernel_rfl))
 f46:=⟨Tryz.f209.name,by decide,Tryz.func209.trans (congrArg some (by kernel_rfl))⟩
 f47:=Tryz.func204.trans (congrArg some (by kernel_rfl))
 f48:=Tryz.func205.trans (congrArg some (by kernel_rfl))
 f49:=⟨Tryz.f210.name,by decide,Tryz.func210.trans (congrArg some (by kernel_rfl))⟩
 f50:=⟨Tryz.f211.name,by decide,Tryz.func211.trans (congrArg some (by kernel_rfl))⟩
 f57:=⟨Tryz.f217.name,by decide,Tryz.func217.trans (congrArg some (by kernel_rfl))⟩
 t0:=Tryz.underlying0
 a0:=Tryz.isAgg0
 z0:=Tryz.sizeOf0
 v0:=Tryz.zeroValue0
 t3:=Tryz.underlying3
 a3:=Tryz.isAgg3
 z3:=Tryz.sizeOf3
 v3:=Tryz.zeroValue3
 t4:=Tryz.underlying4
 a4:=Tryz.isAgg4
 z4:=Tryz.sizeOf4
 v4:=Tryz.zeroValue4
 t5:=Tryz.underlying5
 a5:=Tryz.isAgg5
 z5:=Tryz.sizeOf5
 v5:=Tryz.zeroValue5
 t9:=Tryz.underlying9
 a9:=Tryz.isAgg9
 z9:=Tryz.sizeOf9
 v9:=Tryz.zeroValue9
 t22:=Tryz.underlying32
 a22:=Tryz.isAgg32
 z22:=Tryz.sizeOf32
 v22:=Tryz.zeroValue32
 t25:=Tryz.underlying170
 a25:=Tryz.isAgg170
 z25:=Tryz.sizeOf170
 v25:=Tryz.zeroValue170
 t39:=Tryz.underlying47
 a39:=Tryz.isAgg47
 z39:=Tryz.sizeOf47
 v39:=Tryz.zeroValue47
 t45:=Tryz.underlying188
 a45:=Tryz.isAgg188
 z45:=Tryz.sizeOf188
 v45:=Tryz.zeroValue188
 t46:=Tryz.underlying189
 a46:=Tryz.isAgg189
 z46:=Tryz.sizeOf189
 v46:=Tryz.zeroValue189
 t50:=Tryz.underlying108
 a50:=Tryz.isAgg108
 z50:=Tryz.sizeOf108
 v50:=Tryz.zeroValue108
 t53:=Tryz.underlying194
 a53:=Tryz.isAgg194
 z53:=Tryz.sizeOf194
 v53:=Tryz.zeroValue194
 t55:=Tryz.underlying23
 a55:=Tryz.isAgg23
 z55:=Tryz.sizeOf23
 v55:=Tryz.zeroValue23
 t66:=Tryz.underlying206
 a66:=Tryz.isAgg206
 z66:=Tryz.sizeOf206
 v66:=Tryz.zeroValue206
 t70:=Tryz.underlying210
 a70:=Tryz.isAgg210
 z70:=Tryz.sizeOf210
 v70:=Tryz.zeroValue210
 t76:=Tryz.underlying216
 a76:=Tryz.isAgg216
 z76:=Tryz.sizeOf216
 v76:=Tryz.zeroValue216
 t77:=Tryz.underlying217
 a77:=Tryz.isAgg217
 z77:=Tryz.sizeOf217
 v77:=Tryz.zeroValue217 }
end Go.Proofs.YtiohdbjggmmjcaaGreat
namespace Go.Proofs.YtiohdbjggmmjcaaGreat
open Go Go.Pg
theorem Pn(a b:En):bfE a b=true↔b.2.1<a.2.1∨(a.2.1=b.2.1∧u8 a.1<u8 b.1):=by
 unfold bfE
 rw[Cb]
 simp
theorem NG(a b:En):bfE a b=false↔¬(b.2.1<a.2.1∨(a.2.1=b.2.1∧u8 a.1<u8 b.1)):=by
 rw[←Pn];simp
theorem NH{a b c:En}(h1:bfE a b=true)(h2:bfE b c=true):bfE a c=true:=by
 rw[Pn] at *
 rcases h1 with h1|⟨h1,h3⟩<;>rcases h2 with h2|⟨h2,h4⟩
 ·left;omega
 ·left;omega
 ·left;omega
 ·right;exact⟨by omega,List.lt_trans h3 h4⟩
theorem F9{a b c:En}(h1:bfE a b=false)(h2:bfE b c=false):bfE a c=false:=by
 rw[NG] at *
 rintro (h|⟨h,h3⟩)
 ·by_cases q:b.2.1<a.2.1
  ·exact h1 (.inl q)
  ·exact h2 (.inl (by omega))
 ·by_cases q:b.2.1<a.2.1
  ·exact h1 (.inl q)
  ·by_cases q2:c.2.1<b.2.1
   ·exact h2 (.inl q2)
   ·have k1:¬u8 a.1<u8 b.1:=fun k=>h1 (.inr ⟨by omega,k⟩)
    have k2:¬u8 b.1<u8 c.1:=fun k=>h2 (.inr ⟨by omega,k⟩)
    exact List.not_lt.2 (List.le_trans (List.not_lt.1 k2) (List.not_lt.1 k1)) h3
theorem Po{a b:En}(ha:oct a.1)(hb:oct b.1)(h1:bfE a b=false)(h2:bfE b a=false):a.1=b.1:=by
 rw[NG] at *
 have e:a.2.1=b.2.1:=by
  by_cases q:b.2.1<a.2.1
  ·exact absurd (.inl q) h1
  ·by_cases q2:a.2.1<b.2.1
   ·exact absurd (.inl q2) h2
   ·omega
 have k1:¬u8 a.1<u8 b.1:=fun k=>h1 (.inr ⟨e,k⟩)
 have k2:¬u8 b.1<u8 a.1:=fun k=>h2 (.inr ⟨e.symm,k⟩)
 have k3:u8 a.1=u8 b.1:=List.le_antisymm (List.not_lt.1 k2) (List.not_lt.1 k1)
 refine EZ ha hb ?_
 have:∀x:List Nat,(⟨(u8 x).toArray⟩:ByteArray)=sB x:=fun x=>by
  show (⟨(sB x).data.toList.toArray⟩:ByteArray)=sB x
  rw[Array.toArray_toList]
 rw[←this a.1,←this b.1,k3]
def enE(x:En):List Value:=[.string (sB x.1),.int .i64 x.2.1,.int .i64 x.2.2]
theorem zh:jD Tryz.prog 141=true:=by kernel_rfl
theorem agE:∀w,(isAgg 119).run Tryz.prog w = .ok true w:=fun w=>by first|exact Tryz.isAgg119 w|rfl
theorem szE:∀w,(Go.sizeOf 119).run Tryz.prog w = .ok 3 w:=fun w=>by first|exact Tryz.sizeOf119 w|rfl
theorem acs(l:List En)(hd:l.Pairwise fun a b=>a.1≠b.1)(ho:octE l)(hl:l.length≤1000000)(id:Nat)(e:TypeId)(s:St) :
  Gxz 141 [.sl (.own id e) 3 (ev l),.fn 140 [] []] s (s.mapV (tuO id 3 (ev (srt bfE l)))) (.tup []):=by
 have hH0:∀(p:Option Addr) (cap:Nat) (w:World),Calls Tryz.prog 141 #[.slice p 0 cap,.func (.func 140) #[] #[]] w fun e w'=>e = .returned (.tuple #[])∧w'=w:=fun p cap w=>Go.Proofs.AnyF.slices_SortFunc_none Tryz.sortE p cap _ w
 cases hle:l.length with
 | zero =>
  have hn:l=[]:=List.eq_nil_of_length_eq_zero hle
  subst hn
  exact Pj (α:=En) (k:=3) enE (by decide) (fun _=>rfl) (fun x v hv=>by simp [enE] at hv;rcases hv with rfl|rfl|rfl<;>rfl) qV (fun x y=>x8 x y) [] [] rfl zh (fun blk cap w hH hb hc=>by
   refine (hH0 (some ⟨blk,0,none⟩) cap w).mono ?_
   rintro e w' ⟨rfl,rfl⟩
   exact⟨rfl,0,#[],(Go.Proofs.sortWorldK_start enE 3 w' blk 0 _ hH).symm⟩) (fun p cap w _=>hH0 p cap w) id e s
 | succ n =>
  have hne:0<l.length:=by omega
  haveI:Inhabited (Fin l.length):=⟨⟨0,hne⟩⟩
  have hlk:∀i:Fin l.length,oct (l[i]).1:=fun i=>ho _ (List.getElem_mem i.2)
  have hcf:∀i j:Fin l.length,Go.Proofs.ltOf (fun i j:Fin l.length=>qV l[i] l[j]) i j=bfE l[i] l[j]:=fun i j=>OZ _ _
  have hirr:∀x:En,bfE x x=false:=fun x=>by
   rw[NG];rintro (h|⟨_,h⟩)
   ·omega
   ·exact List.lt_irrefl _ h
  have hO:Sort.SWO (Go.Proofs.ltOf fun i j:Fin l.length=>qV l[i] l[j]):=⟨fun x=>by rw[hcf];exact hirr _,fun x y z h1 h2=>by rw[hcf] at *;exact NH h1 h2,fun x y z h1 h2=>by rw[hcf] at *;exact F9 h1 h2⟩
  have hdi:∀i j:Fin l.length,(l[i]).1=(l[j]).1→i=j:=fun i j h=>by
   rw[List.pairwise_iff_getElem] at hd
   rcases Nat.lt_trichotomy i.1 j.1 with q|q|q
   ·exact absurd h (hd i.1 j.1 i.2 j.2 q)
   ·exact Fin.ext q
   ·exact absurd h.symm (hd j.1 i.1 j.2 i.2 q)
  have hT:∀x y,Go.Proofs.ltOf (fun i j:Fin l.length=>qV l[i] l[j]) x y=false→Go.Proofs.ltOf (fun i j:Fin l.length=>qV l[i] l[j]) y x=false→x=y:=fun x y h1 h2=>by
   rw[hcf] at h1 h2
   exact hdi x y (Po (hlk x) (hlk y) h1 h2)
  have hev:∀m:List (Fin l.length),(m.map fun i=>V.agg ((enE l[i]).map V.c))=ev (m.map fun i=>l[i]):=fun m=>by
   simp only[ev,List.map_map];rfl
  have hfr:(List.finRange l.length).map (fun i=>l[i])=l:=by
   apply List.ext_getElem
   ·simp
   ·intro i h1 h2
    simp
  have key:=Pj (α:=Fin l.length) (k:=3) (P:=Tryz.prog) (f:=141) (g:=140) (fun i=>enE l[i]) (by decide) (fun _=>rfl) (fun x v hv=>by simp [enE] at hv;rcases hv with rfl|rfl|rfl<;>rfl) (fun i j=>qV l[i] l[j]) (fun x y=>x8 l[x] l[y]) (List.finRange l.length) ((List.finRange l.length).mergeSort fun x y => !(Go.Proofs.ltOf (fun i j:Fin l.length=>qV l[i] l[j])) y x) (by simp) zh
   (fun blk cap w hH hb hc=>by
    have:=Go.Proofs.AnyQ.slices_SortFunc_total Tryz.sortE 3 agE szE (fun i:Fin l.length=>enE l[i]) (fun _=>rfl) (fun x v hv=>by simp [enE] at hv;rcases hv with rfl|rfl|rfl<;>rfl) (fun i j=>qV l[i] l[j]) hO 140 #[] blk 0 cap (List.finRange l.length).toArray w (Go.Proofs.enters_of Tryz.func140 (by kernel_rfl) rfl) (by simpa using hc) hH hb (by simp;omega) hT
    have h2:=this
    simp only[List.size_toArray,List.length_finRange] at h2
    have e6:Tryz.sortE_ren.f 6=141:=rfl
    rw[e6] at h2
    simpa using h2)
   (fun p cap w _=>by simpa using hH0 p cap w) id e s
  rw[hev,hev,hfr] at key
  have hres:(((List.finRange l.length).mergeSort fun x y => !(Go.Proofs.ltOf (fun i j:Fin l.length=>qV l[i] l[j])) y x).map fun i=>l[i])=srt bfE l:=by
   have htot:∀x y:Fin l.length,bfE l[x] l[y]=true→bfE l[y] l[x]=false:=fun x y h=>by
    cases h2:bfE l[y] l[x]
    ·rfl
    ·rw[←hirr l[x],NH h h2]
   refine List.Perm.eq_of_pairwise (le:=fun a b:En=>bfE b a=false) (fun a b ha hb h1 h2 => ?_) ?_ ?_ ?_
   ·have hma:a∈l:=(sS bfE l).mem_iff.1 (by simpa using (show a∈srt bfE l from by
     obtain⟨i,_,rfl⟩:=List.mem_map.1 ha
     exact (sS bfE l).mem_iff.2 (List.getElem_mem i.2)))
    have hmb:b∈l:=(sS bfE l).mem_iff.1 hb
    obtain⟨i,hi,rfl⟩:=List.mem_iff_getElem.1 hma
    obtain⟨j,hj,rfl⟩:=List.mem_iff_getElem.1 hmb
    have:=hdi ⟨i,hi⟩ ⟨j,hj⟩ (Po (hlk ⟨i,hi⟩) (hlk ⟨j,hj⟩) h2 h1)
    have hij:i=j:=congrArg Fin.val this
    subst hij;rfl
   ·rw[List.pairwise_map]
    have hp:=List.pairwise_mergeSort (le:=fun x y:Fin l.length => !(Go.Proofs.ltOf (fun i j:Fin l.length=>qV l[i] l[j])) y x) (fun a b c h1 h2=>by
     simp only[hcf,Bool.not_eq_true'] at *
     exact F9 h2 h1) (fun a b=>by
     simp only[hcf,Bool.or_eq_true,Bool.not_eq_true']
     cases h:bfE l[b] l[a]
     ·exact .inl rfl
     ·exact .inr (htot b a h)) (List.finRange l.length)
    refine hp.imp fun {a b} h => ?_
    simpa only[hcf,Bool.not_eq_true'] using h
   ·exact Pi bfE (fun a b=>bfE b a=false) (fun x y h=>by
     cases h2:bfE y x
     ·rfl
     ·rw[←hirr x,NH h h2]) (fun x y h=>h) (fun x y z h1 h2=>F9 h2 h1) l
   ·have h1:=(List.mergeSort_perm (List.finRange l.length) fun x y => !(Go.Proofs.ltOf (fun i j:Fin l.length=>qV l[i] l[j])) y x).map fun i=>l[i]
    rw[hfr] at h1
    exact h1.trans (sS bfE l).symm
  rw[hres] at key
  exact key
abbrev tSt:TypeId:=9
abbrev tLs:TypeId:=98
abbrev tRk:TypeId:=39
@[reducible] def nestI:Tb Tryz.prog where
 T _:=True
 keep _ _ _ _:=trivial
 nest e:=e == 98
theorem dB(e:TypeId):@Tb.nest Tryz.prog nestI e=(e == 98):=rfl
def LvC(c:V)(l:List (List Nat)):Prop:=(c=yn∧l=[])∨(c = .sl .nn 1 []∧l=[])∨∃id,c = .sl (.own id tSt) 1 (sv l)
structure Lvs (lo n:Nat) (cs:List V) (v:List (List (List Nat))):Prop where
 len:cs.length=v.length
 cell:∀i,i<v.length→LvC (cs.getD i yn) (v.getD i [])
 ids:∀i id,i<v.length→id∈V.ids (cs.getD i yn)→lo≤id∧id<n
 inj:∀i j id,i<v.length→j<v.length→id∈V.ids (cs.getD i yn)→id∈V.ids (cs.getD j yn)→i=j
theorem Lvs.nil(lo n:Nat):Lvs lo n [] []:=⟨rfl,fun i hi=>absurd hi (by simp),fun i _ hi=>absurd hi (by simp),fun i _ _ hi=>absurd hi (by simp)⟩
theorem Lvs.mono{lo n m:Nat}{cs:List V}{v:List (List (List Nat))}(h:Lvs lo n cs v)(hm:n≤m):Lvs lo m cs v :=
 ⟨h.len,h.cell,fun i id hi hid=>⟨(h.ids i id hi hid).1,Nat.lt_of_lt_of_le (h.ids i id hi hid).2 hm⟩,h.inj⟩
theorem Ce(cs:List V)(i j:Nat)(c:V)(hi:i<cs.length):(cs.set i c).getD j yn=if j=i then c else cs.getD j yn:=by
 simp only[List.getD_eq_getElem?_getD,List.getElem?_set]
 by_cases h:j=i
 ·subst h;simp [hi]
 ·rw[if_neg (fun e=>h e.symm),if_neg h]
theorem yg(v:List (List (List Nat)))(i j:Nat)(l:List (List Nat))(hi:i<v.length):(v.set i l).getD j []=if j=i then l else v.getD j []:=by
 simp only[List.getD_eq_getElem?_getD,List.getElem?_set]
 by_cases h:j=i
 ·subst h;simp [hi]
 ·rw[if_neg (fun e=>h e.symm),if_neg h]
theorem Lvs.set{lo n m:Nat}{cs:List V}{v:List (List (List Nat))}(h:Lvs lo n cs v){i:Nat}(hi:i<v.length){c:V}{l:List (List Nat)}(hc:LvC c l)(hm:n≤m)(hid:∀id∈V.ids c,id∈V.ids (cs.getD i yn)∨(lo≤id∧n≤id∧id<m)):Lvs lo m (cs.set i c) (v.set i l):=by
 have hi':i<cs.length:=by rw[h.len];exact hi
 refine⟨by simp [h.len],fun j hj => ?_,fun j id hj hd => ?_,fun j k id hj hk hd hd' => ?_⟩
 ·rw[Ce _ _ _ _ hi',yg _ _ _ _ hi]
  split
  ·exact hc
  ·exact h.cell j (by simpa using hj)
 ·rw[Ce _ _ _ _ hi'] at hd
  split at hd
  ·rcases hid id hd with h1|h1
   ·obtain⟨h2,h3⟩:=h.ids i id hi h1;exact⟨h2,by omega⟩
   ·exact⟨h1.1,h1.2.2⟩
  ·obtain⟨h2,h3⟩:=h.ids j id (by simpa using hj) hd;exact⟨h2,by omega⟩
 ·rw[Ce _ _ _ _ hi'] at hd hd'
  have hj':j<v.length:=by simpa using hj
  have hk':k<v.length:=by simpa using hk
  split at hd<;>split at hd'
  ·omega
  ·rcases hid id hd with h1|h1
   ·subst_vars;exact h.inj _ k id hi hk' h1 hd'
   ·have:=(h.ids k id hk' hd').2;omega
  ·rcases hid id hd' with h1|h1
   ·subst_vars;exact h.inj j _ id hj' hi hd h1
   ·have:=(h.ids j id hj' hd).2;omega
  ·exact h.inj j k id hj' hk' hd hd'
theorem Lvs.snoc{lo n:Nat}{cs:List V}{v:List (List (List Nat))}(h:Lvs lo n cs v):Lvs lo n (cs++[yn]) (v++[[]]):=by
 have e1:∀j,(cs++[yn]).getD j yn=cs.getD j yn:=by
  intro j
  simp only[List.getD_eq_getElem?_getD,List.getElem?_append]
  split
  ·rfl
  ·rename_i hj
   rw[List.getElem?_eq_none (by omega:cs.length≤j)]
   rcases Nat.eq_zero_or_pos (j-cs.length) with h0|h0
   ·rw[h0];rfl
   ·rw[List.getElem?_eq_none (by simp;omega)]
 have e2:∀j,(v++[[]]).getD j []=v.getD j []:=by
  intro j
  simp only[List.getD_eq_getElem?_getD,List.getElem?_append]
  split
  ·rfl
  ·rename_i hj
   rw[List.getElem?_eq_none (by omega:v.length≤j)]
   rcases Nat.eq_zero_or_pos (j-v.length) with h0|h0
   ·rw[h0];rfl
   ·rw[List.getElem?_eq_none (by simp;omega)]
 have e3:∀j,v.length≤j→cs.getD j yn=yn:=fun j hj=>by
  rw[List.getD_eq_getElem?_getD,List.getElem?_eq_none (by rw[h.len];exact hj)];rfl
 refine⟨by simp [h.len],fun j hj => ?_,fun j id hj hd => ?_,fun j k id hj hk hd hd' => ?_⟩
 ·rw[e1,e2]
  by_cases hj':j<v.length
  ·exact h.cell j hj'
  ·rw[e3 j (by omega)];left;refine⟨rfl, ?_⟩
   rw[List.getD_eq_getElem?_getD,List.getElem?_eq_none (by omega)];rfl
 ·rw[e1] at hd
  by_cases hj':j<v.length
  ·exact h.ids j id hj' hd
  ·rw[e3 j (by omega)] at hd;cases hd
 ·rw[e1] at hd hd'
  by_cases hj':j<v.length
  ·by_cases hk':k<v.length
   ·exact h.inj j k id hj' hk' hd hd'
   ·rw[e3 k (by omega)] at hd';cases hd'
  ·rw[e3 j (by omega)] at hd;cases hd
theorem wO{c:V}{l:List (List Nat)}(h:LvC c l){id:Nat}(hid:id ∉ V.ids c):c.has id=false:=by
 rcases h with ⟨rfl,_⟩|⟨rfl,_⟩|⟨j,rfl⟩
 ·rfl
 ·rfl
 ·have:¬id=j:=by simpa [V.ids] using hid
  simp only[V.has,V.any,Tag.is,beq_eq_false_iff_ne];omega
theorem Lvs.map{lo n:Nat}{cs:List V}{v:List (List (List Nat))}(h:Lvs lo n cs v){i id:Nat}(hi:i<v.length)(hid:id∈V.ids (cs.getD i yn)){ψ:V→V}(hψ:∀c,c.has id=false→ψ c=c):cs.map ψ=cs.set i (ψ (cs.getD i yn)):=by
 apply List.ext_getElem?
 intro j
 have hcl:=h.len
 rw[List.getElem?_map,List.getElem?_set]
 by_cases hj:j<cs.length
 ·rw[List.getElem?_eq_getElem hj]
  by_cases hij:i=j
  ·subst hij
   rw[if_pos rfl,if_pos hj]
   simp [List.getD_eq_getElem?_getD,List.getElem?_eq_getElem hj]
  ·rw[if_neg hij]
   simp only[Option.map_some,Option.some.injEq]
   refine hψ _ (wO (l:=v.getD j []) ?_ fun h'=>hij ?_)
   ·have:=h.cell j (by omega)
    rwa [List.getD_eq_getElem?_getD,List.getElem?_eq_getElem hj] at this
   ·refine h.inj i j id hi (by omega) hid ?_
    rwa [List.getD_eq_getElem?_getD,List.getElem?_eq_getElem hj]
 ·rw[List.getElem?_eq_none (by omega)]
  by_cases hij:i=j
  ·omega
  ·rw[if_neg hij];rfl
theorem Lvs.mapN{lo n:Nat}{cs:List V}{v:List (List (List Nat))}(h:Lvs lo n cs v){ψ:V→V}(hψ:∀c l,LvC c l→(∀id∈V.ids c,lo≤id∧id<n)→ψ c=c):cs.map ψ=cs:=by
 conv=>rhs;rw[←List.map_id cs]
 refine List.map_congr_left fun c hc => ?_
 obtain⟨j,hj,rfl⟩:=List.mem_iff_getElem.1 hc
 have hcl:=h.len
 refine hψ _ (v.getD j []) ?_ fun id hid=>h.ids j id (by omega) ?_
 ·have:=h.cell j (by omega)
  rwa [List.getD_eq_getElem?_getD,List.getElem?_eq_getElem hj] at this
 ·rwa [List.getD_eq_getElem?_getD,List.getElem?_eq_getElem hj]
theorem JG{c:V}{l:List (List Nat)}(h:LvC c l)(b:Nat):dP b c=c:=by
 rcases h with ⟨rfl,_⟩|⟨rfl,_⟩|⟨j,rfl⟩<;>rfl
structure RkAt (lo n:Nat) (bx:Bxx) (b Lb:Nat) (z t l:Int) (sat:Bool) (v:List (List (List Nat))) (cs:List V):Prop where
 hb:bx b=some (tRk,[vi z,vi t,vi l,.bs Lb tLs 0 1 v.length,.c (.bool sat)])
 hL:(v=[]∧cs=[]∧bx Lb=none)∨bx Lb=some (tLs,cs)
 lv:Lvs lo n cs v
 n1:b<lo
 n2:lo≤Lb
 n3:Lb<n
 old:∀c x,c≠b→c≠Lb→bx c=some x→c<lo∧∀w∈x.2,Fr lo w
def rkB(lo:Nat)(bx:Bxx)(b Lb:Nat)(z t l:Int)(sat:Bool)(v:List (List (List Nat)))(cs:List V):Bxx :=
 fun c=>if c=b then some (tRk,[vi z,vi t,vi l,.bs Lb tLs 0 1 v.length,.c (.bool sat)]) else if c=Lb then some (tLs,cs) else if c<lo then bx c else none
theorem Cf{lo n m:Nat}{bx:Bxx}{b Lb:Nat}{z t l z' t' l':Int}{sat sat':Bool}{v v':List (List (List Nat))}{cs cs':List V}(h:RkAt lo n bx b Lb z t l sat v cs)(hm:n≤m)(h':Lvs lo m cs' v'):RkAt lo m (rkB lo bx b Lb z' t' l' sat' v' cs') b Lb z' t' l' sat' v' cs':=by
 have:=h.n1;have:=h.n2;have:=h.n3
 refine⟨if_pos rfl,.inr ?_,h',h.n1,h.n2,by omega,fun c x h1 h2 hx => ?_⟩
 ·show (if Lb=b then _ else _)=_
  rw[if_neg (by omega),if_pos rfl]
 ·simp only[rkB,if_neg h1,if_neg h2] at hx
  split at hx
  ·rename_i hc;exact⟨hc,(h.old c x h1 h2 hx).2⟩
  ·cases hx
def Ci(v:List (List (List Nat)))(p:Nat)(ks:List (List Nat)):List (List (List Nat)):=(iJ v (p+1)).set p (v.getD p []++ks)
def jX(v:List (List (List Nat)))(s:Stl):List (List (List Nat)) :=
 s.2.2.2.2++(if s.1<v.length then (v.getD s.1 []++s.2.1)::v.drop (s.1+1) else if s.2.1.length=0 then [] else [s.2.1])
theorem Cj(v:List (List (List Nat)))(s:Stl)(ho:s.2.2.2.2.length=s.1):(jX v s).length=if s.1<v.length then v.length else if s.2.1.length=0 then s.1 else s.1+1:=by
 unfold jX
 split
 ·simp [ho];omega
 ·split<;>simp [ho]
theorem Pq(v:List (List (List Nat)))(s:Stl)(ho:s.2.2.2.2.length=s.1):s.1<(jX v s).length↔(s.1<v.length∨0<s.2.1.length):=by
 rw[Cj v s ho]
 split
 ·omega
 ·split<;>omega
theorem Yu(v:List (List (List Nat)))(s:Stl)(ho:s.2.2.2.2.length=s.1):srt kl ((jX v s).getD s.1 [])=dR v s:=by
 have e:(jX v s).getD s.1 []=if s.1<v.length then v.getD s.1 []++s.2.1 else s.2.1:=by
  unfold jX
  rw[List.getD_eq_getElem?_getD,List.getElem?_append_right (by omega),ho,Nat.sub_self]
  split
  ·rfl
  ·split
   ·rename_i h;rw[List.eq_nil_of_length_eq_zero h];rfl
   ·rfl
 rw[e];rfl
theorem yh(v:List (List (List Nat)))(i:Nat)(h:i<v.length):v.drop i=v.getD i []::v.drop (i+1):=by
 rw[List.drop_eq_getElem_cons h,List.getD_eq_getElem?_getD,List.getElem?_eq_getElem h];rfl
theorem JH(v:List (List (List Nat)))(h:Nat)(ca:List (List Nat))(lo a lo' a':Int)(o:List (List (List Nat)))(ho:o.length=h)(hc:h<v.length∨0<ca.length)(x:List (List Nat)) :
  (jX v (h,ca,lo,a,o)).set h x=jX v (h+1,[],lo',a',o++[x]):=by
 have e1:jX v (h+1,[],lo',a',o++[x])=(o++[x])++v.drop (h+1):=by
  unfold jX
  simp only
  split
  ·rename_i h1;rw[yh v (h+1) h1];simp
  ·rename_i h1;rw[List.drop_eq_nil_of_le (by omega)];simp
 rw[e1]
 unfold jX
 simp only
 rw[List.set_append_right _ _ (by omega),ho,Nat.sub_self]
 split
 ·simp
 ·rename_i h1
  rw[if_neg (by omega),List.drop_eq_nil_of_le (by omega)];simp
theorem Yv(v:List (List (List Nat)))(h:Nat)(ca:List (List Nat))(lo a lo' a':Int)(o:List (List (List Nat)))(ho:o.length=h)(hc:h<v.length∨0<ca.length)(x up:List (List Nat))(hu:0<up.length) :
  Ci ((jX v (h,ca,lo,a,o)).set h x) (h+1) up=jX v (h+1,up,lo',a',o++[x]):=by
 have e0:(jX v (h,ca,lo,a,o)).set h x=o++x::v.drop (h+1):=by
  rw[JH v h ca lo a lo' a' o ho hc x]
  unfold jX
  simp only
  split
  ·rename_i h1;rw[yh v (h+1) h1];simp
  ·rename_i h1;rw[List.drop_eq_nil_of_le (by omega)];simp
 rw[e0]
 have hl:(o++x::v.drop (h+1)).length=h+1+(v.length-(h+1)):=by simp [ho];omega
 unfold Ci jX
 simp only
 by_cases h1:h+1<v.length
 ·rw[if_pos h1]
  have hg:iJ (o++x::v.drop (h+1)) (h+1+1)=o++x::v.drop (h+1):=qx _ _ (by rw[hl];omega)
  have hd:(o++x::v.drop (h+1)).getD (h+1) []=v.getD (h+1) []:=by
   rw[List.getD_eq_getElem?_getD,List.getElem?_append_right (by omega),ho,show h+1-h=1 by omega]
   simp [List.getD_eq_getElem?_getD,List.getElem?_drop]
  rw[hg,hd,List.set_append_right _ _ (by omega),ho,show h+1-h=1 by omega,yh v (h+1) h1]
  simp
 ·rw[if_neg h1,if_neg (by omega)]
  have hdn:v.drop (h+1)=[]:=List.drop_eq_nil_of_le (by omega)
  rw[hdn]
  have hg:iJ (o++[x]) (h+1+1)=o++[x]++[[]]:=by
   unfold iJ;simp [ho,show h+1+1-(h+1)=1 by omega]
  have hd:(o++[x]).getD (h+1) []=[]:=by
   rw[List.getD_eq_getElem?_getD,List.getElem?_eq_none (by simp [ho])];rfl
  rw[hg,hd,List.set_append_right _ _ (by simp [ho])]
  simp [ho]
theorem Tj(v:List (List (List Nat)))(z:Int)(co:List Nat)(f:Nat)(s:Stl)(hc:¬(s.1<v.length∨0<s.2.1.length)):kY v z co f s=s:=by
 cases f with
 | zero=>rfl
 | succ f=>show (if _ then _ else _)=_;rw[if_neg hc]
end Go.Proofs.YtiohdbjggmmjcaaGreat
