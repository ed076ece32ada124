/-
  Merged texts.
-/
import Derived.Test.YtiohdbjggmmjcaaGreatWAV
set_option linter.unusedVariables false
set_option linter.unusedSimpArgs false
set_option linter.unusedSectionVars false
set_option linter.defProp false
set_option maxRecDepth 100000
set_option maxHeartbeats 8000000
namespace Go.Proofs.YtiohdbjggmmjcaaGreat
open Go Go.Pg
theorem CJ{l:List En}(h:octE l)(i:Nat)(e:En)(he:oct e.1):octE (l.set i e):=by
 intro x hx
 rcases List.mem_or_eq_of_mem_set hx with h1|rfl
 ·exact h x h1
 ·exact he
theorem YS{l:List En}(h:octE l)(e:En)(he:oct e.1):octE (l++[e]):=by
 intro x hx
 rcases List.mem_append.1 hx with h1|h1
 ·exact h x h1
 ·rw[List.mem_singleton.1 h1];exact he
theorem YT(t:Tp)(k:List Nat)(w:Int)(ho:octE t.e)(hk:oct k)(hn:t.e.length≤1000000):octE (oz t k w).1.e∧(oz t k w).1.e.length≤1000000:=by
 unfold oz
 split
 ·exact⟨(fun e he=>by cases he),Nat.zero_le _⟩
 ·rename_i h1
  have h1:=Classical.byContradiction h1
  split
  ·exact⟨(fun e he=>by cases he),Nat.zero_le _⟩
  ·have h2:=kK h1
   have key:octE (kJ t k w).1∧(kJ t k w).1.length≤t.e.length+1:=by
    unfold kJ
    split
    ·exact⟨CJ ho _ _ (fV ho _),by simp⟩
    ·split
     ·exact⟨YS ho _ hk,by simp⟩
     ·exact⟨CJ ho _ _ hk,by simp⟩
   refine⟨fun e he=>key.1 e ((OO _ _ _).1 he), ?_⟩
   show (srt bfE (kJ t k w).1).length≤_
   rw[wI];omega
theorem JR(d:Int){l:List En}(h:octE l):octE (iU d l):=by
 induction l with
 | nil=>exact h
 | cons y l ih =>
  have h2:octE l:=fun e he=>h e (by simp [he])
  rw[pU]
  split
  ·intro e he
   rcases List.mem_cons.1 he with rfl|he
   ·exact h y (by simp)
   ·exact ih h2 e he
  ·exact ih h2
theorem JS(x:En){l:List En}(hx:oct x.1)(h:octE l):octE (tH x l):=by
 intro e he
 rcases (Xz x e l).1 he with rfl|he
 ·exact hx
 ·exact h e he
theorem YU(t:Fq)(k:List Nat)(w:Int)(ho:octE t.e)(hk:oct k)(hn:t.e.length≤1000000):octE (lU t k w).1.e∧(lU t k w).1.e.length≤1000000:=by
 unfold lU
 split
 ·exact⟨(fun e he=>by cases he),Nat.zero_le _⟩
 ·rename_i h1
  have h1:=Classical.byContradiction h1
  split
  ·exact⟨(fun e he=>by cases he),Nat.zero_le _⟩
  ·have h2:=jW h1
   show octE (dQ t k w).1∧(dQ t k w).1.length≤_
   have hl:=BF (dJ w t.e) t.e
   unfold dQ
   split
   ·exact⟨CJ ho _ _ (fV ho _),by simp;omega⟩
   ·split
    ·exact⟨JS _ hk ho,by simp only[Jj];omega⟩
    ·simp only
     split
     ·exact⟨JS _ hk (JR _ ho),by simp only[Jj];omega⟩
     ·exact⟨JR _ ho,by omega⟩
def yj(v:List (List (List Nat))):Prop:=∀l∈v,octL l
theorem JU{v:List (List (List Nat))}(h:yj v)(i:Nat):octL (v.getD i []):=by
 rcases Nat.lt_or_ge i v.length with hi|hi
 ·exact h _ (nJ _ _ _ hi)
 ·rw[List.getD,List.getElem?_eq_none hi];intro e he;cases he
theorem YV{v:List (List (List Nat))}(h:yj v)(i:Nat)(l:List (List Nat))(hl:octL l):yj (v.set i l):=by
 intro x hx
 rcases List.mem_or_eq_of_mem_set hx with h1|rfl
 ·exact h x h1
 ·exact hl
theorem TF(k:List Nat)(hk:oct k)(ps:List Int)(v:List (List (List Nat)))(hv:yj v)(i:Nat):yj (jL k ps v i):=by
 induction i with
 | zero=>exact hv
 | succ i ih =>
  show yj (Dp k (jL k ps v i) (ps.getD i 0).toNat)
  unfold Dp
  refine YV ?_ _ _ ?_
  ·intro l hl
   unfold iJ at hl
   rcases List.mem_append.1 hl with h1|h1
   ·exact ih l h1
   ·rw[List.eq_of_mem_replicate h1];intro e he;cases he
  ·intro e he
   rcases List.mem_append.1 he with h1|h1
   ·exact JU ih _ e h1
   ·rw[List.mem_singleton.1 h1];exact hk
def YW(s:Stl):Prop:=octL s.2.1∧∀l∈s.2.2.2.2,octL l∧l.length≤32
theorem NL(v:List (List (List Nat)))(z:Int)(hz:z≤32)(co:List Nat)(s:Stl)(hv:yj v)(h:YW s):YW (iH v z co s):=by
 obtain⟨h1,h2⟩:=h
 have hc:octL (dR v s):=by
  intro e he
  unfold dR at he
  rw[OO] at he
  split at he
  ·rcases List.mem_append.1 he with he|he
   ·exact JU hv _ e he
   ·exact h1 e he
  ·exact h1 e he
 unfold iH
 split
 ·rename_i hlt
  refine⟨(fun e he=>by cases he),fun l hl => ?_⟩
  rcases List.mem_append.1 hl with hl|hl
  ·exact h2 l hl
  ·rw[List.mem_singleton.1 hl];exact⟨hc,by omega⟩
 ·refine⟨?_,fun l hl => ?_⟩
  ·intro e he
   unfold evN at he
   obtain⟨j,_,rfl⟩:=List.mem_map.1 he
   exact sG hc _
  ·rcases List.mem_append.1 hl with hl|hl
   ·exact h2 l hl
   ·rw[List.mem_singleton.1 hl]
    exact⟨fun e he=>hc e (List.mem_of_mem_drop he),by rw[List.length_drop];omega⟩
theorem YX(v:List (List (List Nat)))(z:Int)(hz:z≤32)(co:List Nat)(hv:yj v):∀(f:Nat) (s:Stl),YW s→YW (kY v z co f s):=by
 intro f
 induction f with
 | zero=>intro s h;exact h
 | succ f ih =>
  intro s h
  unfold kY
  split
  ·exact ih _ (NL v z hz co s hv h)
  ·exact h
theorem TG:∀(f:Nat) (l:List (List (List Nat))),(∀x∈jb f l,x∈l)∧(jb f l).length≤l.length:=by
 intro f
 induction f with
 | zero=>intro l;exact⟨fun x h=>h,Nat.le_refl _⟩
 | succ f ih =>
  intro l
  unfold jb
  split
  ·obtain⟨h1,h2⟩:=ih (l.take (l.length-1))
   exact⟨fun x hx=>List.mem_of_mem_take (h1 x hx),by rw[List.length_take] at h2;omega⟩
  ·exact⟨fun x h=>h,Nat.le_refl _⟩
theorem YY(x:Rk)(k:List Nat)(w:Int)(co:List Nat)(at':Int)(hk:oct k)(hv:yj x.v)(hn:x.v.length≤1000000)(hm:∀l∈x.v,l.length≤1000000) :
  yj (yl x k w co at').1.v∧(yl x k w co at').1.v.length≤1000000∧∀l∈(yl x k w co at').1.v,l.length≤1000000:=by
 have h0:yj []∧([]:List (List (List Nat))).length≤1000000∧∀l∈([]:List (List (List Nat))),l.length≤1000000:=⟨(fun l hl=>by cases hl),Nat.zero_le _,fun l hl=>by cases hl⟩
 unfold yl
 split
 ·exact h0
 ·rename_i h1
  have h1:=Classical.byContradiction h1
  split
  ·exact h0
  ·rename_i h2
   have h2:=Classical.byContradiction h2
   split
   ·exact h0
   ·split
    ·exact⟨hv,hn,hm⟩
    ·obtain⟨i1,i2,i3,i4,i5⟩:=Na h1
     have hin:=BH k (gY w 63) x.v (fun i=>by have:=BI w 63 i (by decide);omega) 31 i5 (by omega) (gY w 63).length
     have hpo:=TF k hk (gY w 63) x.v hv (gY w 63).length
     have hgo:=YX (xY x k w) x.z (by omega) co hpo ((xY x k w).length*(100+1)) (0,[],x.l,at',[]) ⟨(fun e he=>by cases he),(fun l hl=>by cases hl)⟩
     have hle:=abK (xY x k w) x.z co ((xY x k w).length*(100+1)) (0,[],x.l,at',[])
     have hpl:(xY x k w).length≤63:=hin.1
     have hml:(xY x k w).length*(100+1)≤63*101:=Nat.mul_le_mul_right 101 hpl
     obtain⟨t1,t2⟩:=TG (BJ x k w co at').2.2.2.2.length (BJ x k w co at').2.2.2.2
     have hsl:(BJ x k w co at').2.2.2.2.length≤0+(xY x k w).length*(100+1):=hle
     have hsg:YW (BJ x k w co at'):=hgo
     show yj (jb _ _)∧(jb _ _).length≤_∧∀l∈jb _ _,_
     exact⟨fun l hl=>(hsg.2 l (t1 l hl)).1,by omega,fun l hl=>by have:=(hsg.2 l (t1 l hl)).2;omega⟩
abbrev zer(n:Nat):List Int:=List.replicate n 0
theorem YZ(d z s:Int)(h:1≤d∧d≤8∧1≤z∧z≤64):Gxx 128 [vi d,vi z,vu s] (.tup [.agg (cmF ⟨d,z,s,zer (d*z).toNat,false⟩),vi 0]):=by
 refine Good.fzt (vs:=[.agg [vi d,vi z,vu s,.sl (.own 0 3) 1 (iv (zer (d*z).toNat)),vb false],vi 0]) ?_ rfl ⟨aH _,aH _,trivial⟩
 have k1:=bG d 1 8 ⟨h.1,h.2.1⟩
 have k2:=bG z 1 64 h.2.2
 have hm:=xN (d:=d) (z:=z) ⟨h.1,h.2.1⟩ h.2.2
 have hrep:∀n:Nat,List.replicate n (V.c (.int .i64 0))=iv (zer n):=fun n=>by simp [iv]
 refine gI oW Tryz.func128 Tryz.results128 ?_
 exact wR @hrep (aI k1 k2) (ids [1])
theorem Y0(p s:Int)(h:2≤p∧p≤8):Gxx 129 [vi p,vu s] (.tup [.agg (llF ⟨p,s,zer (2^p.toNat)⟩),vi 0]):=by
 refine Good.fzt (vs:=[.agg [vi p,vu s,.sl (.own 0 3) 1 (iv (zer (2^p.toNat)))],vi 0]) ?_ rfl ⟨aH _,aH _,trivial⟩
 have k1:=bG p 2 8 h
 obtain⟨hm,hm2,_⟩:=qo h
 have hrep:∀n:Nat,List.replicate n (V.c (.int .i64 0))=iv (zer n):=fun n=>by simp [iv]
 generalize 2^p.toNat=q at hm hm2 ⊢
 refine gI oW Tryz.func129 Tryz.results129 ?_
 exact wR (aI @hrep @hm) k1 (ids [1])
theorem Y1(p:Int)(h:1≤p∧p≤32):Gxx 130 [vi p] (.tup [.agg (tpF ⟨p,0,[],false⟩),vi 0]):=by
 refine Good.fzt (vs:=[.agg [vi p,vi 0,nls,vb false],vi 0]) ?_ rfl ⟨.inr ⟨_,_,rfl,rfl,⟨.inl rfl,.inl rfl,o5 _ _,.inl rfl,trivial⟩⟩,aH _,trivial⟩
 have k1:=bG p 1 32 h
 refine gI oW Tryz.func130 Tryz.results130 ?_
 exact wR trivial k1 ay
theorem Y2(p:Int)(h:1≤p∧p≤32):Gxx 131 [vi p] (.tup [.agg (fqF ⟨p,0,0,[],false⟩),vi 0]):=by
 refine Good.fzt (vs:=[.agg [vi p,vi 0,vi 0,nls,vb false],vi 0]) ?_ rfl ⟨.inr ⟨_,_,rfl,rfl,⟨.inl rfl,.inl rfl,.inl rfl,o5 _ _,.inl rfl,trivial⟩⟩,aH _,trivial⟩
 have k1:=bG p 1 32 h
 refine gI oW Tryz.func131 Tryz.results131 ?_
 exact wR trivial k1 ay
theorem Y3(p:Int)(h:2≤p∧p≤32∧p%2=0):Gxx 132 [vi p] (.tup [.agg (rkF ⟨p,0,0,[],false⟩),vi 0]):=by
 refine Good.fzt (vs:=[.agg [vi p,vi 0,vi 0,nls,vb false],vi 0]) ?_ rfl ⟨.inr ⟨_,_,rfl,rfl,⟨.inl rfl,.inl rfl,.inl rfl,o5 _ _,.inl rfl,trivial⟩⟩,aH _,trivial⟩
 have k1:=bG p 2 32 ⟨h.1,h.2.1⟩
 have et:p.tmod 2=p%2:=Int.tmod_eq_emod_of_nonneg (by omega)
 refine gI oW Tryz.func132 Tryz.results132 ?_
 exact wR @et k1 ay
def kT(p:Pm):Sk :=
 if p.k=1 then ⟨p,Tl.o,Cm.o,Ll.o,Tp.o,Fq.o,Rk.o⟩
 else if p.k=2 then ⟨p,Tl.o,⟨p.d,p.z,p.s,zer (p.d*p.z).toNat,false⟩,Ll.o,Tp.o,Fq.o,Rk.o⟩
 else if p.k=3 then ⟨p,Tl.o,Cm.o,⟨p.z,p.s,zer (2^p.z.toNat)⟩,Tp.o,Fq.o,Rk.o⟩
 else if p.k=4 then ⟨p,Tl.o,Cm.o,Ll.o,⟨p.z,0,[],false⟩,Fq.o,Rk.o⟩
 else if p.k=5 then ⟨p,Tl.o,Cm.o,Ll.o,Tp.o,⟨p.z,0,0,[],false⟩,Rk.o⟩
 else ⟨p,Tl.o,Cm.o,Ll.o,Tp.o,Fq.o,⟨p.z,0,0,[],false⟩⟩
theorem agS{z d s:Int}(h:vp 2 z d s=0):1≤d∧d≤8∧1≤z∧z≤64:=by unfold vp at h;simp at h;omega
theorem afj{z d s:Int}(h:vp 3 z d s=0):2≤z∧z≤8:=by unfold vp at h;simp at h;omega
theorem ahW{z d s:Int}(h:vp 4 z d s=0):1≤z∧z≤32:=by unfold vp at h;simp at h;omega
theorem ahX{z d s:Int}(h:vp 5 z d s=0):1≤z∧z≤32:=by unfold vp at h;simp at h;omega
theorem ahY{z d s:Int}(h:vp 6 z d s=0):2≤z∧z≤32∧z%2=0:=by unfold vp at h;simp at h;omega
theorem Y4(p:Pm)(hs:0≤p.s∧p.s<18446744073709551616)(h:vp p.k p.z p.d p.s=0):(kT p).Ok:=by
 have h0:(0:Int)≤0∧(0:Int)<18446744073709551616:=⟨by decide,by decide⟩
 have e0:octE []:=fun e he=>by cases he
 have v0:yj []:=fun e he=>by cases he
 have m0:∀l∈([]:List (List (List Nat))),l.length≤1000000:=fun e he=>by cases he
 obtain⟨k,z,d,s⟩:=p
 simp only at hs h
 unfold kT
 simp only
 split
 ·exact⟨hs,h0,h0,Nat.zero_le _,Nat.zero_le _,e0,Nat.zero_le _,e0,Nat.zero_le _,v0,Nat.zero_le _,m0⟩
 ·split
  ·rename_i hk;subst hk
   have h2:=agS h
   have hm:=xN (d:=d) (z:=z) ⟨h2.1,h2.2.1⟩ h2.2.2
   exact⟨hs,hs,h0,by simp;omega,Nat.zero_le _,e0,Nat.zero_le _,e0,Nat.zero_le _,v0,Nat.zero_le _,m0⟩
  ·split
   ·rename_i hk;subst hk
    have h2:=(qo (afj h)).2.1
    exact⟨hs,h0,hs,Nat.zero_le _,by simp only[List.length_replicate];omega,e0,Nat.zero_le _,e0,Nat.zero_le _,v0,Nat.zero_le _,m0⟩
   ·split
    ·exact⟨hs,h0,h0,Nat.zero_le _,Nat.zero_le _,e0,Nat.zero_le _,e0,Nat.zero_le _,v0,Nat.zero_le _,m0⟩
    ·split
     ·exact⟨hs,h0,h0,Nat.zero_le _,Nat.zero_le _,e0,Nat.zero_le _,e0,Nat.zero_le _,v0,Nat.zero_le _,m0⟩
     ·exact⟨hs,h0,h0,Nat.zero_le _,Nat.zero_le _,e0,Nat.zero_le _,e0,Nat.zero_le _,v0,Nat.zero_le _,m0⟩
theorem TI(z d s:Int)(h:vp 1 z d s=0):Gxx 64 [.agg [vi 1,vi z,vi d,vu s]] (.tup [.agg (skF (kT ⟨1,z,d,s⟩)),vi 0]):=by
 have eo:kT ⟨1,z,d,s⟩=⟨⟨1,z,d,s⟩,Tl.o,Cm.o,Ll.o,Tp.o,Fq.o,Rk.o⟩:=rfl
 rw[eo]
 refine Good.fzt (vs:=[.agg (skC ⟨⟨1,z,d,s⟩,Tl.o,Cm.o,Ll.o,Tp.o,Fq.o,Rk.o⟩ nls nls nls nls nls),vi 0]) ?_ rfl ⟨iy ⟨⟨1,z,d,s⟩,Tl.o,Cm.o,Ll.o,Tp.o,Fq.o,Rk.o⟩ (aX _) (aX _) (aX _) (aX _) (aX _),aH _,trivial⟩
 have hv:=bQ 1 z d s
 rw[h] at hv
 refine gI oD Tryz.func64 Tryz.results64 ?_
 exact wRA trivial hv ay
theorem TJ(z d s:Int)(h:vp 2 z d s=0):Gxx 64 [.agg [vi 2,vi z,vi d,vu s]] (.tup [.agg (skF (kT ⟨2,z,d,s⟩)),vi 0]):=by
 have eo:kT ⟨2,z,d,s⟩=⟨⟨2,z,d,s⟩,Tl.o,⟨d,z,s,zer (d*z).toNat,false⟩,Ll.o,Tp.o,Fq.o,Rk.o⟩:=rfl
 rw[eo]
 refine Good.fzt (vs:=[.agg (skC ⟨⟨2,z,d,s⟩,Tl.o,⟨d,z,s,zer (d*z).toNat,false⟩,Ll.o,Tp.o,Fq.o,Rk.o⟩ (fzi (zer (d*z).toNat)) nls nls nls nls),vi 0]) ?_ rfl ⟨iy ⟨⟨2,z,d,s⟩,Tl.o,⟨d,z,s,zer (d*z).toNat,false⟩,Ll.o,Tp.o,Fq.o,Rk.o⟩ (nK _) (aX _) (aX _) (aX _) (aX _),aH _,trivial⟩
 have hv:=bQ 2 z d s
 rw[h] at hv
 have hc:=YZ d z s (agS h)
 generalize zer (d*z).toNat=Z at *
 refine gI oD Tryz.func64 Tryz.results64 ?_
 exact wRA trivial (aI hv hc) ay
theorem TK(z d s:Int)(h:vp 3 z d s=0):Gxx 64 [.agg [vi 3,vi z,vi d,vu s]] (.tup [.agg (skF (kT ⟨3,z,d,s⟩)),vi 0]):=by
 have eo:kT ⟨3,z,d,s⟩=⟨⟨3,z,d,s⟩,Tl.o,Cm.o,⟨z,s,zer (2^z.toNat)⟩,Tp.o,Fq.o,Rk.o⟩:=rfl
 rw[eo]
 refine Good.fzt (vs:=[.agg (skC ⟨⟨3,z,d,s⟩,Tl.o,Cm.o,⟨z,s,zer (2^z.toNat)⟩,Tp.o,Fq.o,Rk.o⟩ nls (fzi (zer (2^z.toNat))) nls nls nls),vi 0]) ?_ rfl ⟨iy ⟨⟨3,z,d,s⟩,Tl.o,Cm.o,⟨z,s,zer (2^z.toNat)⟩,Tp.o,Fq.o,Rk.o⟩ (aX _) (nK _) (aX _) (aX _) (aX _),aH _,trivial⟩
 have hv:=bQ 3 z d s
 rw[h] at hv
 have hc:=Y0 z s (afj h)
 generalize zer (2^z.toNat)=Z at *
 refine gI oD Tryz.func64 Tryz.results64 ?_
 exact wRA trivial (aI hv hc) ay
theorem TL(z d s:Int)(h:vp 4 z d s=0):Gxx 64 [.agg [vi 4,vi z,vi d,vu s]] (.tup [.agg (skF (kT ⟨4,z,d,s⟩)),vi 0]):=by
 have eo:kT ⟨4,z,d,s⟩=⟨⟨4,z,d,s⟩,Tl.o,Cm.o,Ll.o,⟨z,0,[],false⟩,Fq.o,Rk.o⟩:=rfl
 rw[eo]
 refine Good.fzt (vs:=[.agg (skC ⟨⟨4,z,d,s⟩,Tl.o,Cm.o,Ll.o,⟨z,0,[],false⟩,Fq.o,Rk.o⟩ nls nls (fzv []) nls nls),vi 0]) ?_ rfl ⟨iy ⟨⟨4,z,d,s⟩,Tl.o,Cm.o,Ll.o,⟨z,0,[],false⟩,Fq.o,Rk.o⟩ (aX _) (aX _) (nK _) (aX _) (aX _),aH _,trivial⟩
 have hv:=bQ 4 z d s
 rw[h] at hv
 have hc:=Y1 z (ahW h)
 refine gI oD Tryz.func64 Tryz.results64 ?_
 exact wRA trivial (aI hv hc) ay
theorem TM(z d s:Int)(h:vp 5 z d s=0):Gxx 64 [.agg [vi 5,vi z,vi d,vu s]] (.tup [.agg (skF (kT ⟨5,z,d,s⟩)),vi 0]):=by
 have eo:kT ⟨5,z,d,s⟩=⟨⟨5,z,d,s⟩,Tl.o,Cm.o,Ll.o,Tp.o,⟨z,0,0,[],false⟩,Rk.o⟩:=rfl
 rw[eo]
 refine Good.fzt (vs:=[.agg (skC ⟨⟨5,z,d,s⟩,Tl.o,Cm.o,Ll.o,Tp.o,⟨z,0,0,[],false⟩,Rk.o⟩ nls nls nls (fzv []) nls),vi 0]) ?_ rfl ⟨iy ⟨⟨5,z,d,s⟩,Tl.o,Cm.o,Ll.o,Tp.o,⟨z,0,0,[],false⟩,Rk.o⟩ (aX _) (aX _) (aX _) (nK _) (aX _),aH _,trivial⟩
 have hv:=bQ 5 z d s
 rw[h] at hv
 have hc:=Y2 z (ahX h)
 refine gI oD Tryz.func64 Tryz.results64 ?_
 exact wRA trivial (aI hv hc) ay
theorem TN(z d s:Int)(h:vp 6 z d s=0):Gxx 64 [.agg [vi 6,vi z,vi d,vu s]] (.tup [.agg (skF (kT ⟨6,z,d,s⟩)),vi 0]):=by
 have eo:kT ⟨6,z,d,s⟩=⟨⟨6,z,d,s⟩,Tl.o,Cm.o,Ll.o,Tp.o,Fq.o,⟨z,0,0,[],false⟩⟩:=rfl
 rw[eo]
 refine Good.fzt (vs:=[.agg (skC ⟨⟨6,z,d,s⟩,Tl.o,Cm.o,Ll.o,Tp.o,Fq.o,⟨z,0,0,[],false⟩⟩ nls nls nls nls (fzl [])),vi 0]) ?_ rfl ⟨iy ⟨⟨6,z,d,s⟩,Tl.o,Cm.o,Ll.o,Tp.o,Fq.o,⟨z,0,0,[],false⟩⟩ (aX _) (aX _) (aX _) (aX _) (nK _),aH _,trivial⟩
 have hv:=bQ 6 z d s
 rw[h] at hv
 have hc:=Y3 z (ahY h)
 refine gI oD Tryz.func64 Tryz.results64 ?_
 exact wRA trivial (aI hv hc) ay
theorem acA(p:Pm)(h:vp p.k p.z p.d p.s=0):Gxx 64 [.agg (pmF p)] (.tup [.agg (skF (kT p)),vi 0]):=by
 obtain⟨k,z,d,s⟩:=p
 simp only at h
 rcases Jd h with rfl|rfl|rfl|rfl|rfl|rfl
 ·exact TI z d s h
 ·exact TJ z d s h
 ·exact TK z d s h
 ·exact TL z d s h
 ·exact TM z d s h
 ·exact TN z d s h
def bg(s:Sk)(k:List Nat)(w:Int)(co:List Nat)(at':Int):Sk × Int × Int :=
 if vSk s≠0 then (Sk.o,0,vSk s) else if bT k w≠0 then (Sk.o,0,bT k w) else if ¬(0≤at'∧at'≤1073741824) then (Sk.o,0,5)
 else if s.p.k=1 then (⟨s.p,(rV s.tl k w).1,s.cm,s.ll,s.tp,s.fq,s.rk⟩,at',0)
 else if s.p.k=2 then (⟨s.p,s.tl,(nH s.cm k w).1,s.ll,s.tp,s.fq,s.rk⟩,at',0)
 else if s.p.k=3 then (⟨s.p,s.tl,s.cm,(lN s.ll k w).1,s.tp,s.fq,s.rk⟩,at',0)
 else if s.p.k=4 then (⟨s.p,s.tl,s.cm,s.ll,(oz s.tp k w).1,s.fq,s.rk⟩,at',0)
 else if s.p.k=5 then (⟨s.p,s.tl,s.cm,s.ll,s.tp,(lU s.fq k w).1,s.rk⟩,at',0)
 else (⟨s.p,s.tl,s.cm,s.ll,s.tp,s.fq,(yl s.rk k w co at').1⟩,(yl s.rk k w co at').2.1,0)
theorem NM:Sk.o.Ok:=⟨⟨by decide,by decide⟩,⟨by decide,by decide⟩,⟨by decide,by decide⟩,Nat.zero_le _,Nat.zero_le _,(fun e he=>by cases he),Nat.zero_le _,(fun e he=>by cases he),Nat.zero_le _,(fun e he=>by cases he),Nat.zero_le _,(fun e he=>by cases he)⟩
theorem tq(s:Sk)(ok:s.Ok)(k:List Nat)(w:Int)(co:List Nat)(at':Int)(hk:oct k):(bg s k w co at').1.Ok:=by
 have z0:(0:Int)≤0∧(0:Int)<18446744073709551616:=⟨by decide,by decide⟩
 unfold bg
 split
 ·exact NM
 ·split
  ·exact NM
  ·split
   ·exact NM
   ·split
    ·exact⟨ok.ps,ok.cs,ok.ls,ok.cn,ok.ln,ok.to,ok.tn,ok.fo,ok.fn,ok.ro,ok.rn,ok.rm⟩
    ·split
     ·have h:(0≤(nH s.cm k w).1.s∧(nH s.cm k w).1.s<18446744073709551616)∧(nH s.cm k w).1.c.length≤1000000:=by
       unfold nH
       split
       ·exact⟨z0,Nat.zero_le _⟩
       ·have:=BB s.cm k w s.cm.d.toNat
        show (0≤(dW s.cm k w s.cm.d.toNat).s∧_)∧(dW s.cm k w s.cm.d.toNat).c.length≤_
        rw[this.2.2.1,this.2.2.2]
        exact⟨ok.cs,ok.cn⟩
      exact⟨ok.ps,h.1,ok.ls,h.2,ok.ln,ok.to,ok.tn,ok.fo,ok.fn,ok.ro,ok.rn,ok.rm⟩
     ·split
      ·have h:(0≤(lN s.ll k w).1.s∧(lN s.ll k w).1.s<18446744073709551616)∧(lN s.ll k w).1.r.length≤1000000:=by
        unfold lN
        split
        ·exact⟨z0,Nat.zero_le _⟩
        ·exact⟨ok.ls,by simp only[List.length_set];exact ok.ln⟩
       exact⟨ok.ps,ok.cs,h.1,ok.cn,h.2,ok.to,ok.tn,ok.fo,ok.fn,ok.ro,ok.rn,ok.rm⟩
      ·split
       ·have h:=YT s.tp k w ok.to hk ok.tn
        exact⟨ok.ps,ok.cs,ok.ls,ok.cn,ok.ln,h.1,h.2,ok.fo,ok.fn,ok.ro,ok.rn,ok.rm⟩
       ·split
        ·have h:=YU s.fq k w ok.fo hk ok.fn
         exact⟨ok.ps,ok.cs,ok.ls,ok.cn,ok.ln,ok.to,ok.tn,h.1,h.2,ok.ro,ok.rn,ok.rm⟩
        ·have h:=YY s.rk k w co at' hk ok.ro ok.rn ok.rm
         exact⟨ok.ps,ok.cs,ok.ls,ok.cn,ok.ln,ok.to,ok.tn,ok.fo,ok.fn,h.1,h.2.1,h.2.2⟩
theorem uX:wkV (.agg (skC Sk.o nls nls nls nls nls)) (.agg (skF Sk.o)):=iy Sk.o (aX _) (aX _) (aX _) (aX _) (aX _)
theorem iY(n:Int):Gxx 33 [vi n] (vb (decide (0≤n∧n≤1073741824))):=by
 by_cases h1:0≤n
 ·by_cases h2:n≤1073741824
  ·rw[decide_eq_true ⟨h1,h2⟩]
   refine gI oW Tryz.func33 Tryz.results33 ?_
   exact wR trivial trivial ay
  ·rw[decide_eq_false (fun h=>h2 h.2)]
   refine gI oW Tryz.func33 Tryz.results33 ?_
   exact wR trivial trivial ay
 ·rw[decide_eq_false (fun h=>h1 h.1)]
  refine gI oW Tryz.func33 Tryz.results33 ?_
  exact wR trivial trivial ay
theorem Gq(s:Sk)(ok:s.Ok)(k:List Nat)(w:Int)(co:List Nat)(at':Int)(ho:oct k)(hco:oct co)(h:vSk s=0)(hi:bT k w=0)(ha:0≤at'∧at'≤1073741824)(hk:s.p.k=1):Gxx 11 [.agg (skF s),.agg [vs k,vi w],fzb co,vi at'] (.tup [.agg (skF (bg s k w co at').1),vi (bg s k w co at').2.1,vi (bg s k w co at').2.2]):=by
 have h1:=iW s ok
 rw[h] at h1
 have h2:=dn k w
 rw[hi] at h2
 have h3:=iY at'
 rw[decide_eq_true ha] at h3
 have h4:=BA s.tl k w
 have e:bg s k w co at'=(⟨s.p,(rV s.tl k w).1,s.cm,s.ll,s.tp,s.fq,s.rk⟩,at',0):=by
  unfold bg
  rw[if_neg (by omega),if_neg (by omega),if_neg (fun h=>h ha)]
  simp [hk]
 rw[e]
 generalize rV s.tl k w=I at *
 clear ok e
 obtain⟨⟨pk,pz,pd,ps⟩,⟨t1,t2,t3⟩,⟨c1,c2,c3,c4,c5⟩,⟨l1,l2,l3⟩,⟨e1,e2,e3,e4⟩,⟨f1,f2,f3,f4,f5⟩,⟨r1,r2,r3,r4,r5⟩⟩:=s
 obtain⟨⟨i1,i2,i3⟩,i6⟩:=I
 simp only at *
 subst hk
 refine gI oD Tryz.func11 Tryz.results11 ?_
 exact wRA trivial (aI h1 (aI h2 (aI h3 h4))) ay
theorem ai4(s:Sk)(ok:s.Ok)(k:List Nat)(w:Int)(co:List Nat)(at':Int)(ho:oct k)(hco:oct co)(h:vSk s=0)(hi:bT k w=0)(ha:0≤at'∧at'≤1073741824)(hk:s.p.k=2):Gxx 11 [.agg (skF s),.agg [vs k,vi w],fzb co,vi at'] (.tup [.agg (skF (bg s k w co at').1),vi (bg s k w co at').2.1,vi (bg s k w co at').2.2]):=by
 have h1:=iW s ok
 rw[h] at h1
 have h2:=dn k w
 rw[hi] at h2
 have h3:=iY at'
 rw[decide_eq_true ha] at h3
 have h4:=wF s.cm k w ho
 have e:bg s k w co at'=(⟨s.p,s.tl,(nH s.cm k w).1,s.ll,s.tp,s.fq,s.rk⟩,at',0):=by
  unfold bg
  rw[if_neg (by omega),if_neg (by omega),if_neg (fun h=>h ha)]
  simp [hk]
 rw[e]
 generalize nH s.cm k w=I at *
 clear ok e
 obtain⟨⟨pk,pz,pd,ps⟩,⟨t1,t2,t3⟩,⟨c1,c2,c3,c4,c5⟩,⟨l1,l2,l3⟩,⟨e1,e2,e3,e4⟩,⟨f1,f2,f3,f4,f5⟩,⟨r1,r2,r3,r4,r5⟩⟩:=s
 obtain⟨⟨i1,i2,i3,i4,i5⟩,i6⟩:=I
 simp only at *
 subst hk
 refine gI oD Tryz.func11 Tryz.results11 ?_
 exact wRA trivial (aI h1 (aI h2 (aI h3 h4))) ay
theorem Gt(s:Sk)(ok:s.Ok)(k:List Nat)(w:Int)(co:List Nat)(at':Int)(ho:oct k)(hco:oct co)(h:vSk s=0)(hi:bT k w=0)(ha:0≤at'∧at'≤1073741824)(hk:s.p.k=3):Gxx 11 [.agg (skF s),.agg [vs k,vi w],fzb co,vi at'] (.tup [.agg (skF (bg s k w co at').1),vi (bg s k w co at').2.1,vi (bg s k w co at').2.2]):=by
 have h1:=iW s ok
 rw[h] at h1
 have h2:=dn k w
 rw[hi] at h2
 have h3:=iY at'
 rw[decide_eq_true ha] at h3
 have h4:=zA s.ll k w ho ok.ln
 have e:bg s k w co at'=(⟨s.p,s.tl,s.cm,(lN s.ll k w).1,s.tp,s.fq,s.rk⟩,at',0):=by
  unfold bg
  rw[if_neg (by omega),if_neg (by omega),if_neg (fun h=>h ha)]
  simp [hk]
 rw[e]
 generalize lN s.ll k w=I at *
 clear ok e
 obtain⟨⟨pk,pz,pd,ps⟩,⟨t1,t2,t3⟩,⟨c1,c2,c3,c4,c5⟩,⟨l1,l2,l3⟩,⟨e1,e2,e3,e4⟩,⟨f1,f2,f3,f4,f5⟩,⟨r1,r2,r3,r4,r5⟩⟩:=s
 obtain⟨⟨i1,i2,i3⟩,i6⟩:=I
 simp only at *
 subst hk
 refine gI oD Tryz.func11 Tryz.results11 ?_
 exact wRA trivial (aI h1 (aI h2 (aI h3 h4))) ay
theorem Gu(s:Sk)(ok:s.Ok)(k:List Nat)(w:Int)(co:List Nat)(at':Int)(ho:oct k)(hco:oct co)(h:vSk s=0)(hi:bT k w=0)(ha:0≤at'∧at'≤1073741824)(hk:s.p.k=4):Gxx 11 [.agg (skF s),.agg [vs k,vi w],fzb co,vi at'] (.tup [.agg (skF (bg s k w co at').1),vi (bg s k w co at').2.1,vi (bg s k w co at').2.2]):=by
 have h1:=iW s ok
 rw[h] at h1
 have h2:=dn k w
 rw[hi] at h2
 have h3:=iY at'
 rw[decide_eq_true ha] at h3
 have h4:=FM s.tp k w ho ok.to ok.tn
 have e:bg s k w co at'=(⟨s.p,s.tl,s.cm,s.ll,(oz s.tp k w).1,s.fq,s.rk⟩,at',0):=by
  unfold bg
  rw[if_neg (by omega),if_neg (by omega),if_neg (fun h=>h ha)]
  simp [hk]
 rw[e]
 generalize oz s.tp k w=I at *
 clear ok e
 obtain⟨⟨pk,pz,pd,ps⟩,⟨t1,t2,t3⟩,⟨c1,c2,c3,c4,c5⟩,⟨l1,l2,l3⟩,⟨e1,e2,e3,e4⟩,⟨f1,f2,f3,f4,f5⟩,⟨r1,r2,r3,r4,r5⟩⟩:=s
 obtain⟨⟨i1,i2,i3,i4⟩,i6⟩:=I
 simp only at *
 subst hk
 refine gI oD Tryz.func11 Tryz.results11 ?_
 exact wRA trivial (aI h1 (aI h2 (aI h3 h4))) ay
theorem Gv(s:Sk)(ok:s.Ok)(k:List Nat)(w:Int)(co:List Nat)(at':Int)(ho:oct k)(hco:oct co)(h:vSk s=0)(hi:bT k w=0)(ha:0≤at'∧at'≤1073741824)(hk:s.p.k=5):Gxx 11 [.agg (skF s),.agg [vs k,vi w],fzb co,vi at'] (.tup [.agg (skF (bg s k w co at').1),vi (bg s k w co at').2.1,vi (bg s k w co at').2.2]):=by
 have h1:=iW s ok
 rw[h] at h1
 have h2:=dn k w
 rw[hi] at h2
 have h3:=iY at'
 rw[decide_eq_true ha] at h3
 have h4:=wJ s.fq k w ho ok.fo ok.fn
 have e:bg s k w co at'=(⟨s.p,s.tl,s.cm,s.ll,s.tp,(lU s.fq k w).1,s.rk⟩,at',0):=by
  unfold bg
  rw[if_neg (by omega),if_neg (by omega),if_neg (fun h=>h ha)]
  simp [hk]
 rw[e]
 generalize lU s.fq k w=I at *
 clear ok e
 obtain⟨⟨pk,pz,pd,ps⟩,⟨t1,t2,t3⟩,⟨c1,c2,c3,c4,c5⟩,⟨l1,l2,l3⟩,⟨e1,e2,e3,e4⟩,⟨f1,f2,f3,f4,f5⟩,⟨r1,r2,r3,r4,r5⟩⟩:=s
 obtain⟨⟨i1,i2,i3,i4,i5⟩,i6⟩:=I
 simp only at *
 subst hk
 refine gI oD Tryz.func11 Tryz.results11 ?_
 exact wRA trivial (aI h1 (aI h2 (aI h3 h4))) ay
theorem Gw(s:Sk)(ok:s.Ok)(k:List Nat)(w:Int)(co:List Nat)(at':Int)(ho:oct k)(hco:oct co)(h:vSk s=0)(hi:bT k w=0)(ha:0≤at'∧at'≤1073741824)(hk:s.p.k=6):Gxx 11 [.agg (skF s),.agg [vs k,vi w],fzb co,vi at'] (.tup [.agg (skF (bg s k w co at').1),vi (bg s k w co at').2.1,vi (bg s k w co at').2.2]):=by
 have h1:=iW s ok
 rw[h] at h1
 have h2:=dn k w
 rw[hi] at h2
 have h3:=iY at'
 rw[decide_eq_true ha] at h3
 have h4:=BK s.rk k w co at' ho hco ok.ro ok.rn ok.rm
 have e:bg s k w co at'=(⟨s.p,s.tl,s.cm,s.ll,s.tp,s.fq,(yl s.rk k w co at').1⟩,(yl s.rk k w co at').2.1,0):=by
  unfold bg
  rw[if_neg (by omega),if_neg (by omega),if_neg (fun h=>h ha)]
  simp [hk]
 rw[e]
 generalize yl s.rk k w co at'=I at *
 clear ok e
 obtain⟨⟨pk,pz,pd,ps⟩,⟨t1,t2,t3⟩,⟨c1,c2,c3,c4,c5⟩,⟨l1,l2,l3⟩,⟨e1,e2,e3,e4⟩,⟨f1,f2,f3,f4,f5⟩,⟨r1,r2,r3,r4,r5⟩⟩:=s
 obtain⟨⟨i1,i2,i3,i4,i5⟩,i6,i7⟩:=I
 simp only at *
 subst hk
 refine gI oD Tryz.func11 Tryz.results11 ?_
 exact wRA trivial (aI h1 (aI h2 (aI h3 h4))) ay
theorem nN(s:Sk)(ok:s.Ok)(k:List Nat)(w:Int)(co:List Nat)(at':Int)(ho:oct k)(hco:oct co):Gxx 11 [.agg (skF s),.agg [vs k,vi w],fzb co,vi at'] (.tup [.agg (skF (bg s k w co at').1),vi (bg s k w co at').2.1,vi (bg s k w co at').2.2]):=by
 have h1:=iW s ok
 have h2:=dn k w
 have h3:=iY at'
 by_cases q1:vSk s=0
 ·by_cases q2:bT k w=0
  ·by_cases q3:0≤at'∧at'≤1073741824
   ·have q4:vp s.p.k s.p.z s.p.d s.p.s=0:=by
     unfold vSk at q1
     split at q1
     ·rename_i h;exact absurd q1 h
     ·rename_i h;exact Classical.byContradiction h
    rcases Jd q4 with hk|hk|hk|hk|hk|hk
    ·exact Gq s ok k w co at' ho hco q1 q2 q3 hk
    ·exact ai4 s ok k w co at' ho hco q1 q2 q3 hk
    ·exact Gt s ok k w co at' ho hco q1 q2 q3 hk
    ·exact Gu s ok k w co at' ho hco q1 q2 q3 hk
    ·exact Gv s ok k w co at' ho hco q1 q2 q3 hk
    ·exact Gw s ok k w co at' ho hco q1 q2 q3 hk
   ·have e:bg s k w co at'=(Sk.o,0,5):=by unfold bg;rw[if_neg (by omega),if_neg (by omega),if_pos q3]
    rw[e]
    rw[decide_eq_false q3] at h3
    rw[q1] at h1
    rw[q2] at h2
    refine Good.fzt (vs:=[.agg (skC Sk.o nls nls nls nls nls),vi 0,vi 5]) ?_ rfl ⟨uX,aH _,aH _,trivial⟩
    refine gI oD Tryz.func11 Tryz.results11 ?_
    exact wRA trivial (aI h1 (aI h2 h3)) ay
  ·have e:bg s k w co at'=(Sk.o,0,bT k w):=by unfold bg;rw[if_neg (by omega),if_pos q2]
   rw[e]
   rw[q1] at h1
   refine Good.fzt (vs:=[.agg (skC Sk.o nls nls nls nls nls),vi 0,vi (bT k w)]) ?_ rfl ⟨uX,aH _,aH _,trivial⟩
   refine gI oD Tryz.func11 Tryz.results11 ?_
   exact wRA trivial (aI h1 h2) ay
 ·have e:bg s k w co at'=(Sk.o,0,vSk s):=by unfold bg;rw[if_pos q1]
  rw[e]
  refine Good.fzt (vs:=[.agg (skC Sk.o nls nls nls nls nls),vi 0,vi (vSk s)]) ?_ rfl ⟨uX,aH _,aH _,trivial⟩
  refine gI oD Tryz.func11 Tryz.results11 ?_
  exact wRA trivial h1 ay
theorem ahZ(n:Nat):Int.fdiv (n:Int) (2^min 1 IntKind.i64.bits)=((n / 2:Nat):Int):=by
 show Int.fdiv (n:Int) ((2:Nat):Int)=_
 rw[Int.fdiv_eq_ediv_of_nonneg _ (Int.natCast_nonneg _),Int.natCast_ediv]
theorem ah0(n:Nat):Int.fdiv (n:Int) (2^min 3 IntKind.i64.bits)=((n / 8:Nat):Int):=by
 show Int.fdiv (n:Int) ((8:Nat):Int)=_
 rw[Int.fdiv_eq_ediv_of_nonneg _ (Int.natCast_nonneg _),Int.natCast_ediv]
theorem ah1(n:Nat):Int.fdiv (n:Int) (2^min 4 IntKind.i64.bits)=((n / 16:Nat):Int):=by
 show Int.fdiv (n:Int) ((16:Nat):Int)=_
 rw[Int.fdiv_eq_ediv_of_nonneg _ (Int.natCast_nonneg _),Int.natCast_ediv]
theorem ah2(n:Nat):Int.fdiv (n:Int) (2^min 5 IntKind.i64.bits)=((n / 32:Nat):Int):=by
 show Int.fdiv (n:Int) ((32:Nat):Int)=_
 rw[Int.fdiv_eq_ediv_of_nonneg _ (Int.natCast_nonneg _),Int.natCast_ediv]
theorem ah3(n:Nat):Int.fdiv (n:Int) (2^min 6 IntKind.i64.bits)=((n / 64:Nat):Int):=by
 show Int.fdiv (n:Int) ((64:Nat):Int)=_
 rw[Int.fdiv_eq_ediv_of_nonneg _ (Int.natCast_nonneg _),Int.natCast_ediv]
theorem ah4(n:Nat):Int.fdiv (n:Int) (2^min 7 IntKind.i64.bits)=((n / 128:Nat):Int):=by
 show Int.fdiv (n:Int) ((128:Nat):Int)=_
 rw[Int.fdiv_eq_ediv_of_nonneg _ (Int.natCast_nonneg _),Int.natCast_ediv]
theorem ah5(n:Nat):Int.fdiv (n:Int) (2^min 8 IntKind.i64.bits)=((n / 256:Nat):Int):=by
 show Int.fdiv (n:Int) ((256:Nat):Int)=_
 rw[Int.fdiv_eq_ediv_of_nonneg _ (Int.natCast_nonneg _),Int.natCast_ediv]
theorem ah6(n:Nat):Int.fdiv (n:Int) (2^min 9 IntKind.i64.bits)=((n / 512:Nat):Int):=by
 show Int.fdiv (n:Int) ((512:Nat):Int)=_
 rw[Int.fdiv_eq_ediv_of_nonneg _ (Int.natCast_nonneg _),Int.natCast_ediv]
theorem agT(n:Nat):Int.fdiv (n:Int) (2^min 10 IntKind.i64.bits)=((n / 1024:Nat):Int):=by
 show Int.fdiv (n:Int) ((1024:Nat):Int)=_
 rw[Int.fdiv_eq_ediv_of_nonneg _ (Int.natCast_nonneg _),Int.natCast_ediv]
theorem agU(n:Nat):Int.fdiv (n:Int) (2^min 11 IntKind.i64.bits)=((n / 2048:Nat):Int):=by
 show Int.fdiv (n:Int) ((2048:Nat):Int)=_
 rw[Int.fdiv_eq_ediv_of_nonneg _ (Int.natCast_nonneg _),Int.natCast_ediv]
theorem agV(n:Nat):Int.fdiv (n:Int) (2^min 12 IntKind.i64.bits)=((n / 4096:Nat):Int):=by
 show Int.fdiv (n:Int) ((4096:Nat):Int)=_
 rw[Int.fdiv_eq_ediv_of_nonneg _ (Int.natCast_nonneg _),Int.natCast_ediv]
theorem ah7(n:Nat):bits .and .i64 (n:Int) 1=((n%2:Nat):Int):=Eq.trans (show _=(n:Int)%2 from iK (n:Int) 1 (by decide)) rfl
theorem ah8(n:Nat):bits .and .i64 (n:Int) 3=((n%4:Nat):Int):=Eq.trans (show _=(n:Int)%4 from iK (n:Int) 2 (by decide)) rfl
theorem ah9(n:Nat):bits .and .i64 (n:Int) 7=((n%8:Nat):Int):=Eq.trans (show _=(n:Int)%8 from iK (n:Int) 3 (by decide)) rfl
theorem aia(n:Nat):bits .and .i64 (n:Int) 15=((n%16:Nat):Int):=Eq.trans (show _=(n:Int)%16 from iK (n:Int) 4 (by decide)) rfl
theorem aib(n:Nat):bits .and .i64 (n:Int) 31=((n%32:Nat):Int):=Eq.trans (show _=(n:Int)%32 from iK (n:Int) 5 (by decide)) rfl
theorem aic(n:Nat):bits .and .i64 (n:Int) 63=((n%64:Nat):Int):=Eq.trans (show _=(n:Int)%64 from iK (n:Int) 6 (by decide)) rfl
theorem agW(n:Nat):bits .and .i64 (n:Int) 65535=((n%65536:Nat):Int):=Eq.trans (show _=(n:Int)%65536 from iK (n:Int) 16 (by decide)) rfl
theorem agX(n:Nat):bits .and .i64 (n:Int) 16777215=((n%16777216:Nat):Int):=Eq.trans (show _=(n:Int)%16777216 from iK (n:Int) 24 (by decide)) rfl
def shB:=aI @ahZ (aI @ah0 (aI @ah1 (aI @ah2 (aI @ah3 (aI @ah4 (aI @ah5 (aI @ah6 (aI @agT (aI @agU (@agV))))))))))
def anB:=aI @ah7 (aI @ah8 (aI @ah9 (aI @aia (aI @aib (aI @aic (aI @agW (@agX)))))))
theorem tmN(a b:Nat):Int.tmod (a:Int) (b:Int)=((a%b:Nat):Int):=rfl
theorem tdN(a b:Nat):Int.tdiv (a:Int) (b:Int)=((a / b:Nat):Int):=rfl
def atN(l:List Int)(i:Nat):Nat:=if l.length=0 then i%65536 else (l.getD (i%l.length) 0%65536).toNat+i / l.length
theorem Gx(l:List Int)(i:Nat):atN l i≤65535+i:=by
 unfold atN
 split
 ·omega
 ·have:=Nat.div_le_self i l.length
  omega
theorem ac8(n:Int):bits .and .i64 n 65535=(((n%65536).toNat:Nat):Int):=by rw[abH];omega
theorem acB(l:List Int)(i:Nat)(hl:l.length≤9223372036854775807)(hi:i≤1000000):Gxx 16 [fzi l,vi i] (vi (atN l i:Nat)):=by
 have hil:=aZ l
 unfold atN
 by_cases h:l.length=0
 ·rw[if_pos h]
  refine gI oW Tryz.func16 Tryz.results16 ?_
  exact wR (aI @hil @anB) trivial ay
 ·rw[if_neg h]
  have hlt:i%l.length<l.length:=Nat.mod_lt _ (by omega)
  have hg:=kF l (i%l.length) hlt
  have e1:=tmN i l.length
  have e2:=tdN i l.length
  have e3:=ac8 (l.getD (i%l.length) 0)
  have hdl:=Nat.div_le_self i l.length
  have hb:(l.getD (i%l.length) 0%65536).toNat<65536:=by omega
  generalize (l.getD (i%l.length) 0%65536).toNat=x at *
  generalize l.getD (i%l.length) 0=y at *
  generalize i%l.length=j at *
  generalize i / l.length=k at *
  refine gI oW Tryz.func16 Tryz.results16 ?_
  exact wR (aI @hil (aI @e1 (aI @e2 (aI @hg @e3)))) trivial ay
def wB(n:Nat):Int:=if n / 4096%16=14 then 1+((n%65536*65537%4294967295:Nat):Int) else if n / 4096%16=15 then 4294967295-((n%4:Nat):Int) else 1+((n / 16%8:Nat):Int)
def zi(n:Nat):List Nat × Int:=(Ry n,wB n)
theorem tmW(a:Nat):Int.tmod ((a:Int)*65537) 4294967295=((a*65537%4294967295:Nat):Int):=rfl
theorem Y5(n:Nat)(hn:n≤1000000000):Gxx 8 [vi n] (.agg [vs (zi n).1,vi (zi n).2]):=by
 have hk:=agl (n:Int)
 have e:=tmW (n%65536)
 unfold zi wB
 simp only
 by_cases h1:n / 4096%16=14
 ·rw[if_pos h1]
  refine gI oW Tryz.func8 Tryz.results8 ?_
  exact wR (aI @shB (aI @anB @e)) hk ay
 ·rw[if_neg h1]
  by_cases h2:n / 4096%16=15
  ·rw[if_pos h2]
   refine gI oW Tryz.func8 Tryz.results8 ?_
   exact wR (aI @shB (aI @anB @e)) hk ay
  ·rw[if_neg h2]
   refine gI oW Tryz.func8 Tryz.results8 ?_
   exact wR (aI @shB (aI @anB @e)) hk ay
def kU(l:List Int)(n:Nat):List (List Nat × Int):=(List.range n).map fun i=>zi (atN l i)
theorem uY(l:List Int)(n:Nat):(kU l n).length=n:=by simp [kU]
theorem JV(l:List Int)(n:Nat):itv (kU l n)++[V.agg [vs (zi (atN l n)).1,vi (zi (atN l n)).2]]=itv (kU l (n+1)):=by simp [kU,itv,List.range_succ]
theorem acC(l:List Int)(n:Nat)(hl:l.length≤9223372036854775807)(hn:n≤1000):Gxx 19 [fzi l,vi n] (fzt (kU l n)):=by
 refine Good.fzr (r := .sl (.own 0 45) 2 (itv (kU l n))) ?_ rfl (aH _)
 refine gI oW Tryz.func19 Tryz.results19 ?_
 refine wS trivial trivial ?_
 refine df (fun i:Nat=>mkA [(0,fzi l),(1,vi n),(5,.sl (.own 0 45) 2 (itv (kU l i))),(6,vi i)] [] 1 (fun _ => .top)) (fun i=>i≤n) (fun i=>n-i) 0 [] [] ?_ (Nat.zero_le _) ?_
 ·exact kE
  all_goals exact gG rfl
 ·intro i hi
  replace hi:i≤n:=hi
  have hil:=OA (kU l i)
  have hib:=uY l i
  rcases Nat.lt_or_ge i n with hlt|hge
  ·have h1:=acB l i hl (by omega)
   have h2:=Y5 (atN l i) (by have:=Gx l i;omega)
   have hnx:=JV l i
   generalize atN l i=a at *
   refine wS (aI @hil (aI @hib @hnx)) (aI h1 h2) ?_
   exact bE (i+1) [0] [] hlt
  ·have:i=n:=by omega
   subst this
   exact wR trivial trivial (ids [0])
def wW(n:Nat):Pm :=
 if n%6=0 then ⟨1,0,0,0⟩ else if n%6=1 then ⟨2,1+((n / 16%4:Nat):Int),1+((n / 8%2:Nat):Int),((n / 256%4:Nat):Int)⟩ else if n%6=2 then ⟨3,2+((n / 8%2:Nat):Int),0,((n / 256%4:Nat):Int)⟩
 else if n%6=3 then ⟨4,1+((n / 8%4:Nat):Int),0,0⟩ else if n%6=4 then ⟨5,1+((n / 8%4:Nat):Int),0,0⟩ else ⟨6,2+2*((n / 8%2:Nat):Int),0,0⟩
theorem Gy(n:Nat):vp (wW n).k (wW n).z (wW n).d (wW n).s=0:=by
 unfold wW
 (repeat' split)<;>simp [vp]<;>omega
theorem Y6(n:Nat):0≤(wW n).s∧(wW n).s<18446744073709551616:=by
 unfold wW
 (repeat' split)<;>simp<;>omega
theorem tm6(n:Nat):Int.tmod (n:Int) 6=((n%6:Nat):Int):=rfl
theorem Y7(n:Nat)(hn:n≤1000000000):Gxx 15 [vi n] (.agg (pmF (wW n))):=by
 have e:=tm6 n
 have hlt:n%6<6:=Nat.mod_lt _ (by omega)
 unfold wW
 rcases (show n%6=0∨n%6=1∨n%6=2∨n%6=3∨n%6=4∨n%6=5 by omega) with h|h|h|h|h|h
 all_goals
  simp only[h] at e ⊢
  refine gI oW Tryz.func15 Tryz.results15 ?_
  exact wR (aI @shB (aI @anB @e)) trivial ay
def mg(p:Pm)(its:List (List Nat × Int))(co:List Nat):Nat→Sk × Int
 | 0=>(kT p,0)
 | i+1=>((bg (mg p its co i).1 (its.getD i ([],0)).1 (its.getD i ([],0)).2 co (mg p its co i).2).1,(bg (mg p its co i).1 (its.getD i ([],0)).1 (its.getD i ([],0)).2 co (mg p its co i).2).2.1)
theorem JW(p:Pm)(hs:0≤p.s∧p.s<18446744073709551616)(hv:vp p.k p.z p.d p.s=0)(its:List (List Nat × Int))(ho:∀x∈its,oct x.1)(co:List Nat)(i:Nat):(mg p its co i).1.Ok:=by
 induction i with
 | zero=>exact Y4 p hs hv
 | succ i ih =>
  refine tq _ ih _ _ _ _ ?_
  rcases Nat.lt_or_ge i its.length with h|h
  ·exact ho _ (nJ _ _ _ h)
  ·rw[List.getD,List.getElem?_eq_none h];exact EY
theorem afk(p:Pm)(hs:0≤p.s∧p.s<18446744073709551616)(hv:vp p.k p.z p.d p.s=0)(its:List (List Nat × Int))(hn:its.length≤1000000)(ho:∀x∈its,oct x.1)(co:List Nat)(hco:oct co) :
  Gxx 21 [.agg (pmF p),fzt its,fzb co] (.agg (skF (mg p its co its.length).1)):=by
 have h1:=acA p hv
 have hil:=OA its
 have hok:=JW p hs hv its ho co
 have e0:mg p its co 0=(kT p,0):=rfl
 have es:∀i,mg p its co (i+1)=((bg (mg p its co i).1 (its.getD i ([],0)).1 (its.getD i ([],0)).2 co (mg p its co i).2).1,(bg (mg p its co i).1 (its.getD i ([],0)).1 (its.getD i ([],0)).2 co (mg p its co i).2).2.1):=fun _=>rfl
 generalize mg p its co=F at *
 obtain⟨pk,pz,pd,ps⟩:=p
 refine gI oW Tryz.func21 Tryz.results21 ?_
 refine wS trivial h1 ?_
 refine df (fun i:Nat=>mkA [(1,fzt its),(2,fzb co),(6,.ref 0 0),(7,.ref 1 0),(9,vi (F i).2),(10,vi i)] [(0,(41,skC Sk.o nls nls nls nls nls)),(1,(41,skF (F i).1))] 2 (fun _ => .top)) (fun i=>i≤its.length) (fun i=>its.length-i) 0 [] [1,2] ?_ (Nat.zero_le _) ?_
 ·rw[e0]
  exact kE
 ·intro i hi
  replace hi:i≤its.length:=hi
  rcases Nat.lt_or_ge i its.length with hlt|hge
  ·have hg:=abw its i hlt
   have hox:=ho _ (nJ its i ([],0) hlt)
   have hes:=es i
   have hoki:=hok i
   generalize its.getD i ([],0)=x at *
   have h2:=nN (F i).1 hoki x.1 x.2 co (F i).2 hox hco
   have e1:=congrArg Prod.fst hes
   have e2:=congrArg Prod.snd hes
   simp only at e1 e2
   rw[←e1,←e2] at h2
   generalize F i=G at *
   obtain⟨g,a⟩:=G
   refine wS (aI @hil @hg) h2 ?_
   exact bE (i+1) [] [0,1] hlt
  ·have:i=its.length:=by omega
   subst this
   exact wR @hil trivial ay
theorem CO(l:List Int)(n:Nat):∀x∈kU l n,oct x.1:=by
 intro x hx
 obtain⟨i,_,rfl⟩:=List.mem_map.1 hx
 exact (OJ _).1
theorem acD(l:List Int)(n:Nat):(iv l).drop n=iv (l.drop n):=by simp [iv,List.map_drop]
theorem min2(a:Nat):(min (a:Int) 2).toNat=min a 2:=by omega
end Go.Proofs.YtiohdbjggmmjcaaGreat
