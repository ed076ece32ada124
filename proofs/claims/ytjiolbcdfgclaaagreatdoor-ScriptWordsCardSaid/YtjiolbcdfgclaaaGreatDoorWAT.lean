/-
  Texts of this claim, merged; own names are short.
-/
import Derived.Test.YtjiolbcdfgclaaaGreatDoorWAS
set_option linter.unusedVariables false
set_option linter.unusedSimpArgs false
set_option linter.unusedSectionVars false
set_option linter.defProp false
set_option maxRecDepth 100000
set_option maxHeartbeats 8000000
namespace Go.Proofs.YtjiolbcdfgclaaaGreatDoor
open Go Go.Pg
theorem EF{l:List En}(h:octE l)(i:Nat)(e:En)(he:oct e.1):octE (l.set i e):=by
 intro x hx
 rcases List.mem_or_eq_of_mem_set hx with h1|rfl
 ·exact h x h1
 ·exact he
theorem abA{l:List En}(h:octE l)(e:En)(he:oct e.1):octE (l++[e]):=by
 intro x hx
 rcases List.mem_append.1 hx with h1|h1
 ·exact h x h1
 ·rw[List.mem_singleton.1 h1];exact he
theorem abB(t:Tp)(k:List Nat)(w:Int)(ho:octE t.e)(hk:oct k)(hn:t.e.length≤1000000):octE (yU t k w).1.e∧(yU t k w).1.e.length≤1000000:=by
 unfold yU
 split
 ·exact⟨(fun e he=>by cases he),Nat.zero_le _⟩
 ·rename_i h1
  have h1:=Classical.byContradiction h1
  split
  ·exact⟨(fun e he=>by cases he),Nat.zero_le _⟩
  ·have h2:=IA h1
   have key:octE (Ae t k w).1∧(Ae t k w).1.length≤t.e.length+1:=by
    unfold Ae
    split
    ·exact⟨EF ho _ _ (lu ho _),by simp⟩
    ·split
     ·exact⟨abA ho _ hk,by simp⟩
     ·exact⟨EF ho _ _ hk,by simp⟩
   refine⟨fun e he=>key.1 e ((RH _ _ _).1 he), ?_⟩
   show (srt bfE (Ae t k w).1).length≤_
   rw[RG];omega
theorem MB(d:Int){l:List En}(h:octE l):octE (qw d l):=by
 induction l with
 | nil=>exact h
 | cons y l ih =>
  have h2:octE l:=fun e he=>h e (by simp [he])
  rw[Gq]
  split
  ·intro e he
   rcases List.mem_cons.1 he with rfl|he
   ·exact h y (by simp)
   ·exact ih h2 e he
  ·exact ih h2
theorem MC(x:En){l:List En}(hx:oct x.1)(h:octE l):octE (o9 x l):=by
 intro e he
 rcases (aa0 x e l).1 he with rfl|he
 ·exact hx
 ·exact h e he
theorem abC(t:Fq)(k:List Nat)(w:Int)(ho:octE t.e)(hk:oct k)(hn:t.e.length≤1000000):octE (yY t k w).1.e∧(yY t k w).1.e.length≤1000000:=by
 unfold yY
 split
 ·exact⟨(fun e he=>by cases he),Nat.zero_le _⟩
 ·rename_i h1
  have h1:=Classical.byContradiction h1
  split
  ·exact⟨(fun e he=>by cases he),Nat.zero_le _⟩
  ·have h2:=IC h1
   show octE (mF t k w).1∧(mF t k w).1.length≤_
   have hl:=Lm (jB w t.e) t.e
   unfold mF
   split
   ·exact⟨EF ho _ _ (lu ho _),by simp;omega⟩
   ·split
    ·exact⟨MC _ hk ho,by simp only[Lj];omega⟩
    ·simp only
     split
     ·exact⟨MC _ hk (MB _ ho),by simp only[Lj];omega⟩
     ·exact⟨MB _ ho,by omega⟩
def Ar(v:List (List (List Nat))):Prop:=∀l∈v,octL l
theorem MF{v:List (List (List Nat))}(h:Ar v)(i:Nat):octL (v.getD i []):=by
 rcases Nat.lt_or_ge i v.length with hi|hi
 ·exact h _ (jS _ _ _ hi)
 ·rw[List.getD,List.getElem?_eq_none hi];intro e he;cases he
theorem abD{v:List (List (List Nat))}(h:Ar v)(i:Nat)(l:List (List Nat))(hl:octL l):Ar (v.set i l):=by
 intro x hx
 rcases List.mem_or_eq_of_mem_set hx with h1|rfl
 ·exact h x h1
 ·exact hl
theorem VD(k:List Nat)(hk:oct k)(ps:List Int)(v:List (List (List Nat)))(hv:Ar v)(i:Nat):Ar (qL k ps v i):=by
 induction i with
 | zero=>exact hv
 | succ i ih =>
  show Ar (EW k (qL k ps v i) (ps.getD i 0).toNat)
  unfold EW
  refine abD ?_ _ _ ?_
  ·intro l hl
   unfold lU at hl
   rcases List.mem_append.1 hl with h1|h1
   ·exact ih l h1
   ·rw[List.eq_of_mem_replicate h1];intro e he;cases he
  ·intro e he
   rcases List.mem_append.1 he with h1|h1
   ·exact MF ih _ e h1
   ·rw[List.mem_singleton.1 h1];exact hk
def abE(s:Stl):Prop:=octL s.2.1∧∀l∈s.2.2.2.2,octL l∧l.length≤32
theorem PO(v:List (List (List Nat)))(z:Int)(hz:z≤32)(co:List Nat)(s:Stl)(hv:Ar v)(h:abE s):abE (jZ v z co s):=by
 obtain⟨h1,h2⟩:=h
 have hc:octL (iD v s):=by
  intro e he
  unfold iD at he
  rw[RH] at he
  split at he
  ·rcases List.mem_append.1 he with he|he
   ·exact MF hv _ e he
   ·exact h1 e he
  ·exact h1 e he
 unfold jZ
 split
 ·rename_i hlt
  refine⟨(fun e he=>by cases he),fun l hl => ?_⟩
  rcases List.mem_append.1 hl with hl|hl
  ·exact h2 l hl
  ·rw[List.mem_singleton.1 hl];exact⟨hc,by omega⟩
 ·refine⟨?_,fun l hl => ?_⟩
  ·intro e he
   unfold evN at he
   obtain⟨j,_,rfl⟩:=List.mem_map.1 he
   exact uZ hc _
  ·rcases List.mem_append.1 hl with hl|hl
   ·exact h2 l hl
   ·rw[List.mem_singleton.1 hl]
    exact⟨fun e he=>hc e (List.mem_of_mem_drop he),by rw[List.length_drop];omega⟩
theorem abG(v:List (List (List Nat)))(z:Int)(hz:z≤32)(co:List Nat)(hv:Ar v):∀(f:Nat) (s:Stl),abE s→abE (vg v z co f s):=by
 intro f
 induction f with
 | zero=>intro s h;exact h
 | succ f ih =>
  intro s h
  unfold vg
  split
  ·exact ih _ (PO v z hz co s hv h)
  ·exact h
theorem VE:∀(f:Nat) (l:List (List (List Nat))),(∀x∈qf f l,x∈l)∧(qf f l).length≤l.length:=by
 intro f
 induction f with
 | zero=>intro l;exact⟨fun x h=>h,Nat.le_refl _⟩
 | succ f ih =>
  intro l
  unfold qf
  split
  ·obtain⟨h1,h2⟩:=ih (l.take (l.length-1))
   exact⟨fun x hx=>List.mem_of_mem_take (h1 x hx),by rw[List.length_take] at h2;omega⟩
  ·exact⟨fun x h=>h,Nat.le_refl _⟩
theorem abH(x:Rk)(k:List Nat)(w:Int)(co:List Nat)(at':Int)(hk:oct k)(hv:Ar x.v)(hn:x.v.length≤1000000)(hm:∀l∈x.v,l.length≤1000000) :
  Ar (rU x k w co at').1.v∧(rU x k w co at').1.v.length≤1000000∧∀l∈(rU x k w co at').1.v,l.length≤1000000:=by
 have h0:Ar []∧([]:List (List (List Nat))).length≤1000000∧∀l∈([]:List (List (List Nat))),l.length≤1000000:=⟨(fun l hl=>by cases hl),Nat.zero_le _,fun l hl=>by cases hl⟩
 unfold rU
 split
 ·exact h0
 ·rename_i h1
  have h1:=Classical.byContradiction h1
  split
  ·exact h0
  ·rename_i h2
   have h2:=Classical.byContradiction h2
   split
   ·exact h0
   ·split
    ·exact⟨hv,hn,hm⟩
    ·obtain⟨i1,i2,i3,i4,i5⟩:=IG h1
     have hin:=LC k (kZ w 63) x.v (fun i=>by have:=LD w 63 i (by decide);omega) 31 i5 (by omega) (kZ w 63).length
     have hpo:=VD k hk (kZ w 63) x.v hv (kZ w 63).length
     have hgo:=abG (Af x k w) x.z (by omega) co hpo ((Af x k w).length*(100+1)) (0,[],x.l,at',[]) ⟨(fun e he=>by cases he),(fun l hl=>by cases hl)⟩
     have hle:=afw (Af x k w) x.z co ((Af x k w).length*(100+1)) (0,[],x.l,at',[])
     have hpl:(Af x k w).length≤63:=hin.1
     have hml:(Af x k w).length*(100+1)≤63*101:=Nat.mul_le_mul_right 101 hpl
     obtain⟨t1,t2⟩:=VE (EX x k w co at').2.2.2.2.length (EX x k w co at').2.2.2.2
     have hsl:(EX x k w co at').2.2.2.2.length≤0+(Af x k w).length*(100+1):=hle
     have hsg:abE (EX x k w co at'):=hgo
     show Ar (qf _ _)∧(qf _ _).length≤_∧∀l∈qf _ _,_
     exact⟨fun l hl=>(hsg.2 l (t1 l hl)).1,by omega,fun l hl=>by have:=(hsg.2 l (t1 l hl)).2;omega⟩
abbrev zer(n:Nat):List Int:=List.replicate n 0
theorem abI(d z s:Int)(h:1≤d∧d≤8∧1≤z∧z≤64):Gxx 166 [vi d,vi z,vu s] (.tup [.agg (cmF ⟨d,z,s,zer (d*z).toNat,false⟩),vi 0]):=by
 refine Good.fzt (vs:=[.agg [vi d,vi z,vu s,.sl (.own 0 3) 1 (iv (zer (d*z).toNat)),vb false],vi 0]) ?_ rfl ⟨aA _,aA _,trivial⟩
 have k1:=aU d 1 8 ⟨h.1,h.2.1⟩
 have k2:=aU z 1 64 h.2.2
 have hm:=zY (d:=d) (z:=z) ⟨h.1,h.2.1⟩ h.2.2
 have hrep:∀n:Nat,List.replicate n (V.c (.int .i64 0))=iv (zer n):=fun n=>by simp [iv]
 refine gI oW Tryz.func166 Tryz.results166 ?_
 exact wR @hrep (aI k1 k2) (ids [1])
theorem abJ(p s:Int)(h:2≤p∧p≤8):Gxx 167 [vi p,vu s] (.tup [.agg (llF ⟨p,s,zer (2^p.toNat)⟩),vi 0]):=by
 refine Good.fzt (vs:=[.agg [vi p,vu s,.sl (.own 0 3) 1 (iv (zer (2^p.toNat)))],vi 0]) ?_ rfl ⟨aA _,aA _,trivial⟩
 have k1:=aU p 2 8 h
 obtain⟨hm,hm2,_⟩:=Aj h
 have hrep:∀n:Nat,List.replicate n (V.c (.int .i64 0))=iv (zer n):=fun n=>by simp [iv]
 generalize 2^p.toNat=q at hm hm2 ⊢
 refine gI oW Tryz.func167 Tryz.results167 ?_
 exact wR (aI @hrep @hm) k1 (ids [1])
theorem abK(p:Int)(h:1≤p∧p≤32):Gxx 168 [vi p] (.tup [.agg (tpF ⟨p,0,[],false⟩),vi 0]):=by
 refine Good.fzt (vs:=[.agg [vi p,vi 0,nls,vb false],vi 0]) ?_ rfl ⟨.inr ⟨_,_,rfl,rfl,⟨.inl rfl,.inl rfl,oq _ _,.inl rfl,trivial⟩⟩,aA _,trivial⟩
 have k1:=aU p 1 32 h
 refine gI oW Tryz.func168 Tryz.results168 ?_
 exact wR trivial k1 ah
theorem abL(p:Int)(h:1≤p∧p≤32):Gxx 169 [vi p] (.tup [.agg (fqF ⟨p,0,0,[],false⟩),vi 0]):=by
 refine Good.fzt (vs:=[.agg [vi p,vi 0,vi 0,nls,vb false],vi 0]) ?_ rfl ⟨.inr ⟨_,_,rfl,rfl,⟨.inl rfl,.inl rfl,.inl rfl,oq _ _,.inl rfl,trivial⟩⟩,aA _,trivial⟩
 have k1:=aU p 1 32 h
 refine gI oW Tryz.func169 Tryz.results169 ?_
 exact wR trivial k1 ah
theorem abM(p:Int)(h:2≤p∧p≤32∧p%2=0):Gxx 170 [vi p] (.tup [.agg (rkF ⟨p,0,0,[],false⟩),vi 0]):=by
 refine Good.fzt (vs:=[.agg [vi p,vi 0,vi 0,nls,vb false],vi 0]) ?_ rfl ⟨.inr ⟨_,_,rfl,rfl,⟨.inl rfl,.inl rfl,.inl rfl,oq _ _,.inl rfl,trivial⟩⟩,aA _,trivial⟩
 have k1:=aU p 2 32 ⟨h.1,h.2.1⟩
 have et:p.tmod 2=p%2:=Int.tmod_eq_emod_of_nonneg (by omega)
 refine gI oW Tryz.func170 Tryz.results170 ?_
 exact wR @et k1 ah
def nX(p:Pm):Sk :=
 if p.k=1 then ⟨p,Tl.o,Cm.o,Ll.o,Tp.o,Fq.o,Rk.o⟩
 else if p.k=2 then ⟨p,Tl.o,⟨p.d,p.z,p.s,zer (p.d*p.z).toNat,false⟩,Ll.o,Tp.o,Fq.o,Rk.o⟩
 else if p.k=3 then ⟨p,Tl.o,Cm.o,⟨p.z,p.s,zer (2^p.z.toNat)⟩,Tp.o,Fq.o,Rk.o⟩
 else if p.k=4 then ⟨p,Tl.o,Cm.o,Ll.o,⟨p.z,0,[],false⟩,Fq.o,Rk.o⟩
 else if p.k=5 then ⟨p,Tl.o,Cm.o,Ll.o,Tp.o,⟨p.z,0,0,[],false⟩,Rk.o⟩
 else ⟨p,Tl.o,Cm.o,Ll.o,Tp.o,Fq.o,⟨p.z,0,0,[],false⟩⟩
theorem al0{z d s:Int}(h:vp 2 z d s=0):1≤d∧d≤8∧1≤z∧z≤64:=by unfold vp at h;simp at h;omega
theorem al1{z d s:Int}(h:vp 3 z d s=0):2≤z∧z≤8:=by unfold vp at h;simp at h;omega
theorem an7{z d s:Int}(h:vp 4 z d s=0):1≤z∧z≤32:=by unfold vp at h;simp at h;omega
theorem an8{z d s:Int}(h:vp 5 z d s=0):1≤z∧z≤32:=by unfold vp at h;simp at h;omega
theorem an9{z d s:Int}(h:vp 6 z d s=0):2≤z∧z≤32∧z%2=0:=by unfold vp at h;simp at h;omega
theorem abN(p:Pm)(hs:0≤p.s∧p.s<18446744073709551616)(h:vp p.k p.z p.d p.s=0):(nX p).Ok:=by
 have h0:(0:Int)≤0∧(0:Int)<18446744073709551616:=⟨by decide,by decide⟩
 have e0:octE []:=fun e he=>by cases he
 have v0:Ar []:=fun e he=>by cases he
 have m0:∀l∈([]:List (List (List Nat))),l.length≤1000000:=fun e he=>by cases he
 obtain⟨k,z,d,s⟩:=p
 simp only at hs h
 unfold nX
 simp only
 split
 ·exact⟨hs,h0,h0,Nat.zero_le _,Nat.zero_le _,e0,Nat.zero_le _,e0,Nat.zero_le _,v0,Nat.zero_le _,m0⟩
 ·split
  ·rename_i hk;subst hk
   have h2:=al0 h
   have hm:=zY (d:=d) (z:=z) ⟨h2.1,h2.2.1⟩ h2.2.2
   exact⟨hs,hs,h0,by simp;omega,Nat.zero_le _,e0,Nat.zero_le _,e0,Nat.zero_le _,v0,Nat.zero_le _,m0⟩
  ·split
   ·rename_i hk;subst hk
    have h2:=(Aj (al1 h)).2.1
    exact⟨hs,h0,hs,Nat.zero_le _,by simp only[List.length_replicate];omega,e0,Nat.zero_le _,e0,Nat.zero_le _,v0,Nat.zero_le _,m0⟩
   ·split
    ·exact⟨hs,h0,h0,Nat.zero_le _,Nat.zero_le _,e0,Nat.zero_le _,e0,Nat.zero_le _,v0,Nat.zero_le _,m0⟩
    ·split
     ·exact⟨hs,h0,h0,Nat.zero_le _,Nat.zero_le _,e0,Nat.zero_le _,e0,Nat.zero_le _,v0,Nat.zero_le _,m0⟩
     ·exact⟨hs,h0,h0,Nat.zero_le _,Nat.zero_le _,e0,Nat.zero_le _,e0,Nat.zero_le _,v0,Nat.zero_le _,m0⟩
theorem VF(z d s:Int)(h:vp 1 z d s=0):Gxx 122 [.agg [vi 1,vi z,vi d,vu s]] (.tup [.agg (skF (nX ⟨1,z,d,s⟩)),vi 0]):=by
 have eo:nX ⟨1,z,d,s⟩=⟨⟨1,z,d,s⟩,Tl.o,Cm.o,Ll.o,Tp.o,Fq.o,Rk.o⟩:=rfl
 rw[eo]
 refine Good.fzt (vs:=[.agg (skC ⟨⟨1,z,d,s⟩,Tl.o,Cm.o,Ll.o,Tp.o,Fq.o,Rk.o⟩ nls nls nls nls nls),vi 0]) ?_ rfl ⟨mJ ⟨⟨1,z,d,s⟩,Tl.o,Cm.o,Ll.o,Tp.o,Fq.o,Rk.o⟩ (aj _) (aj _) (aj _) (aj _) (aj _),aA _,trivial⟩
 have hv:=bg 1 z d s
 rw[h] at hv
 refine gI oD Tryz.func122 Tryz.results122 ?_
 exact wRA trivial hv ah
theorem VG(z d s:Int)(h:vp 2 z d s=0):Gxx 122 [.agg [vi 2,vi z,vi d,vu s]] (.tup [.agg (skF (nX ⟨2,z,d,s⟩)),vi 0]):=by
 have eo:nX ⟨2,z,d,s⟩=⟨⟨2,z,d,s⟩,Tl.o,⟨d,z,s,zer (d*z).toNat,false⟩,Ll.o,Tp.o,Fq.o,Rk.o⟩:=rfl
 rw[eo]
 refine Good.fzt (vs:=[.agg (skC ⟨⟨2,z,d,s⟩,Tl.o,⟨d,z,s,zer (d*z).toNat,false⟩,Ll.o,Tp.o,Fq.o,Rk.o⟩ (fzi (zer (d*z).toNat)) nls nls nls nls),vi 0]) ?_ rfl ⟨mJ ⟨⟨2,z,d,s⟩,Tl.o,⟨d,z,s,zer (d*z).toNat,false⟩,Ll.o,Tp.o,Fq.o,Rk.o⟩ (cu _) (aj _) (aj _) (aj _) (aj _),aA _,trivial⟩
 have hv:=bg 2 z d s
 rw[h] at hv
 have hc:=abI d z s (al0 h)
 generalize zer (d*z).toNat=Z at *
 refine gI oD Tryz.func122 Tryz.results122 ?_
 exact wRA trivial (aI hv hc) ah
theorem VH(z d s:Int)(h:vp 3 z d s=0):Gxx 122 [.agg [vi 3,vi z,vi d,vu s]] (.tup [.agg (skF (nX ⟨3,z,d,s⟩)),vi 0]):=by
 have eo:nX ⟨3,z,d,s⟩=⟨⟨3,z,d,s⟩,Tl.o,Cm.o,⟨z,s,zer (2^z.toNat)⟩,Tp.o,Fq.o,Rk.o⟩:=rfl
 rw[eo]
 refine Good.fzt (vs:=[.agg (skC ⟨⟨3,z,d,s⟩,Tl.o,Cm.o,⟨z,s,zer (2^z.toNat)⟩,Tp.o,Fq.o,Rk.o⟩ nls (fzi (zer (2^z.toNat))) nls nls nls),vi 0]) ?_ rfl ⟨mJ ⟨⟨3,z,d,s⟩,Tl.o,Cm.o,⟨z,s,zer (2^z.toNat)⟩,Tp.o,Fq.o,Rk.o⟩ (aj _) (cu _) (aj _) (aj _) (aj _),aA _,trivial⟩
 have hv:=bg 3 z d s
 rw[h] at hv
 have hc:=abJ z s (al1 h)
 generalize zer (2^z.toNat)=Z at *
 refine gI oD Tryz.func122 Tryz.results122 ?_
 exact wRA trivial (aI hv hc) ah
theorem VI(z d s:Int)(h:vp 4 z d s=0):Gxx 122 [.agg [vi 4,vi z,vi d,vu s]] (.tup [.agg (skF (nX ⟨4,z,d,s⟩)),vi 0]):=by
 have eo:nX ⟨4,z,d,s⟩=⟨⟨4,z,d,s⟩,Tl.o,Cm.o,Ll.o,⟨z,0,[],false⟩,Fq.o,Rk.o⟩:=rfl
 rw[eo]
 refine Good.fzt (vs:=[.agg (skC ⟨⟨4,z,d,s⟩,Tl.o,Cm.o,Ll.o,⟨z,0,[],false⟩,Fq.o,Rk.o⟩ nls nls (fzv []) nls nls),vi 0]) ?_ rfl ⟨mJ ⟨⟨4,z,d,s⟩,Tl.o,Cm.o,Ll.o,⟨z,0,[],false⟩,Fq.o,Rk.o⟩ (aj _) (aj _) (cu _) (aj _) (aj _),aA _,trivial⟩
 have hv:=bg 4 z d s
 rw[h] at hv
 have hc:=abK z (an7 h)
 refine gI oD Tryz.func122 Tryz.results122 ?_
 exact wRA trivial (aI hv hc) ah
theorem VJ(z d s:Int)(h:vp 5 z d s=0):Gxx 122 [.agg [vi 5,vi z,vi d,vu s]] (.tup [.agg (skF (nX ⟨5,z,d,s⟩)),vi 0]):=by
 have eo:nX ⟨5,z,d,s⟩=⟨⟨5,z,d,s⟩,Tl.o,Cm.o,Ll.o,Tp.o,⟨z,0,0,[],false⟩,Rk.o⟩:=rfl
 rw[eo]
 refine Good.fzt (vs:=[.agg (skC ⟨⟨5,z,d,s⟩,Tl.o,Cm.o,Ll.o,Tp.o,⟨z,0,0,[],false⟩,Rk.o⟩ nls nls nls (fzv []) nls),vi 0]) ?_ rfl ⟨mJ ⟨⟨5,z,d,s⟩,Tl.o,Cm.o,Ll.o,Tp.o,⟨z,0,0,[],false⟩,Rk.o⟩ (aj _) (aj _) (aj _) (cu _) (aj _),aA _,trivial⟩
 have hv:=bg 5 z d s
 rw[h] at hv
 have hc:=abL z (an8 h)
 refine gI oD Tryz.func122 Tryz.results122 ?_
 exact wRA trivial (aI hv hc) ah
theorem VK(z d s:Int)(h:vp 6 z d s=0):Gxx 122 [.agg [vi 6,vi z,vi d,vu s]] (.tup [.agg (skF (nX ⟨6,z,d,s⟩)),vi 0]):=by
 have eo:nX ⟨6,z,d,s⟩=⟨⟨6,z,d,s⟩,Tl.o,Cm.o,Ll.o,Tp.o,Fq.o,⟨z,0,0,[],false⟩⟩:=rfl
 rw[eo]
 refine Good.fzt (vs:=[.agg (skC ⟨⟨6,z,d,s⟩,Tl.o,Cm.o,Ll.o,Tp.o,Fq.o,⟨z,0,0,[],false⟩⟩ nls nls nls nls (fzl [])),vi 0]) ?_ rfl ⟨mJ ⟨⟨6,z,d,s⟩,Tl.o,Cm.o,Ll.o,Tp.o,Fq.o,⟨z,0,0,[],false⟩⟩ (aj _) (aj _) (aj _) (aj _) (cu _),aA _,trivial⟩
 have hv:=bg 6 z d s
 rw[h] at hv
 have hc:=abM z (an9 h)
 refine gI oD Tryz.func122 Tryz.results122 ?_
 exact wRA trivial (aI hv hc) ah
theorem afX(p:Pm)(h:vp p.k p.z p.d p.s=0):Gxx 122 [.agg (pmF p)] (.tup [.agg (skF (nX p)),vi 0]):=by
 obtain⟨k,z,d,s⟩:=p
 simp only at h
 rcases FY h with rfl|rfl|rfl|rfl|rfl|rfl
 ·exact VF z d s h
 ·exact VG z d s h
 ·exact VH z d s h
 ·exact VI z d s h
 ·exact VJ z d s h
 ·exact VK z d s h
def fA(s:Sk)(k:List Nat)(w:Int)(co:List Nat)(at':Int):Sk × Int × Int :=
 if vSk s≠0 then (Sk.o,0,vSk s) else if eF k w≠0 then (Sk.o,0,eF k w) else if ¬(0≤at'∧at'≤1073741824) then (Sk.o,0,5)
 else if s.p.k=1 then (⟨s.p,(FZ s.tl k w).1,s.cm,s.ll,s.tp,s.fq,s.rk⟩,at',0)
 else if s.p.k=2 then (⟨s.p,s.tl,(wI s.cm k w).1,s.ll,s.tp,s.fq,s.rk⟩,at',0)
 else if s.p.k=3 then (⟨s.p,s.tl,s.cm,(wJ s.ll k w).1,s.tp,s.fq,s.rk⟩,at',0)
 else if s.p.k=4 then (⟨s.p,s.tl,s.cm,s.ll,(yU s.tp k w).1,s.fq,s.rk⟩,at',0)
 else if s.p.k=5 then (⟨s.p,s.tl,s.cm,s.ll,s.tp,(yY s.fq k w).1,s.rk⟩,at',0)
 else (⟨s.p,s.tl,s.cm,s.ll,s.tp,s.fq,(rU s.rk k w co at').1⟩,(rU s.rk k w co at').2.1,0)
theorem PP:Sk.o.Ok:=⟨⟨by decide,by decide⟩,⟨by decide,by decide⟩,⟨by decide,by decide⟩,Nat.zero_le _,Nat.zero_le _,(fun e he=>by cases he),Nat.zero_le _,(fun e he=>by cases he),Nat.zero_le _,(fun e he=>by cases he),Nat.zero_le _,(fun e he=>by cases he)⟩
theorem abO(s:Sk)(ok:s.Ok)(k:List Nat)(w:Int)(co:List Nat)(at':Int)(hk:oct k):(fA s k w co at').1.Ok:=by
 have z0:(0:Int)≤0∧(0:Int)<18446744073709551616:=⟨by decide,by decide⟩
 unfold fA
 split
 ·exact PP
 ·split
  ·exact PP
  ·split
   ·exact PP
   ·split
    ·exact⟨ok.ps,ok.cs,ok.ls,ok.cn,ok.ln,ok.to,ok.tn,ok.fo,ok.fn,ok.ro,ok.rn,ok.rm⟩
    ·split
     ·have h:(0≤(wI s.cm k w).1.s∧(wI s.cm k w).1.s<18446744073709551616)∧(wI s.cm k w).1.c.length≤1000000:=by
       unfold wI
       split
       ·exact⟨z0,Nat.zero_le _⟩
       ·have:=LY s.cm k w s.cm.d.toNat
        show (0≤(iY s.cm k w s.cm.d.toNat).s∧_)∧(iY s.cm k w s.cm.d.toNat).c.length≤_
        rw[this.2.2.1,this.2.2.2]
        exact⟨ok.cs,ok.cn⟩
      exact⟨ok.ps,h.1,ok.ls,h.2,ok.ln,ok.to,ok.tn,ok.fo,ok.fn,ok.ro,ok.rn,ok.rm⟩
     ·split
      ·have h:(0≤(wJ s.ll k w).1.s∧(wJ s.ll k w).1.s<18446744073709551616)∧(wJ s.ll k w).1.r.length≤1000000:=by
        unfold wJ
        split
        ·exact⟨z0,Nat.zero_le _⟩
        ·exact⟨ok.ls,by simp only[List.length_set];exact ok.ln⟩
       exact⟨ok.ps,ok.cs,h.1,ok.cn,h.2,ok.to,ok.tn,ok.fo,ok.fn,ok.ro,ok.rn,ok.rm⟩
      ·split
       ·have h:=abB s.tp k w ok.to hk ok.tn
        exact⟨ok.ps,ok.cs,ok.ls,ok.cn,ok.ln,h.1,h.2,ok.fo,ok.fn,ok.ro,ok.rn,ok.rm⟩
       ·split
        ·have h:=abC s.fq k w ok.fo hk ok.fn
         exact⟨ok.ps,ok.cs,ok.ls,ok.cn,ok.ln,ok.to,ok.tn,h.1,h.2,ok.ro,ok.rn,ok.rm⟩
        ·have h:=abH s.rk k w co at' hk ok.ro ok.rn ok.rm
         exact⟨ok.ps,ok.cs,ok.ls,ok.cn,ok.ln,ok.to,ok.tn,ok.fo,ok.fn,h.1,h.2.1,h.2.2⟩
theorem PQ:wkV (.agg (skC Sk.o nls nls nls nls nls)) (.agg (skF Sk.o)):=mJ Sk.o (aj _) (aj _) (aj _) (aj _) (aj _)
theorem jJ(n:Int):Gxx 171 [vi n] (vb (decide (0≤n∧n≤1073741824))):=by
 by_cases h1:0≤n
 ·by_cases h2:n≤1073741824
  ·rw[decide_eq_true ⟨h1,h2⟩]
   refine gI oW Tryz.func171 Tryz.results171 ?_
   exact wR trivial trivial ah
  ·rw[decide_eq_false (fun h=>h2 h.2)]
   refine gI oW Tryz.func171 Tryz.results171 ?_
   exact wR trivial trivial ah
 ·rw[decide_eq_false (fun h=>h1 h.1)]
  refine gI oW Tryz.func171 Tryz.results171 ?_
  exact wR trivial trivial ah
theorem IV(s:Sk)(ok:s.Ok)(k:List Nat)(w:Int)(co:List Nat)(at':Int)(ho:oct k)(hco:oct co)(h:vSk s=0)(hi:eF k w=0)(ha:0≤at'∧at'≤1073741824)(hk:s.p.k=1):Gxx 123 [.agg (skF s),.agg [vs k,vi w],fzb co,vi at'] (.tup [.agg (skF (fA s k w co at').1),vi (fA s k w co at').2.1,vi (fA s k w co at').2.2]):=by
 have h1:=dW s ok
 rw[h] at h1
 have h2:=bZ k w
 rw[hi] at h2
 have h3:=jJ at'
 rw[decide_eq_true ha] at h3
 have h4:=DR s.tl k w
 have e:fA s k w co at'=(⟨s.p,(FZ s.tl k w).1,s.cm,s.ll,s.tp,s.fq,s.rk⟩,at',0):=by
  unfold fA
  rw[if_neg (by omega),if_neg (by omega),if_neg (fun h=>h ha)]
  simp [hk]
 rw[e]
 generalize FZ s.tl k w=I at *
 clear ok e
 obtain⟨⟨pk,pz,pd,ps⟩,⟨t1,t2,t3⟩,⟨c1,c2,c3,c4,c5⟩,⟨l1,l2,l3⟩,⟨e1,e2,e3,e4⟩,⟨f1,f2,f3,f4,f5⟩,⟨r1,r2,r3,r4,r5⟩⟩:=s
 obtain⟨⟨i1,i2,i3⟩,i6⟩:=I
 simp only at *
 subst hk
 refine gI oD Tryz.func123 Tryz.results123 ?_
 exact wRA trivial (aI h1 (aI h2 (aI h3 h4))) ah
theorem IW(s:Sk)(ok:s.Ok)(k:List Nat)(w:Int)(co:List Nat)(at':Int)(ho:oct k)(hco:oct co)(h:vSk s=0)(hi:eF k w=0)(ha:0≤at'∧at'≤1073741824)(hk:s.p.k=2):Gxx 123 [.agg (skF s),.agg [vs k,vi w],fzb co,vi at'] (.tup [.agg (skF (fA s k w co at').1),vi (fA s k w co at').2.1,vi (fA s k w co at').2.2]):=by
 have h1:=dW s ok
 rw[h] at h1
 have h2:=bZ k w
 rw[hi] at h2
 have h3:=jJ at'
 rw[decide_eq_true ha] at h3
 have h4:=zi s.cm k w ho
 have e:fA s k w co at'=(⟨s.p,s.tl,(wI s.cm k w).1,s.ll,s.tp,s.fq,s.rk⟩,at',0):=by
  unfold fA
  rw[if_neg (by omega),if_neg (by omega),if_neg (fun h=>h ha)]
  simp [hk]
 rw[e]
 generalize wI s.cm k w=I at *
 clear ok e
 obtain⟨⟨pk,pz,pd,ps⟩,⟨t1,t2,t3⟩,⟨c1,c2,c3,c4,c5⟩,⟨l1,l2,l3⟩,⟨e1,e2,e3,e4⟩,⟨f1,f2,f3,f4,f5⟩,⟨r1,r2,r3,r4,r5⟩⟩:=s
 obtain⟨⟨i1,i2,i3,i4,i5⟩,i6⟩:=I
 simp only at *
 subst hk
 refine gI oD Tryz.func123 Tryz.results123 ?_
 exact wRA trivial (aI h1 (aI h2 (aI h3 h4))) ah
theorem IX(s:Sk)(ok:s.Ok)(k:List Nat)(w:Int)(co:List Nat)(at':Int)(ho:oct k)(hco:oct co)(h:vSk s=0)(hi:eF k w=0)(ha:0≤at'∧at'≤1073741824)(hk:s.p.k=3):Gxx 123 [.agg (skF s),.agg [vs k,vi w],fzb co,vi at'] (.tup [.agg (skF (fA s k w co at').1),vi (fA s k w co at').2.1,vi (fA s k w co at').2.2]):=by
 have h1:=dW s ok
 rw[h] at h1
 have h2:=bZ k w
 rw[hi] at h2
 have h3:=jJ at'
 rw[decide_eq_true ha] at h3
 have h4:=BB s.ll k w ho ok.ln
 have e:fA s k w co at'=(⟨s.p,s.tl,s.cm,(wJ s.ll k w).1,s.tp,s.fq,s.rk⟩,at',0):=by
  unfold fA
  rw[if_neg (by omega),if_neg (by omega),if_neg (fun h=>h ha)]
  simp [hk]
 rw[e]
 generalize wJ s.ll k w=I at *
 clear ok e
 obtain⟨⟨pk,pz,pd,ps⟩,⟨t1,t2,t3⟩,⟨c1,c2,c3,c4,c5⟩,⟨l1,l2,l3⟩,⟨e1,e2,e3,e4⟩,⟨f1,f2,f3,f4,f5⟩,⟨r1,r2,r3,r4,r5⟩⟩:=s
 obtain⟨⟨i1,i2,i3⟩,i6⟩:=I
 simp only at *
 subst hk
 refine gI oD Tryz.func123 Tryz.results123 ?_
 exact wRA trivial (aI h1 (aI h2 (aI h3 h4))) ah
theorem IY(s:Sk)(ok:s.Ok)(k:List Nat)(w:Int)(co:List Nat)(at':Int)(ho:oct k)(hco:oct co)(h:vSk s=0)(hi:eF k w=0)(ha:0≤at'∧at'≤1073741824)(hk:s.p.k=4):Gxx 123 [.agg (skF s),.agg [vs k,vi w],fzb co,vi at'] (.tup [.agg (skF (fA s k w co at').1),vi (fA s k w co at').2.1,vi (fA s k w co at').2.2]):=by
 have h1:=dW s ok
 rw[h] at h1
 have h2:=bZ k w
 rw[hi] at h2
 have h3:=jJ at'
 rw[decide_eq_true ha] at h3
 have h4:=IB s.tp k w ho ok.to ok.tn
 have e:fA s k w co at'=(⟨s.p,s.tl,s.cm,s.ll,(yU s.tp k w).1,s.fq,s.rk⟩,at',0):=by
  unfold fA
  rw[if_neg (by omega),if_neg (by omega),if_neg (fun h=>h ha)]
  simp [hk]
 rw[e]
 generalize yU s.tp k w=I at *
 clear ok e
 obtain⟨⟨pk,pz,pd,ps⟩,⟨t1,t2,t3⟩,⟨c1,c2,c3,c4,c5⟩,⟨l1,l2,l3⟩,⟨e1,e2,e3,e4⟩,⟨f1,f2,f3,f4,f5⟩,⟨r1,r2,r3,r4,r5⟩⟩:=s
 obtain⟨⟨i1,i2,i3,i4⟩,i6⟩:=I
 simp only at *
 subst hk
 refine gI oD Tryz.func123 Tryz.results123 ?_
 exact wRA trivial (aI h1 (aI h2 (aI h3 h4))) ah
theorem IZ(s:Sk)(ok:s.Ok)(k:List Nat)(w:Int)(co:List Nat)(at':Int)(ho:oct k)(hco:oct co)(h:vSk s=0)(hi:eF k w=0)(ha:0≤at'∧at'≤1073741824)(hk:s.p.k=5):Gxx 123 [.agg (skF s),.agg [vs k,vi w],fzb co,vi at'] (.tup [.agg (skF (fA s k w co at').1),vi (fA s k w co at').2.1,vi (fA s k w co at').2.2]):=by
 have h1:=dW s ok
 rw[h] at h1
 have h2:=bZ k w
 rw[hi] at h2
 have h3:=jJ at'
 rw[decide_eq_true ha] at h3
 have h4:=zf s.fq k w ho ok.fo ok.fn
 have e:fA s k w co at'=(⟨s.p,s.tl,s.cm,s.ll,s.tp,(yY s.fq k w).1,s.rk⟩,at',0):=by
  unfold fA
  rw[if_neg (by omega),if_neg (by omega),if_neg (fun h=>h ha)]
  simp [hk]
 rw[e]
 generalize yY s.fq k w=I at *
 clear ok e
 obtain⟨⟨pk,pz,pd,ps⟩,⟨t1,t2,t3⟩,⟨c1,c2,c3,c4,c5⟩,⟨l1,l2,l3⟩,⟨e1,e2,e3,e4⟩,⟨f1,f2,f3,f4,f5⟩,⟨r1,r2,r3,r4,r5⟩⟩:=s
 obtain⟨⟨i1,i2,i3,i4,i5⟩,i6⟩:=I
 simp only at *
 subst hk
 refine gI oD Tryz.func123 Tryz.results123 ?_
 exact wRA trivial (aI h1 (aI h2 (aI h3 h4))) ah
theorem I4(s:Sk)(ok:s.Ok)(k:List Nat)(w:Int)(co:List Nat)(at':Int)(ho:oct k)(hco:oct co)(h:vSk s=0)(hi:eF k w=0)(ha:0≤at'∧at'≤1073741824)(hk:s.p.k=6):Gxx 123 [.agg (skF s),.agg [vs k,vi w],fzb co,vi at'] (.tup [.agg (skF (fA s k w co at').1),vi (fA s k w co at').2.1,vi (fA s k w co at').2.2]):=by
 have h1:=dW s ok
 rw[h] at h1
 have h2:=bZ k w
 rw[hi] at h2
 have h3:=jJ at'
 rw[decide_eq_true ha] at h3
 have h4:=Eb s.rk k w co at' ho hco ok.ro ok.rn ok.rm
 have e:fA s k w co at'=(⟨s.p,s.tl,s.cm,s.ll,s.tp,s.fq,(rU s.rk k w co at').1⟩,(rU s.rk k w co at').2.1,0):=by
  unfold fA
  rw[if_neg (by omega),if_neg (by omega),if_neg (fun h=>h ha)]
  simp [hk]
 rw[e]
 generalize rU s.rk k w co at'=I at *
 clear ok e
 obtain⟨⟨pk,pz,pd,ps⟩,⟨t1,t2,t3⟩,⟨c1,c2,c3,c4,c5⟩,⟨l1,l2,l3⟩,⟨e1,e2,e3,e4⟩,⟨f1,f2,f3,f4,f5⟩,⟨r1,r2,r3,r4,r5⟩⟩:=s
 obtain⟨⟨i1,i2,i3,i4,i5⟩,i6,i7⟩:=I
 simp only at *
 subst hk
 refine gI oD Tryz.func123 Tryz.results123 ?_
 exact wRA trivial (aI h1 (aI h2 (aI h3 h4))) ah
theorem PR(s:Sk)(ok:s.Ok)(k:List Nat)(w:Int)(co:List Nat)(at':Int)(ho:oct k)(hco:oct co):Gxx 123 [.agg (skF s),.agg [vs k,vi w],fzb co,vi at'] (.tup [.agg (skF (fA s k w co at').1),vi (fA s k w co at').2.1,vi (fA s k w co at').2.2]):=by
 have h1:=dW s ok
 have h2:=bZ k w
 have h3:=jJ at'
 by_cases q1:vSk s=0
 ·by_cases q2:eF k w=0
  ·by_cases q3:0≤at'∧at'≤1073741824
   ·have q4:vp s.p.k s.p.z s.p.d s.p.s=0:=by
     unfold vSk at q1
     split at q1
     ·rename_i h;exact absurd q1 h
     ·rename_i h;exact Classical.byContradiction h
    rcases FY q4 with hk|hk|hk|hk|hk|hk
    ·exact IV s ok k w co at' ho hco q1 q2 q3 hk
    ·exact IW s ok k w co at' ho hco q1 q2 q3 hk
    ·exact IX s ok k w co at' ho hco q1 q2 q3 hk
    ·exact IY s ok k w co at' ho hco q1 q2 q3 hk
    ·exact IZ s ok k w co at' ho hco q1 q2 q3 hk
    ·exact I4 s ok k w co at' ho hco q1 q2 q3 hk
   ·have e:fA s k w co at'=(Sk.o,0,5):=by unfold fA;rw[if_neg (by omega),if_neg (by omega),if_pos q3]
    rw[e]
    rw[decide_eq_false q3] at h3
    rw[q1] at h1
    rw[q2] at h2
    refine Good.fzt (vs:=[.agg (skC Sk.o nls nls nls nls nls),vi 0,vi 5]) ?_ rfl ⟨PQ,aA _,aA _,trivial⟩
    refine gI oD Tryz.func123 Tryz.results123 ?_
    exact wRA trivial (aI h1 (aI h2 h3)) ah
  ·have e:fA s k w co at'=(Sk.o,0,eF k w):=by unfold fA;rw[if_neg (by omega),if_pos q2]
   rw[e]
   rw[q1] at h1
   refine Good.fzt (vs:=[.agg (skC Sk.o nls nls nls nls nls),vi 0,vi (eF k w)]) ?_ rfl ⟨PQ,aA _,aA _,trivial⟩
   refine gI oD Tryz.func123 Tryz.results123 ?_
   exact wRA trivial (aI h1 h2) ah
 ·have e:fA s k w co at'=(Sk.o,0,vSk s):=by unfold fA;rw[if_pos q1]
  rw[e]
  refine Good.fzt (vs:=[.agg (skC Sk.o nls nls nls nls nls),vi 0,vi (vSk s)]) ?_ rfl ⟨PQ,aA _,aA _,trivial⟩
  refine gI oD Tryz.func123 Tryz.results123 ?_
  exact wRA trivial h1 ah
theorem aoa(n:Nat):Int.fdiv (n:Int) (2^min 1 IntKind.i64.bits)=((n / 2:Nat):Int):=by
 show Int.fdiv (n:Int) ((2:Nat):Int)=_
 rw[Int.fdiv_eq_ediv_of_nonneg _ (Int.natCast_nonneg _),Int.natCast_ediv]
theorem aob(n:Nat):Int.fdiv (n:Int) (2^min 3 IntKind.i64.bits)=((n / 8:Nat):Int):=by
 show Int.fdiv (n:Int) ((8:Nat):Int)=_
 rw[Int.fdiv_eq_ediv_of_nonneg _ (Int.natCast_nonneg _),Int.natCast_ediv]
theorem aoc(n:Nat):Int.fdiv (n:Int) (2^min 4 IntKind.i64.bits)=((n / 16:Nat):Int):=by
 show Int.fdiv (n:Int) ((16:Nat):Int)=_
 rw[Int.fdiv_eq_ediv_of_nonneg _ (Int.natCast_nonneg _),Int.natCast_ediv]
theorem aod(n:Nat):Int.fdiv (n:Int) (2^min 5 IntKind.i64.bits)=((n / 32:Nat):Int):=by
 show Int.fdiv (n:Int) ((32:Nat):Int)=_
 rw[Int.fdiv_eq_ediv_of_nonneg _ (Int.natCast_nonneg _),Int.natCast_ediv]
theorem aoe(n:Nat):Int.fdiv (n:Int) (2^min 6 IntKind.i64.bits)=((n / 64:Nat):Int):=by
 show Int.fdiv (n:Int) ((64:Nat):Int)=_
 rw[Int.fdiv_eq_ediv_of_nonneg _ (Int.natCast_nonneg _),Int.natCast_ediv]
theorem aof(n:Nat):Int.fdiv (n:Int) (2^min 7 IntKind.i64.bits)=((n / 128:Nat):Int):=by
 show Int.fdiv (n:Int) ((128:Nat):Int)=_
 rw[Int.fdiv_eq_ediv_of_nonneg _ (Int.natCast_nonneg _),Int.natCast_ediv]
theorem aog(n:Nat):Int.fdiv (n:Int) (2^min 8 IntKind.i64.bits)=((n / 256:Nat):Int):=by
 show Int.fdiv (n:Int) ((256:Nat):Int)=_
 rw[Int.fdiv_eq_ediv_of_nonneg _ (Int.natCast_nonneg _),Int.natCast_ediv]
theorem aoh(n:Nat):Int.fdiv (n:Int) (2^min 9 IntKind.i64.bits)=((n / 512:Nat):Int):=by
 show Int.fdiv (n:Int) ((512:Nat):Int)=_
 rw[Int.fdiv_eq_ediv_of_nonneg _ (Int.natCast_nonneg _),Int.natCast_ediv]
theorem al2(n:Nat):Int.fdiv (n:Int) (2^min 10 IntKind.i64.bits)=((n / 1024:Nat):Int):=by
 show Int.fdiv (n:Int) ((1024:Nat):Int)=_
 rw[Int.fdiv_eq_ediv_of_nonneg _ (Int.natCast_nonneg _),Int.natCast_ediv]
theorem al3(n:Nat):Int.fdiv (n:Int) (2^min 11 IntKind.i64.bits)=((n / 2048:Nat):Int):=by
 show Int.fdiv (n:Int) ((2048:Nat):Int)=_
 rw[Int.fdiv_eq_ediv_of_nonneg _ (Int.natCast_nonneg _),Int.natCast_ediv]
theorem al4(n:Nat):Int.fdiv (n:Int) (2^min 12 IntKind.i64.bits)=((n / 4096:Nat):Int):=by
 show Int.fdiv (n:Int) ((4096:Nat):Int)=_
 rw[Int.fdiv_eq_ediv_of_nonneg _ (Int.natCast_nonneg _),Int.natCast_ediv]
theorem aoi(n:Nat):bits .and .i64 (n:Int) 1=((n%2:Nat):Int):=Eq.trans (show _=(n:Int)%2 from jH (n:Int) 1 (by decide)) rfl
theorem aoj(n:Nat):bits .and .i64 (n:Int) 3=((n%4:Nat):Int):=Eq.trans (show _=(n:Int)%4 from jH (n:Int) 2 (by decide)) rfl
theorem aok(n:Nat):bits .and .i64 (n:Int) 7=((n%8:Nat):Int):=Eq.trans (show _=(n:Int)%8 from jH (n:Int) 3 (by decide)) rfl
theorem aol(n:Nat):bits .and .i64 (n:Int) 15=((n%16:Nat):Int):=Eq.trans (show _=(n:Int)%16 from jH (n:Int) 4 (by decide)) rfl
theorem aom(n:Nat):bits .and .i64 (n:Int) 31=((n%32:Nat):Int):=Eq.trans (show _=(n:Int)%32 from jH (n:Int) 5 (by decide)) rfl
theorem aon(n:Nat):bits .and .i64 (n:Int) 63=((n%64:Nat):Int):=Eq.trans (show _=(n:Int)%64 from jH (n:Int) 6 (by decide)) rfl
theorem al5(n:Nat):bits .and .i64 (n:Int) 65535=((n%65536:Nat):Int):=Eq.trans (show _=(n:Int)%65536 from jH (n:Int) 16 (by decide)) rfl
theorem al6(n:Nat):bits .and .i64 (n:Int) 16777215=((n%16777216:Nat):Int):=Eq.trans (show _=(n:Int)%16777216 from jH (n:Int) 24 (by decide)) rfl
def shB:=aI @aoa (aI @aob (aI @aoc (aI @aod (aI @aoe (aI @aof (aI @aog (aI @aoh (aI @al2 (aI @al3 (@al4))))))))))
def anB:=aI @aoi (aI @aoj (aI @aok (aI @aol (aI @aom (aI @aon (aI @al5 (@al6)))))))
theorem tmN(a b:Nat):Int.tmod (a:Int) (b:Int)=((a%b:Nat):Int):=rfl
theorem tdN(a b:Nat):Int.tdiv (a:Int) (b:Int)=((a / b:Nat):Int):=rfl
def atN(l:List Int)(i:Nat):Nat:=if l.length=0 then i%65536 else (l.getD (i%l.length) 0%65536).toNat+i / l.length
theorem dU(l:List Int)(i:Nat):atN l i≤65535+i:=by
 unfold atN
 split
 ·omega
 ·have:=Nat.div_le_self i l.length
  omega
theorem al7(n:Int):bits .and .i64 n 65535=(((n%65536).toNat:Nat):Int):=by rw[afG];omega
theorem jT(l:List Int)(i:Nat)(hl:l.length≤9223372036854775807)(hi:i≤1000000):Gxx 31 [fzi l,vi i] (vi (atN l i:Nat)):=by
 have hil:=bP l
 unfold atN
 by_cases h:l.length=0
 ·rw[if_pos h]
  refine gI oW Tryz.func31 Tryz.results31 ?_
  exact wR (aI @hil @anB) trivial ah
 ·rw[if_neg h]
  have hlt:i%l.length<l.length:=Nat.mod_lt _ (by omega)
  have hg:=mg l (i%l.length) hlt
  have e1:=tmN i l.length
  have e2:=tdN i l.length
  have e3:=al7 (l.getD (i%l.length) 0)
  have hdl:=Nat.div_le_self i l.length
  have hb:(l.getD (i%l.length) 0%65536).toNat<65536:=by omega
  generalize (l.getD (i%l.length) 0%65536).toNat=x at *
  generalize l.getD (i%l.length) 0=y at *
  generalize i%l.length=j at *
  generalize i / l.length=k at *
  refine gI oW Tryz.func31 Tryz.results31 ?_
  exact wR (aI @hil (aI @e1 (aI @e2 (aI @hg @e3)))) trivial ah
def wB(n:Nat):Int:=if n / 4096%16=14 then 1+((n%65536*65537%4294967295:Nat):Int) else if n / 4096%16=15 then 4294967295-((n%4:Nat):Int) else 1+((n / 16%8:Nat):Int)
def Gx(n:Nat):List Nat × Int:=(wC n,wB n)
theorem al8(n:Nat):1≤wB n∧wB n≤4294967295:=by unfold wB;(repeat' split)<;>omega
theorem tmW(a:Nat):Int.tmod ((a:Int)*65537) 4294967295=((a*65537%4294967295:Nat):Int):=rfl
theorem ajO(n:Nat)(hn:n≤1000000000):Gxx 68 [vi n] (.agg [vs (Gx n).1,vi (Gx n).2]):=by
 have hk:=abb (n:Int)
 have e:=tmW (n%65536)
 unfold Gx wB
 simp only
 by_cases h1:n / 4096%16=14
 ·rw[if_pos h1]
  refine gI oW Tryz.func68 Tryz.results68 ?_
  exact wR (aI @shB (aI @anB @e)) hk ah
 ·rw[if_neg h1]
  by_cases h2:n / 4096%16=15
  ·rw[if_pos h2]
   refine gI oW Tryz.func68 Tryz.results68 ?_
   exact wR (aI @shB (aI @anB @e)) hk ah
  ·rw[if_neg h2]
   refine gI oW Tryz.func68 Tryz.results68 ?_
   exact wR (aI @shB (aI @anB @e)) hk ah
def fE(l:List Int)(n:Nat):List (List Nat × Int):=(List.range n).map fun i=>Gx (atN l i)
theorem tN(l:List Int)(n:Nat):(fE l n).length=n:=by simp [fE]
theorem MG(l:List Int)(n:Nat):itv (fE l n)++[V.agg [vs (Gx (atN l n)).1,vi (Gx (atN l n)).2]]=itv (fE l (n+1)):=by simp [fE,itv,List.range_succ]
theorem SE(l:List Int)(n:Nat)(hl:l.length≤9223372036854775807)(hn:n≤1000):Gxx 35 [fzi l,vi n] (fzt (fE l n)):=by
 refine Good.fzr (r := .sl (.own 0 64) 2 (itv (fE l n))) ?_ rfl (aA _)
 refine gI oW Tryz.func35 Tryz.results35 ?_
 refine wS trivial trivial ?_
 refine aK (fun i:Nat=>mkA [(0,fzi l),(1,vi n),(5,.sl (.own 0 64) 2 (itv (fE l i))),(6,vi i)] [] 1 (fun _ => .top)) (fun i=>i≤n) (fun i=>n-i) 0 [] [] ?_ (Nat.zero_le _) ?_
 ·exact kE
  all_goals exact gK rfl
 ·intro i hi
  replace hi:i≤n:=hi
  have hil:=aB (fE l i)
  have hib:=tN l i
  rcases Nat.lt_or_ge i n with hlt|hge
  ·have h1:=jT l i hl (by omega)
   have h2:=ajO (atN l i) (by have:=dU l i;omega)
   have hnx:=MG l i
   generalize atN l i=a at *
   refine wS (aI @hil (aI @hib @hnx)) (aI h1 h2) ?_
   exact bE (i+1) [0] [] hlt
  ·have:i=n:=by omega
   subst this
   exact wR trivial trivial (ids [0])
def iO(n:Nat):Pm :=
 if n%6=0 then ⟨1,0,0,0⟩ else if n%6=1 then ⟨2,1+((n / 16%4:Nat):Int),1+((n / 8%2:Nat):Int),((n / 256%4:Nat):Int)⟩ else if n%6=2 then ⟨3,2+((n / 8%2:Nat):Int),0,((n / 256%4:Nat):Int)⟩
 else if n%6=3 then ⟨4,1+((n / 8%4:Nat):Int),0,0⟩ else if n%6=4 then ⟨5,1+((n / 8%4:Nat):Int),0,0⟩ else ⟨6,2+2*((n / 8%2:Nat):Int),0,0⟩
theorem SG(n:Nat):vp (iO n).k (iO n).z (iO n).d (iO n).s=0:=by
 unfold iO
 (repeat' split)<;>simp [vp]<;>omega
theorem PS(n:Nat):0≤(iO n).s∧(iO n).s<18446744073709551616:=by
 unfold iO
 (repeat' split)<;>simp<;>omega
theorem tm6(n:Nat):Int.tmod (n:Int) 6=((n%6:Nat):Int):=rfl
theorem gQ(n:Nat)(hn:n≤1000000000):Gxx 33 [vi n] (.agg (pmF (iO n))):=by
 have e:=tm6 n
 have hlt:n%6<6:=Nat.mod_lt _ (by omega)
 unfold iO
 rcases (show n%6=0∨n%6=1∨n%6=2∨n%6=3∨n%6=4∨n%6=5 by omega) with h|h|h|h|h|h
 all_goals
  simp only[h] at e ⊢
  refine gI oW Tryz.func33 Tryz.results33 ?_
  exact wR (aI @shB (aI @anB @e)) trivial ah
abbrev Qy:=Int × List Nat × Int × Int × Int
abbrev qyF(q:Qy):List V:=[vi q.1,vs q.2.1,vi q.2.2.1,vi q.2.2.2.1,vi q.2.2.2.2]
def dA(n:Nat):Qy :=
 if n%7=0 then (1,[],0,0,0) else if n%7=1 then (2,wC ((n / 8:Nat):Int),0,0,0) else if n%7=2 then (3,[],0,0,0) else if n%7=3 then (4,[],0,0,0)
 else if n%7=4 then (5,[],((n / 8%8:Nat):Int),0,0) else if n%7=5 then (6,wC ((n / 8:Nat):Int),0,0,0) else (7,[],0,((n / 8%4:Nat):Int),3+((n / 32%4:Nat):Int))
theorem tm7(n:Nat):Int.tmod (n:Int) 7=((n%7:Nat):Int):=rfl
theorem ja(n:Nat)(hn:n≤1000000000):Gxx 34 [vi n] (.agg (qyF (dA n))):=by
 have e:=tm7 n
 have hk:=abb ((n / 8:Nat):Int)
 unfold dA
 rcases (show n%7=0∨n%7=1∨n%7=2∨n%7=3∨n%7=4∨n%7=5∨n%7=6 by omega) with h|h|h|h|h|h|h
 all_goals
  simp only[h] at e ⊢
  refine gI oW Tryz.func34 Tryz.results34 ?_
  exact wR (aI @shB (aI @anB (aI @e @ai))) hk ah
def al9:List Nat:=[48,49,50,51,52,53,54,55,56,57,48,49,50,51,52,53,54,55,56,57,48,49,50,51,52,53,54,55,56,57,48,49,50,51]
def aqL:List (List Nat):=[[],[120],al9]
def uj(n:Nat):Qy :=
 if n / 512%16=0 then (((n / 16%16:Nat):Int)-3,(dA n).2.1,(dA n).2.2.1,(dA n).2.2.2.1,(dA n).2.2.2.2)
 else if n / 512%16=1 then ((dA n).1,aqL.getD (n / 16%3) [],(dA n).2.2.1,(dA n).2.2.2.1,(dA n).2.2.2.2)
 else if n / 512%16=2 then ((dA n).1,(dA n).2.1,((n / 16%64:Nat):Int)-2,(dA n).2.2.2.1,(dA n).2.2.2.2)
 else if n / 512%16=3 then ((dA n).1,(dA n).2.1,(dA n).2.2.1,((n / 16%8:Nat):Int)-1,((n / 128%4:Nat):Int))
 else if n / 512%16=4 then ((dA n).1,(dA n).2.1,(dA n).2.2.1,(dA n).2.2.2.1,1000000+((n / 16%2:Nat):Int)) else dA n
theorem tm3(n:Nat):Int.tmod (n:Int) 3=((n%3:Nat):Int):=rfl
theorem ama(e:Nat→V)(b:Nat→Option (TypeId × List V))(n:Nat)(h:Nat→V):bV Tryz.prog ⟨e,b,n,h⟩ 23 3 [(0,V.c (.string ⟨#[]⟩)),(1,V.c (.string ⟨#[120]⟩)),(2,V.c (.string ⟨#[48,49,50,51,52,53,54,55,56,57,48,49,50,51,52,53,54,55,56,57,48,49,50,51,52,53,54,55,56,57,48,49,50,51]⟩))]=some (.sl (.own n 9) 1 (sv aqL),⟨e,b,n+1,h⟩):=by
 rw[eG,qQ,Option.bind_some,x8,Option.bind_some,xZ,Option.bind_some]
 rfl
theorem PT(n:Nat)(hn:n≤1000000000):Gxx 30 [vi n] (.agg (qyF (uj n))):=by
 have hq:=ja n hn
 have e:=tm3 (n / 16)
 have hlt:n / 16%3<3:=Nat.mod_lt _ (by omega)
 have hg:=iK aqL (n / 16%3) hlt
 have hql:aqL.length=3:=rfl
 have hqs:=au aqL
 unfold uj
 generalize dA n=q at *
 obtain⟨k,key,c,nu,de⟩:=q
 simp only at *
 rcases (show n / 512%16=0∨n / 512%16=1∨n / 512%16=2∨n / 512%16=3∨n / 512%16=4∨(n / 512%16≠0∧n / 512%16≠1∧n / 512%16≠2∧n / 512%16≠3∧n / 512%16≠4) by omega) with h|h|h|h|h|h
 all_goals
  simp only[h,Nat.reduceEqDiff,reduceIte]
  refine gI oW Tryz.func30 Tryz.results30 ?_
  exact wR' (aI @ama (aI @shB (aI @anB (aI @e (aI @hg (aI @hqs @hql)))))) hq ah
def ae(n:Nat):List Nat:=[97+n%16777216%3]
def nmL:List (List Nat):=[[97],[98],[99]]
theorem amb(e:Nat→V)(b:Nat→Option (TypeId × List V))(n:Nat)(h:Nat→V):bV Tryz.prog ⟨e,b,n,h⟩ 23 3 [(0,V.c (.string ⟨#[97]⟩)),(1,V.c (.string ⟨#[98]⟩)),(2,V.c (.string ⟨#[99]⟩))]=some (.sl (.own n 9) 1 (sv nmL),⟨e,b,n+1,h⟩):=by
 rw[eG,qQ,Option.bind_some,x8,Option.bind_some,xZ,Option.bind_some]
 rfl
theorem afY(k:Nat)(h:k<3):nmL.getD k []=[97+k]:=by
 have:k=0∨k=1∨k=2:=by omega
 rcases this with rfl|rfl|rfl<;>rfl
theorem aQ(n:Nat)(hn:n≤1000000000):Gxx 32 [vi n] (vs (ae n)):=by
 have e:=tm3 (n%16777216)
 have hlt:n%16777216%3<3:=Nat.mod_lt _ (by omega)
 have hg:=iK nmL (n%16777216%3) hlt
 rw[afY _ hlt] at hg
 have hql:nmL.length=3:=rfl
 have hqs:=au nmL
 unfold ae
 refine gI oW Tryz.func32 Tryz.results32 ?_
 exact wR' (aI @amb (aI @anB (aI @e (aI @hg (aI @hqs @hql))))) trivial ah
def qj(p:Pm)(its:List (List Nat × Int))(co:List Nat):Nat→Sk × Int
 | 0=>(nX p,0)
 | i+1=>((fA (qj p its co i).1 (its.getD i ([],0)).1 (its.getD i ([],0)).2 co (qj p its co i).2).1,(fA (qj p its co i).1 (its.getD i ([],0)).1 (its.getD i ([],0)).2 co (qj p its co i).2).2.1)
theorem MH(p:Pm)(hs:0≤p.s∧p.s<18446744073709551616)(hv:vp p.k p.z p.d p.s=0)(its:List (List Nat × Int))(ho:∀x∈its,oct x.1)(co:List Nat)(i:Nat):(qj p its co i).1.Ok:=by
 induction i with
 | zero=>exact abN p hs hv
 | succ i ih =>
  refine abO _ ih _ _ _ _ ?_
  rcases Nat.lt_or_ge i its.length with h|h
  ·exact ho _ (jS _ _ _ h)
  ·rw[List.getD,List.getElem?_eq_none h];exact dV
theorem ajP(p:Pm)(hs:0≤p.s∧p.s<18446744073709551616)(hv:vp p.k p.z p.d p.s=0)(its:List (List Nat × Int))(hn:its.length≤1000000)(ho:∀x∈its,oct x.1)(co:List Nat)(hco:oct co) :
  Gxx 71 [.agg (pmF p),fzt its,fzb co] (.agg (skF (qj p its co its.length).1)):=by
 have h1:=afX p hv
 have hil:=aB its
 have hok:=MH p hs hv its ho co
 have e0:qj p its co 0=(nX p,0):=rfl
 have es:∀i,qj p its co (i+1)=((fA (qj p its co i).1 (its.getD i ([],0)).1 (its.getD i ([],0)).2 co (qj p its co i).2).1,(fA (qj p its co i).1 (its.getD i ([],0)).1 (its.getD i ([],0)).2 co (qj p its co i).2).2.1):=fun _=>rfl
 generalize qj p its co=F at *
 obtain⟨pk,pz,pd,ps⟩:=p
 refine gI oW Tryz.func71 Tryz.results71 ?_
 refine wS trivial h1 ?_
 refine aK (fun i:Nat=>mkA [(1,fzt its),(2,fzb co),(6,.ref 0 0),(7,.ref 1 0),(9,vi (F i).2),(10,vi i)] [(0,(93,skC Sk.o nls nls nls nls nls)),(1,(93,skF (F i).1))] 2 (fun _ => .top)) (fun i=>i≤its.length) (fun i=>its.length-i) 0 [] [1,2] ?_ (Nat.zero_le _) ?_
 ·rw[e0]
  exact kE
 ·intro i hi
  replace hi:i≤its.length:=hi
  rcases Nat.lt_or_ge i its.length with hlt|hge
  ·have hg:=sS its i hlt
   have hox:=ho _ (jS its i ([],0) hlt)
   have hes:=es i
   have hoki:=hok i
   generalize its.getD i ([],0)=x at *
   have h2:=PR (F i).1 hoki x.1 x.2 co (F i).2 hox hco
   have e1:=congrArg Prod.fst hes
   have e2:=congrArg Prod.snd hes
   simp only at e1 e2
   rw[←e1,←e2] at h2
   generalize F i=G at *
   obtain⟨g,a⟩:=G
   refine wS (aI @hil @hg) h2 ?_
   exact bE (i+1) [] [0,1] hlt
  ·have:i=its.length:=by omega
   subst this
   exact wR @hil trivial ah
def um(s:Sk):List Nat:=if s.p.k=1 then Ei s.tl else if s.p.k=2 then Ej s.cm else if s.p.k=3 then Em s.ll else if s.p.k=4 then Eo s.tp else if s.p.k=5 then Ep s.fq else Es s.rk
def jk(s:Sk):List Nat:=if vSk s≠0 then [] else zh 83 (aO s.p.k.toNat++um s)
theorem vG{s:Sk}(h:vSk s=0):vp s.p.k s.p.z s.p.d s.p.s=0∧kY s=0:=by
 unfold vSk at h
 split at h
 ·rename_i h1;exact absurd h h1
 ·rename_i h1
  split at h
  ·rename_i h2;exact absurd h h2
  ·rename_i h2;exact⟨Classical.byContradiction h1,Classical.byContradiction h2⟩
theorem EG{α:Type}(f:α→List Nat)(l:List α)(h:∀x∈l,oct (f x)):oct (l.flatMap f):=by
 intro b hb
 obtain⟨x,hx,hb⟩:=List.mem_flatMap.1 hb
 exact h x hx b hb
theorem lN(s:Sk)(ok:s.Ok)(h:vSk s=0):oct (um s)∧(um s).length≤100000:=by
 obtain⟨h1,h2⟩:=vG h
 unfold um
 unfold kY at h2
 have U:=fun n=>aS n
 split
 ·unfold Ei
  refine⟨bM (bM (bH _) (bH _)) (rV _), ?_⟩
  have:=U s.tl.t.toNat;have:=U s.tl.i.toNat;have:=jU s.tl.b
  simp only[List.length_append];omega
 ·rename_i q1
  rw[if_neg q1] at h2
  split
  ·rename_i q2
   rw[if_pos q2] at h2
   obtain⟨i1,i2,i3,i4⟩:=PL h2
   have hm:=zY i1 i2
   unfold Ej
   refine⟨bM (bM (bM (bM (bH _) (bH _)) (Ag _)) (EG _ _ fun _ _=>bH _)) (rV _), ?_⟩
   have:=U s.cm.d.toNat;have:=U s.cm.z.toNat;have:=jU s.cm.b;have:=lV s.cm.s
   have h9:=Aq (fun n:Int=>aO n.toNat) 9 s.cm.c (fun x _=>U _)
   have h8:s.cm.c.length≤512:=by omega
   have h7:(lM s.cm.c).length≤s.cm.c.length*9:=h9
   simp only[List.length_append];omega
  ·rename_i q2
   rw[if_neg q2] at h2
   split
   ·rename_i q3
    rw[if_pos q3] at h2
    obtain⟨i1,i2,i3⟩:=PM h2
    have hp:=(Aj i1).2.1
    unfold Em
    refine⟨bM (bM (bH _) (Ag _)) (fun b hb=>by obtain⟨x,_,rfl⟩:=List.mem_map.1 hb;exact abf _), ?_⟩
    have:=U s.ll.p.toNat;have:=lV s.ll.s
    simp only[List.length_append,List.length_map];omega
   ·rename_i q3
    rw[if_neg q3] at h2
    split
    ·rename_i q4
     rw[if_pos q4] at h2
     obtain⟨i1,i2,i3,i4⟩:=IA h2
     unfold Eo
     refine⟨bM (bM (bM (bM (bH _) (bH _)) (rV _)) (bH _)) (EG _ _ fun e he=>bM (bM (Ah (ok.to e he)) (bH _)) (bH _)), ?_⟩
     have:=U s.tp.z.toNat;have:=U s.tp.t.toNat;have:=jU s.tp.b;have:=U s.tp.e.length
     have h9:=Aq Am 59 s.tp.e (fun x hx=>by
      obtain⟨j,hj,he⟩:=qh eD hx
      refine L9 x ?_
      have:=(yV (i4 j hj)).1
      rw[kV,he] at this
      exact this.2)
     have h8:s.tp.e.length≤32:=by omega
     simp only[List.length_append];omega
    ·rename_i q4
     rw[if_neg q4] at h2
     split
     ·rename_i q5
      rw[if_pos q5] at h2
      obtain⟨i1,i2,i2',i3,i4⟩:=IC h2
      unfold Ep
      refine⟨bM (bM (bM (bM (bM (bH _) (bH _)) (bH _)) (rV _)) (bH _)) (EG _ _ fun e he=>bM (Ah (ok.fo e he)) (bH _)), ?_⟩
      have:=U s.fq.z.toNat;have:=U s.fq.t.toNat;have:=U s.fq.l.toNat;have:=jU s.fq.b;have:=U s.fq.e.length
      have h9:=Aq Ap 50 s.fq.e (fun x hx=>by
       obtain⟨j,hj,he⟩:=qh eD hx
       refine Mc x ?_
       have:=(yZ (i4 j hj)).1
       rw[kV,he] at this
       exact this.2)
      have h8:s.fq.e.length≤32:=by omega
      simp only[List.length_append];omega
     ·rename_i q5
      rw[if_neg q5] at h2
      have hkeys:=Me h2
      obtain⟨i1,i2,i2',i3,i4⟩:=IG h2
      unfold Es
      refine⟨bM (bM (bM (bM (bM (bH _) (bH _)) (bH _)) (rV _)) (bH _)) (EG _ _ fun l hl=>bM (bH _) (EG _ _ fun k hk=>Ah (ok.ro l hl k hk))), ?_⟩
      have:=U s.rk.z.toNat;have:=U s.rk.t.toNat;have:=U s.rk.l.toNat;have:=jU s.rk.b;have:=U s.rk.v.length
      have h9:=Aq vC 1280 s.rk.v (fun l hl=>by obtain⟨j,hj,he⟩:=qh [] hl;rw[←he];exact Md _ (hkeys j hj) (i4 j))
      simp only[List.length_append];omega
theorem MI(s:Sk)(ok:s.Ok):oct (jk s)∧(jk s).length≤100100:=by
 unfold jk
 split
 ·exact⟨dV,Nat.zero_le _⟩
 ·rename_i h
  obtain⟨h1,h2⟩:=lN s ok (Classical.byContradiction h)
  have h3:=aS s.p.k.toNat
  refine⟨LK (by decide) (bM (bH _) h1), ?_⟩
  have:=LJ 83 (aO s.p.k.toNat++um s)
  rw[List.length_append] at this
  omega
theorem afZ:wkV nls (fzb []) := .inl (oq _ _)
theorem MJ(s:Sk)(ok:s.Ok)(h:vSk s≠0):Gxx 69 [.agg (skF s)] (.tup [fzb (jk s),vi (vSk s)]):=by
 have h1:=dW s ok
 have e:jk s=[]:=if_pos h
 rw[e]
 refine Good.fzt (vs:=[nls,vi (vSk s)]) ?_ rfl ⟨afZ,aA _,trivial⟩
 generalize vSk s=v at *
 clear ok e
 obtain⟨⟨pk,pz,pd,ps⟩,⟨t1,t2,t3⟩,⟨c1,c2,c3,c4,c5⟩,⟨l1,l2,l3⟩,⟨e1,e2,e3,e4⟩,⟨f1,f2,f3,f4,f5⟩,⟨r1,r2,r3,r4,r5⟩⟩:=s
 refine gI oW Tryz.func69 Tryz.results69 ?_
 exact wR trivial h1 ah
theorem I5(s:Sk)(ok:s.Ok)(h:vSk s=0)(hk:s.p.k=1):Gxx 69 [.agg (skF s)] (.tup [fzb (jk s),vi (vSk s)]):=by
 have h1:=dW s ok
 rw[h] at h1 ⊢
 obtain⟨_,hp⟩:=vG h
 have hbo:=lN s ok h
 have eb:um s=Ei s.tl:=by simp [um,hk]
 have ep:kY s=0:=hp
 unfold kY at hp
 simp only[hk,Int.reduceEq,reduceIte] at hp
 have e:jk s=zh 83 (aO (1:Int).toNat++Ei s.tl):=by unfold jk;rw[if_neg (by omega),hk,eb]
 rw[e]
 rw[eb] at hbo
 have h2:=Et s.tl hp
 have h3:=kW (1:Int) ⟨by decide,by decide⟩
 have ul:=aS (1:Int).toNat
 have uo:=bH (1:Int).toNat
 generalize Ei s.tl=B at *
 generalize aO (1:Int).toNat=u at *
 have h4:=qg 83 (u++B) (by decide) (bM uo hbo.1) (by rw[List.length_append];omega)
 have q1:=ax u
 have q2:=ax B
 have q3:=dP u B
 clear ok e eb ep h hp
 obtain⟨⟨pk,pz,pd,ps⟩,⟨t1,t2,t3⟩,⟨c1,c2,c3,c4,c5⟩,⟨l1,l2,l3⟩,⟨e1,e2,e3,e4⟩,⟨f1,f2,f3,f4,f5⟩,⟨r1,r2,r3,r4,r5⟩⟩:=s
 simp only at *
 subst hk
 refine gI oW Tryz.func69 Tryz.results69 ?_
 (repeat' first|refine wP (aI @q1 (aI @q2 (aI @q3 @id_eq.{1}))) (aI h1 (aI h2 h3)) ?_|refine cG [1] h4 ?_|refine tS ?_ ?_<;>intro hc|fail)
 exact rE []
theorem I7(s:Sk)(ok:s.Ok)(h:vSk s=0)(hk:s.p.k=2):Gxx 69 [.agg (skF s)] (.tup [fzb (jk s),vi (vSk s)]):=by
 have h1:=dW s ok
 rw[h] at h1 ⊢
 obtain⟨_,hp⟩:=vG h
 have hbo:=lN s ok h
 have eb:um s=Ej s.cm:=by simp [um,hk]
 have ep:kY s=0:=hp
 unfold kY at hp
 simp only[hk,Int.reduceEq,reduceIte] at hp
 have e:jk s=zh 83 (aO (2:Int).toNat++Ej s.cm):=by unfold jk;rw[if_neg (by omega),hk,eb]
 rw[e]
 rw[eb] at hbo
 have h2:=zl s.cm hp ok.cs
 have h3:=kW (2:Int) ⟨by decide,by decide⟩
 have ul:=aS (2:Int).toNat
 have uo:=bH (2:Int).toNat
 generalize Ej s.cm=B at *
 generalize aO (2:Int).toNat=u at *
 have h4:=qg 83 (u++B) (by decide) (bM uo hbo.1) (by rw[List.length_append];omega)
 have q1:=ax u
 have q2:=ax B
 have q3:=dP u B
 clear ok e eb ep h hp
 obtain⟨⟨pk,pz,pd,ps⟩,⟨t1,t2,t3⟩,⟨c1,c2,c3,c4,c5⟩,⟨l1,l2,l3⟩,⟨e1,e2,e3,e4⟩,⟨f1,f2,f3,f4,f5⟩,⟨r1,r2,r3,r4,r5⟩⟩:=s
 simp only at *
 subst hk
 refine gI oW Tryz.func69 Tryz.results69 ?_
 (repeat' first|refine wP (aI @q1 (aI @q2 (aI @q3 @id_eq.{1}))) (aI h1 (aI h2 h3)) ?_|refine cG [1] h4 ?_|refine tS ?_ ?_<;>intro hc|fail)
 exact rE []
theorem I8(s:Sk)(ok:s.Ok)(h:vSk s=0)(hk:s.p.k=3):Gxx 69 [.agg (skF s)] (.tup [fzb (jk s),vi (vSk s)]):=by
 have h1:=dW s ok
 rw[h] at h1 ⊢
 obtain⟨_,hp⟩:=vG h
 have hbo:=lN s ok h
 have eb:um s=Em s.ll:=by simp [um,hk]
 have ep:kY s=0:=hp
 unfold kY at hp
 simp only[hk,Int.reduceEq,reduceIte] at hp
 have e:jk s=zh 83 (aO (3:Int).toNat++Em s.ll):=by unfold jk;rw[if_neg (by omega),hk,eb]
 rw[e]
 rw[eb] at hbo
 have h2:=BC s.ll hp ok.ls ok.ln
 have h3:=kW (3:Int) ⟨by decide,by decide⟩
 have ul:=aS (3:Int).toNat
 have uo:=bH (3:Int).toNat
 generalize Em s.ll=B at *
 generalize aO (3:Int).toNat=u at *
 have h4:=qg 83 (u++B) (by decide) (bM uo hbo.1) (by rw[List.length_append];omega)
 have q1:=ax u
 have q2:=ax B
 have q3:=dP u B
 clear ok e eb ep h hp
 obtain⟨⟨pk,pz,pd,ps⟩,⟨t1,t2,t3⟩,⟨c1,c2,c3,c4,c5⟩,⟨l1,l2,l3⟩,⟨e1,e2,e3,e4⟩,⟨f1,f2,f3,f4,f5⟩,⟨r1,r2,r3,r4,r5⟩⟩:=s
 simp only at *
 subst hk
 refine gI oW Tryz.func69 Tryz.results69 ?_
 (repeat' first|refine wP (aI @q1 (aI @q2 (aI @q3 @id_eq.{1}))) (aI h1 (aI h2 h3)) ?_|refine cG [1] h4 ?_|refine tS ?_ ?_<;>intro hc|fail)
 exact rE []
theorem I9(s:Sk)(ok:s.Ok)(h:vSk s=0)(hk:s.p.k=4):Gxx 69 [.agg (skF s)] (.tup [fzb (jk s),vi (vSk s)]):=by
 have h1:=dW s ok
 rw[h] at h1 ⊢
 obtain⟨_,hp⟩:=vG h
 have hbo:=lN s ok h
 have eb:um s=Eo s.tp:=by simp [um,hk]
 have ep:kY s=0:=hp
 unfold kY at hp
 simp only[hk,Int.reduceEq,reduceIte] at hp
 have e:jk s=zh 83 (aO (4:Int).toNat++Eo s.tp):=by unfold jk;rw[if_neg (by omega),hk,eb]
 rw[e]
 rw[eb] at hbo
 have h2:=IQ s.tp hp ok.to ok.tn
 have h3:=kW (4:Int) ⟨by decide,by decide⟩
 have ul:=aS (4:Int).toNat
 have uo:=bH (4:Int).toNat
 generalize Eo s.tp=B at *
 generalize aO (4:Int).toNat=u at *
 have h4:=qg 83 (u++B) (by decide) (bM uo hbo.1) (by rw[List.length_append];omega)
 have q1:=ax u
 have q2:=ax B
 have q3:=dP u B
 clear ok e eb ep h hp
 obtain⟨⟨pk,pz,pd,ps⟩,⟨t1,t2,t3⟩,⟨c1,c2,c3,c4,c5⟩,⟨l1,l2,l3⟩,⟨e1,e2,e3,e4⟩,⟨f1,f2,f3,f4,f5⟩,⟨r1,r2,r3,r4,r5⟩⟩:=s
 simp only at *
 subst hk
 refine gI oW Tryz.func69 Tryz.results69 ?_
 (repeat' first|refine wP (aI @q1 (aI @q2 (aI @q3 @id_eq.{1}))) (aI h1 (aI h2 h3)) ?_|refine cG [1] h4 ?_|refine tS ?_ ?_<;>intro hc|fail)
 exact rE []
theorem Ja(s:Sk)(ok:s.Ok)(h:vSk s=0)(hk:s.p.k=5):Gxx 69 [.agg (skF s)] (.tup [fzb (jk s),vi (vSk s)]):=by
 have h1:=dW s ok
 rw[h] at h1 ⊢
 obtain⟨_,hp⟩:=vG h
 have hbo:=lN s ok h
 have eb:um s=Ep s.fq:=by simp [um,hk]
 have ep:kY s=0:=hp
 unfold kY at hp
 simp only[hk,Int.reduceEq,reduceIte] at hp
 have e:jk s=zh 83 (aO (5:Int).toNat++Ep s.fq):=by unfold jk;rw[if_neg (by omega),hk,eb]
 rw[e]
 rw[eb] at hbo
 have h2:=zo s.fq hp ok.fo ok.fn
 have h3:=kW (5:Int) ⟨by decide,by decide⟩
 have ul:=aS (5:Int).toNat
 have uo:=bH (5:Int).toNat
 generalize Ep s.fq=B at *
 generalize aO (5:Int).toNat=u at *
 have h4:=qg 83 (u++B) (by decide) (bM uo hbo.1) (by rw[List.length_append];omega)
 have q1:=ax u
 have q2:=ax B
 have q3:=dP u B
 clear ok e eb ep h hp
 obtain⟨⟨pk,pz,pd,ps⟩,⟨t1,t2,t3⟩,⟨c1,c2,c3,c4,c5⟩,⟨l1,l2,l3⟩,⟨e1,e2,e3,e4⟩,⟨f1,f2,f3,f4,f5⟩,⟨r1,r2,r3,r4,r5⟩⟩:=s
 simp only at *
 subst hk
 refine gI oW Tryz.func69 Tryz.results69 ?_
 (repeat' first|refine wP (aI @q1 (aI @q2 (aI @q3 @id_eq.{1}))) (aI h1 (aI h2 h3)) ?_|refine cG [1] h4 ?_|refine tS ?_ ?_<;>intro hc|fail)
 exact rE []
theorem Jb(s:Sk)(ok:s.Ok)(h:vSk s=0)(hk:s.p.k=6):Gxx 69 [.agg (skF s)] (.tup [fzb (jk s),vi (vSk s)]):=by
 have h1:=dW s ok
 rw[h] at h1 ⊢
 obtain⟨_,hp⟩:=vG h
 have hbo:=lN s ok h
 have eb:um s=Es s.rk:=by simp [um,hk]
 have ep:kY s=0:=hp
 unfold kY at hp
 simp only[hk,Int.reduceEq,reduceIte] at hp
 have e:jk s=zh 83 (aO (6:Int).toNat++Es s.rk):=by unfold jk;rw[if_neg (by omega),hk,eb]
 rw[e]
 rw[eb] at hbo
 have h2:=Eu s.rk hp ok.ro ok.rn ok.rm
 have h3:=kW (6:Int) ⟨by decide,by decide⟩
 have ul:=aS (6:Int).toNat
 have uo:=bH (6:Int).toNat
 generalize Es s.rk=B at *
 generalize aO (6:Int).toNat=u at *
 have h4:=qg 83 (u++B) (by decide) (bM uo hbo.1) (by rw[List.length_append];omega)
 have q1:=ax u
 have q2:=ax B
 have q3:=dP u B
 clear ok e eb ep h hp
 obtain⟨⟨pk,pz,pd,ps⟩,⟨t1,t2,t3⟩,⟨c1,c2,c3,c4,c5⟩,⟨l1,l2,l3⟩,⟨e1,e2,e3,e4⟩,⟨f1,f2,f3,f4,f5⟩,⟨r1,r2,r3,r4,r5⟩⟩:=s
 simp only at *
 subst hk
 refine gI oW Tryz.func69 Tryz.results69 ?_
 (repeat' first|refine wP (aI @q1 (aI @q2 (aI @q3 @id_eq.{1}))) (aI h1 (aI h2 h3)) ?_|refine cG [1] h4 ?_|refine tS ?_ ?_<;>intro hc|fail)
 exact rE []
theorem PU(s:Sk)(ok:s.Ok):Gxx 69 [.agg (skF s)] (.tup [fzb (jk s),vi (vSk s)]):=by
 by_cases h:vSk s=0
 ·rcases FY (vG h).1 with hk|hk|hk|hk|hk|hk
  ·exact I5 s ok h hk
  ·exact I7 s ok h hk
  ·exact I8 s ok h hk
  ·exact I9 s ok h hk
  ·exact Ja s ok h hk
  ·exact Jb s ok h hk
 ·exact MJ s ok h
theorem abP(tag:Nat)(body:List Nat)(ht:tag<256)(ho:oct body)(hl:body.length≤1048576):Gxx 70 [.c (.int .u8 (tag:Nat)),fzb body] (fzb (zh tag body)):=by
 have h1:=qg tag body ht ho hl
 refine gI oW Tryz.func70 Tryz.results70 ?_
 exact wR trivial h1 ah
def qm(s:Sk):List Nat:=zh 88 (jk s)
theorem af0(s:Sk)(ok:s.Ok):oct (qm s)∧(qm s).length≤100200:=by
 obtain⟨h1,h2⟩:=MI s ok
 refine⟨LK (by decide) h1, ?_⟩
 have:=LJ 88 (jk s)
 unfold qm;omega
theorem abQ(s:Sk)(ok:s.Ok):Gxx 36 [.agg (skF s)] (fzb (qm s)):=by
 have h1:=PU s ok
 obtain⟨o1,o2⟩:=MI s ok
 have h2:=abP 88 (jk s) (by decide) o1 (by omega)
 unfold qm
 generalize jk s=b at *
 generalize vSk s=v at *
 clear ok
 obtain⟨⟨pk,pz,pd,ps⟩,⟨t1,t2,t3⟩,⟨c1,c2,c3,c4,c5⟩,⟨l1,l2,l3⟩,⟨e1,e2,e3,e4⟩,⟨f1,f2,f3,f4,f5⟩,⟨r1,r2,r3,r4,r5⟩⟩:=s
 refine gI oW Tryz.func36 Tryz.results36 ?_
 exact wR trivial (aI h1 h2) ah
end Go.Proofs.YtjiolbcdfgclaaaGreatDoor
