/-
  Merged texts.
-/
import Derived.Test.YtiohdbjggmmjcaaGreatWAI
set_option linter.unusedVariables false
set_option linter.unusedSimpArgs false
set_option linter.unusedSectionVars false
set_option linter.defProp false
set_option maxRecDepth 100000
set_option maxHeartbeats 8000000
section
namespace Go.Pg
open Go
def jU(s:St)(o:Oper):List V:=o.op.operands.toList.map s.ev
def ZJ(P:Program)[Tb P](s:St)(o:Oper)(v:V):Prop :=
 qv P s o.op=some v∨∃f args ts g fs cs,o.op = .call { callee := .value f,args:=args,argTypes:=ts }∧s.ev f = .fn g fs cs∧Good P g ((fs++args.toList.map s.ev++cs).map V.erase) v ∧
  ownFree (fs++cs)=true∧noRefs (fs++args.toList.map s.ev++cs)=true∧v.noRef=true∧(ownFree (args.toList.map s.ev)||v.flat)=true∧v.idb=0
def CZ(P:Program)[Tb P](s:St)(o:Oper)(v:V)(s1:St):Prop :=
 xv P s o.op=some (v,s1)∨∃f args ts g fs cs r,o.op = .call { callee := .value f,args:=args,argTypes:=ts }∧s.ev f = .fn g fs cs∧Good P g ((fs++args.toList.map s.ev++cs).map V.erase) r ∧
  ownFree (fs++cs)=true∧noRefs (fs++args.toList.map s.ev++cs)=true∧r.noRef=true∧(ownFree (args.toList.map s.ev)||r.flat)=true∧r.idb≠0∧v=r.shift s.nid∧s1={ s with nid:=s.nid+r.idb }
theorem AV{r:V}{n:Nat}(h:r.idb=0):r.shift n=r:=by
 have h1:=(Ep 0).1 r (by omega)
 have main:(∀v:V,v.any (Tag.ge 0) (fun _=>false) false=false→v.map (fun t=>match t with | .fz => .fz | .nn => .nn | .own id e => .own (id+n) e) id=v) ∧
   (∀l,V.anyL (Tag.ge 0) (fun _=>false) false l=false→V.mapL (fun t=>match t with | .fz => .fz | .nn => .nn | .own id e => .own (id+n) e) id l=l):=by
  refine V.ind ?_ ?_ ?_ ?_ ?_ ?_ ?_ ?_ ?_ ?_ ?_ ?_ ?_
  ·intro v _;rfl
  ·intro _;rfl
  ·intro t k xs _ h;cases t with
   | fz=>rfl
   | nn=>rfl
   | own id e=>simp [V.any,Tag.ge] at h
  ·intro t es h;cases t with
   | fz=>rfl
   | nn=>rfl
   | own id e=>simp [V.any,Tag.ge] at h
  ·intro cs ih h;simp [V.map,ih h]
  ·intro cs ih h;simp [V.map,ih h]
  ·intro b o _;rfl
  ·intro b be bo bk bn _;rfl
  ·intro t k xs i o _ h;cases t with
   | fz=>rfl
   | nn=>rfl
   | own id e=>simp [V.any,Tag.ge] at h
  ·intro f fs cs h1 h2 h
   simp only[V.any,Bool.or_eq_false_iff] at h
   simp [V.map,h1 h.1,h2 h.2]
  ·intro _;rfl
  ·intro _;rfl
  ·intro x xs h1 h2 h
   simp only[V.anyL,Bool.or_eq_false_iff] at h
   simp [V.mapL,h1 h.1,h2 h.2]
 exact main.1 r h1
section
variable {P:Program} [Tb P] {s s':St} {o:Oper}
theorem vN{K:Kd→St→Prop}(h:aA P s o K):∃κ s',aA P s o (fun k s1=>k=κ∧s1=s')∧K κ s':=by
 unfold aA at *
 split at h
 ·unfold bU at *
  split at h
  ·rcases h with ⟨ids,r,h1,h2,h3,h4,h5,h6⟩|⟨s1,r,h1,h2⟩
   ·exact⟨_,_,.inl ⟨ids,r,h1,h2,h3,h4,h5,rfl,rfl⟩,h6⟩
   ·exact⟨_,_,.inr ⟨s1,r,h1,rfl,rfl⟩,h2⟩
  ·cases h
 ·rcases h with h|h|h|h
  ·unfold xn at h;split at h
   ·rename_i r hr;exact⟨_,_,.inl (by unfold xn;rw[hr];exact⟨rfl,rfl⟩),h⟩
   ·cases h
  ·unfold xu at h;split at h
   ·rename_i r hr;exact⟨_,_,.inr (.inl (by unfold xu;rw[hr];exact⟨rfl,rfl⟩)),h⟩
   ·cases h
  ·unfold iq at h;split at h
   ·rename_i r s1 hr;exact⟨_,_,.inr (.inr (.inl (by unfold iq;rw[hr];exact⟨rfl,rfl⟩))),h⟩
   ·cases h
  ·unfold iq at h;split at h
   ·rename_i r s1 hr;exact⟨_,_,.inr (.inr (.inr (by unfold iq;rw[hr];exact⟨rfl,rfl⟩))),h⟩
   ·cases h
theorem iV{κ:Kd}(h:aA P s o (fun k s1=>k=κ∧s1=s')) :
  (∃v,ZJ P s o v∧κ=kqo o.op (jU s o) v∧s'=s.put o.dst v)∨(∃v,rv P s o.op=some v∧κ=kr v∧s'=s.put o.dst v)∨(∃v s1,CZ P s o v s1∧κ=kx s o.op∧s'=s1.put o.dst v)∨κ = .z:=by
 unfold aA at h
 split at h
 ·rename_i f args ts heq
  unfold bU at h
  split at h
  ·rename_i g fs cs hf
   rcases h with ⟨ids,r,h1,h2,h3,h4,h5,h6,h7⟩|⟨s1,r,_,h6,_⟩
   case inr=>exact .inr (.inr (.inr h6.symm))
   cases ids with
   | cons i ids=>exact .inr (.inr (.inr h6.symm))
   | nil =>
    simp only[kc] at h6
    simp only[St.freezeAll] at h1 h3 h5 h7
    split at h6
    ·rename_i h0
     refine .inl ⟨r,.inr ⟨f,args,ts,g,fs,cs,heq,hf,h1,h2,h3,h4,h5,h0⟩, ?_, ?_⟩
     ·rw[←h6,jU,heq]
      simp [Op.operands,Call.operands,kqo]
     ·rw[←h7,h0,AV h0];rfl
    ·rename_i h0
     exact .inr (.inr (.inl ⟨_,_,.inr ⟨f,args,ts,g,fs,cs,r,heq,hf,h1,h2,h3,h4,h5,h0,rfl,rfl⟩,by rw[heq];exact h6.symm,h7.symm⟩))
  ·cases h
 ·rcases h with h|h|h|h
  ·unfold xn at h;split at h
   ·rename_i r hr;exact .inl ⟨r,.inl hr,h.1.symm,h.2.symm⟩
   ·cases h
  ·unfold xu at h;split at h
   ·rename_i r hr;exact .inr (.inl ⟨r,hr,h.1.symm,h.2.symm⟩)
   ·cases h
  ·unfold iq at h;split at h
   ·rename_i r s1 hr;exact .inr (.inr (.inl ⟨r,s1,.inl hr,h.1.symm,h.2.symm⟩))
   ·cases h
  ·unfold iq at h;split at h
   ·exact .inr (.inr (.inr h.1.symm))
   ·cases h
theorem xy{v:V}(h:ZJ P s o v):aA P s o (fun k s1=>k=kqo o.op (jU s o) v∧s1=s.put o.dst v):=by
 rcases h with h|⟨f,args,ts,g,fs,cs,heq,hf,h1,h2,h3,h4,h5,h6⟩
 ·unfold aA
  split
  ·rename_i f args ts heq
   rw[heq] at h
   simp [qv] at h
  ·left;unfold xn;rw[h];exact⟨rfl,rfl⟩
 ·unfold aA
  rw[heq]
  simp only
  unfold bU
  rw[hf]
  refine .inl ⟨[],v,h1,h2,h3,h4,h5, ?_, ?_⟩
  ·rw[kc,if_pos h6,jU,heq]
   simp [Op.operands,Call.operands,hf,kqo]
  ·rw[h6,AV h6];rfl
theorem Oe{v:V}(h:rv P s o.op=some v):aA P s o (fun k s1=>k=kr v∧s1=s.put o.dst v):=by
 unfold aA
 split
 ·rename_i f args ts heq
  rw[heq] at h
  simp [rv] at h
 ·right;left;unfold xu;rw[h];exact⟨rfl,rfl⟩
theorem pg{v:V}{s1:St}(h:CZ P s o v s1):aA P s o (fun k s2=>k=kx s o.op∧s2=s1.put o.dst v):=by
 rcases h with h|⟨f,args,ts,g,fs,cs,r,heq,hf,h1,h2,h3,h4,h5,h0,rfl,rfl⟩
 ·unfold aA
  split
  ·rename_i f args ts heq
   rw[heq] at h
   simp [xv] at h
  ·right;right;left;unfold iq;rw[h];exact⟨rfl,rfl⟩
 ·unfold aA
  rw[heq]
  simp only
  unfold bU
  rw[hf]
  refine .inl ⟨[],r,h1,h2,h3,h4,h5, ?_,rfl⟩
  rw[kc,if_neg h0];rfl
theorem AX{op:Op}(he:∀x∈op.operands.toList,s'.ev x=s.ev x):qv P s' op=qv P s op:=by
 have hm:∀(l:List Operand),(∀x∈l,s'.ev x=s.ev x)→l.map s'.ev=l.map s.ev:=fun l h=>List.map_congr_left h
 have ho:∀(o:Option Operand),(∀x,o=some x→s'.ev x=s.ev x)→o.map s'.ev=o.map s.ev:=by
  intro o h;cases o with
  | none=>rfl
  | some x=>simp [h x rfl]
 unfold qv
 split
 case h_14 t parts =>
  congr 1
  refine List.map_congr_left fun p hp => ?_
  rw[he p.2 (by simp only[Op.operands];simpa using ⟨p.1,by simpa using hp⟩)]
 case h_13 f fs cs=>rw[hm fs.toList (fun x hx=>he x (by simp [Op.operands] at hx ⊢;simp [hx])),hm cs.toList (fun x hx=>he x (by simp [Op.operands] at hx ⊢;simp [hx]))]
 case h_15 t x lo hi =>
  rw[he x (by simp [Op.operands]),ho lo (fun y hy=>he y (by simp [Op.operands,hy])),ho hi (fun y hy=>he y (by simp [Op.operands,hy]))]
 case h_17 args ts =>
  split
  ·rename_i x t hx ht
   have e1:args=#[x]:=by apply Array.ext';simpa using hx
   subst e1
   rw[he x (by simp [Op.operands,Call.operands])]
  ·rfl
 case h_18 args ts =>
  split
  ·rename_i x hx
   have e1:args=#[x]:=by apply Array.ext';simpa using hx
   subst e1
   rw[he x (by simp [Op.operands,Call.operands])]
  ·rfl
 case h_19 args ts =>
  split
  ·rename_i x y hx
   have e1:args=#[x,y]:=by apply Array.ext';simpa using hx
   subst e1
   rw[he x (by simp [Op.operands,Call.operands]),he y (by simp [Op.operands,Call.operands])]
  ·rfl
 case h_20 args ts =>
  split
  ·rename_i x y hx
   have e1:args=#[x,y]:=by apply Array.ext';simpa using hx
   subst e1
   rw[he x (by simp [Op.operands,Call.operands]),he y (by simp [Op.operands,Call.operands])]
  ·rfl
 case h_21 args ts =>
  split
  ·rename_i x y hx
   have e1:args=#[x,y]:=by apply Array.ext';simpa using hx
   subst e1
   rw[he x (by simp [Op.operands,Call.operands]),he y (by simp [Op.operands,Call.operands])]
  ·rfl
 case h_22 args ts =>
  split
  ·rename_i x hx
   have e1:args=#[x]:=by apply Array.ext';simpa using hx
   subst e1
   rw[he x (by simp [Op.operands,Call.operands])]
  ·rfl
 case h_23 args ts =>
  split
  ·rename_i x hx
   have e1:args=#[x]:=by apply Array.ext';simpa using hx
   subst e1
   rw[he x (by simp [Op.operands,Call.operands])]
  ·rfl
 case h_3 c x y=>rw[he c (by simp [Op.operands]),he x (by simp [Op.operands]),he y (by simp [Op.operands])]
 all_goals first
  | rfl
  | (rename_i x;rw[he x (by simp [Op.operands])];done)
  | (rename_i x _;rw[he x (by simp [Op.operands])];done)
  | (rename_i x y;rw[he x (by simp [Op.operands]),he y (by simp [Op.operands])];done)
  | (rename_i x y _;rw[he x (by simp [Op.operands]),he y (by simp [Op.operands])];done)
theorem AY{v:V}(he:∀x∈o.op.operands.toList,s'.ev x=s.ev x)(h:ZJ P s o v):ZJ P s' o v:=by
 rcases h with h|⟨f,args,ts,g,fs,cs,heq,hf,h1,h2,h3,h4,h5,h6⟩
 ·exact .inl (by rw[AX he];exact h)
 ·rw[heq] at he
  have hfe:s'.ev f=s.ev f:=he f (by simp [Op.operands,Call.operands])
  have hae:args.toList.map s'.ev=args.toList.map s.ev:=List.map_congr_left fun x hx=>he x (by simp [Op.operands,Call.operands] at hx ⊢;simp [hx])
  exact .inr ⟨f,args,ts,g,fs,cs,heq,by rw[hfe];exact hf,by rw[hae];exact h1,h2,by rw[hae];exact h3,h4,by rw[hae];exact h5,h6⟩
theorem H5{op:Op}(he:∀x∈op.operands.toList,s'.ev x=s.ev x)(hb:s'.bx=s.bx):rv P s' op=rv P s op:=by
 unfold rv
 split
 ·rename_i t x
  rw[he x (by simp [Op.operands])]
  split
  ·simp only[lH,hb]
  ·rfl
 ·rename_i src dst x
  rw[he x (by simp [Op.operands])]
  unfold jg
  split
  ·rw[hb]
  ·rfl
 ·rfl
theorem EC{d:Nat}{v:V}{x:Operand}(h:x ≠ .tmp d):(s.put (some d) v).ev x=s.ev x:=by
 cases x with
 | tmp t=>simp [St.put,St.ev,upd,show t≠d from fun e=>h (by rw[e])]
 | _=>rfl
theorem Uw{d d':Nat}{v v':V}(h:d≠d'):(s.put (some d) v).put (some d') v'=(s.put (some d') v').put (some d) v:=by
 simp only[St.put,St.mk.injEq,and_true]
 funext t
 simp only[upd]
 split<;>split<;>first|rfl|(subst_vars;exact absurd rfl h)
theorem Ux{v:V}(h:v.calm=true)(id:Nat):v.has id=false:=by
 have main:(∀v:V,v.any Tag.isOwn (fun _=>true) false=false→v.any (Tag.is id) (fun _=>false) false=false)∧(∀l,V.anyL Tag.isOwn (fun _=>true) false l=false→V.anyL (Tag.is id) (fun _=>false) false l=false):=by
  refine V.ind ?_ ?_ ?_ ?_ ?_ ?_ ?_ ?_ ?_ ?_ ?_ ?_ ?_
  ·intro v _;rfl
  ·intro _;rfl
  ·intro t k xs _ h;cases t with
   | fz=>rfl
   | nn=>rfl
   | own j e=>simp [V.any,Tag.isOwn] at h
  ·intro t es h;cases t with
   | fz=>rfl
   | nn=>rfl
   | own j e=>simp [V.any,Tag.isOwn] at h
  ·intro cs ih h;exact ih h
  ·intro cs ih h;exact ih h
  ·intro b o h;simp [V.any] at h
  ·intro b be bo bk bn h;simp [V.any] at h
  ·intro t k xs i o _ h;cases t with
   | fz=>rfl
   | nn=>rfl
   | own j e=>simp [V.any,Tag.isOwn] at h
  ·intro f fs cs h1 h2 h
   simp only[V.any,Bool.or_eq_false_iff] at h ⊢
   exact⟨h1 h.1,h2 h.2⟩
  ·intro _;rfl
  ·intro _;rfl
  ·intro x xs h1 h2 h
   simp only[V.anyL,Bool.or_eq_false_iff] at h ⊢
   exact⟨h1 h.1,h2 h.2⟩
 exact main.1 v (by simpa [V.calm] using h)
theorem PX{v:V}(h:v.free=true):v.calm=true:=by
 have main:(∀v:V,v.any Tag.isOwn (fun _=>true) true=false→v.any Tag.isOwn (fun _=>true) false=false)∧(∀l,V.anyL Tag.isOwn (fun _=>true) true l=false→V.anyL Tag.isOwn (fun _=>true) false l=false):=by
  refine V.ind ?_ ?_ ?_ ?_ ?_ ?_ ?_ ?_ ?_ ?_ ?_ ?_ ?_<;>simp_all [V.any,V.anyL]
 simpa [V.calm] using main.1 v (by simpa [V.free] using h)
structure Turns (ψ:V→V):Prop where
 calm:∀v:V,v.calm=true→ψ v=v
 back:∀v:V,(ψ v).free=true→ψ v=v
theorem jI:Turns _root_.id:=⟨fun _ _=>rfl,fun _ _=>rfl⟩
theorem jw(id:Nat):Turns (aJ id):=by
 refine⟨fun v h=>by simp [aJ,Ux h],fun v h => ?_⟩
 unfold aJ at *
 split
 ·rename_i hv;rw[if_pos hv] at h;simp [V.free,V.any] at h
 ·rfl
theorem vO(id k i:Nat)(x:V):Turns (aF id k i x):=by
 refine⟨fun v h => ?_,fun v h => ?_⟩
 ·unfold aF
  split
  ·simp [V.calm,V.any,Tag.isOwn] at h
  ·simp [V.calm,V.any,Tag.isOwn] at h
  ·exact (jw id).calm _ h
 ·unfold aF at *
  split
  ·rename_i j e k' xs
   split
   ·rename_i hj
    split
    ·rename_i hk
     simp only[hj,hk,if_true] at h
     simp [V.free,V.any,Tag.isOwn] at h
    ·rename_i hk
     simp only[hj,hk,if_true,if_false] at h
     simp [V.free,V.any] at h
   ·rfl
  ·rename_i j e k' xs i' off
   split
   ·rename_i hj
    split
    ·rename_i hk
     simp only[hj,hk,if_true] at h
     simp [V.free,V.any,Tag.isOwn] at h
    ·rename_i hk
     simp only[hj,hk,if_true,if_false] at h
     simp [V.free,V.any] at h
   ·rfl
  ·rename_i hne hne2
   split at h
   ·exact absurd rfl (hne _ _ _ _)
   ·exact absurd rfl (hne2 _ _ _ _ _ _)
   ·exact (jw id).back _ h
theorem yM(id:Nat)(es':List (ByteArray × Value)):Turns (jY id es'):=by
 refine⟨fun v h => ?_,fun v h => ?_⟩
 ·unfold jY
  split
  ·simp [V.calm,V.any,Tag.isOwn] at h
  ·exact (jw id).calm _ h
 ·unfold jY at *
  split
  ·rename_i j e es
   split
   ·rename_i hj
    simp only[hj,if_true] at h
    simp [V.free,V.any,Tag.isOwn] at h
   ·rfl
  ·rename_i hne
   split at h
   ·exact absurd rfl (hne _ _ _)
   ·exact (jw id).back _ h
theorem AZ{ψ:V→V}{d:Nat}{v:V}(hψ:ψ v=v):(s.put (some d) v).mapV ψ=(s.mapV ψ).put (some d) v:=by
 have e:(fun t=>ψ (upd s.env d v t))=upd (fun t=>ψ (s.env t)) d v:=by
  funext t
  simp only[upd]
  split
  ·exact hψ
  ·rfl
 show (⟨fun t=>ψ (upd s.env d v t),_,_,_⟩:St)=⟨upd (fun t=>ψ (s.env t)) d v,_,_,_⟩
 rw[e]
 rfl
theorem Uy{op:Op}{r:V}{s1:St}(h:xv P s op=some (r,s1)):∃ψ,Turns ψ∧∀t,s1.env t=ψ (s.env t):=by
 unfold xv at h
 split at h
 ·simp only[qZ,Option.map_eq_some_iff,uC,Prod.mk.injEq] at h
  obtain⟨_,_,_,rfl⟩:=h;exact⟨_,jI,fun t=>rfl⟩
 ·simp only[J7,Option.map_eq_some_iff,uC,Prod.mk.injEq] at h
  obtain⟨_,_,_,rfl⟩:=h;exact⟨_,jI,fun t=>rfl⟩
 ·simp only[eP,Option.bind_eq_some_iff,Option.ite_none_right_eq_some,Option.some.injEq,Prod.mk.injEq,Prod.exists] at h
  obtain⟨_,_,_,_,_,_,_,_,_,_,_,rfl⟩:=h;exact⟨_,jI,fun t=>rfl⟩
 ·split at h
  ·simp only[jB,Option.map_eq_some_iff,Option.bind_eq_some_iff,Option.ite_none_right_eq_some,Option.some.injEq,Prod.mk.injEq] at h
   obtain⟨_,⟨_,_,_,_,_,rfl⟩,_,rfl⟩:=h;exact⟨_,jI,fun t=>rfl⟩
  ·simp only[lq,Option.map_eq_some_iff,Option.bind_eq_some_iff,Option.ite_none_right_eq_some,Option.some.injEq,Prod.mk.injEq] at h
   obtain⟨_,⟨_,_,_,_,_,_,_,_,_,rfl⟩,_,rfl⟩:=h;exact⟨_,vO _ _ _ _,fun t=>rfl⟩
  ·cases h
 ·unfold vJ at h
  split at h
  ·simp only[Option.bind_eq_some_iff,Option.ite_none_right_eq_some,Option.some.injEq,Prod.mk.injEq,Prod.exists] at h
   obtain⟨_,_,_,_,_,_,_,_,_,rfl⟩:=h;exact⟨_,jI,fun t=>rfl⟩
  ·cases h
 ·simp only[uD,Option.map_eq_some_iff,Prod.mk.injEq] at h
  obtain⟨_,_,_,rfl⟩:=h;exact⟨_,jI,fun t=>rfl⟩
 ·unfold Kt at h
  split at h
  ·simp only[Option.bind_eq_some_iff,Option.ite_none_right_eq_some,Option.some.injEq,Prod.mk.injEq] at h
   obtain⟨_,_,_,_,rfl⟩:=h;exact⟨_,yM _ _,fun t=>rfl⟩
  ·cases h
 ·simp only[Option.map_eq_some_iff,Prod.mk.injEq] at h
  obtain⟨_,_,_,rfl⟩:=h;exact⟨_,jI,fun t=>rfl⟩
 ·split at h
  ·simp only[jP,Option.bind_eq_some_iff,Prod.exists] at h
   obtain⟨_,_,_,_,_,_,_,h⟩:=h
   split at h
   ·simp only[Option.ite_none_right_eq_some,Option.some.injEq,Prod.mk.injEq] at h
    obtain⟨_,_,rfl⟩:=h;exact⟨_,jI,fun t=>rfl⟩
   ·simp only[Option.ite_none_right_eq_some,Option.some.injEq,Prod.mk.injEq] at h
    obtain⟨_,_,rfl⟩:=h;exact⟨_,jw _,fun t=>rfl⟩
   ·simp only[Option.ite_none_right_eq_some,Option.some.injEq,Prod.mk.injEq] at h
    obtain⟨_,_,rfl⟩:=h;exact⟨_,jI,fun t=>rfl⟩
   ·cases h
  ·cases h
 ·cases h
theorem Uz{op:Op}{d:Nat}{v:V}(hd:∀x∈op.operands.toList,x ≠ .tmp d)(hc:v.calm=true) :
  xv P (s.put (some d) v) op=(xv P s op).map fun p=>(p.1,p.2.put (some d) v):=by
 have he:∀x∈op.operands.toList,(s.put (some d) v).ev x=s.ev x:=fun x hx=>EC (hd x hx)
 unfold xv
 split
 ·rename_i e
  simp only[qZ,Option.map_map]
  rfl
 ·rename_i e x
  rw[he x (by simp [Op.operands])]
  simp only[J7,Option.map_map]
  rfl
 ·rename_i t len parts
  have:(parts.toList.map fun p=>(p.1,(s.put (some d) v).ev p.2))=parts.toList.map fun p=>(p.1,s.ev p.2):=by
   refine List.map_congr_left fun p hp => ?_
   rw[he p.2 (by simp only[Op.operands];simpa using ⟨p.1,by simpa using hp⟩)]
  rw[this]
  simp only[eP]
  cases elemT P t with
  | none=>rfl
  | some e =>
   simp only[Option.bind_some]
   cases tapp P e with
   | none=>rfl
   | some kb =>
    simp only[Option.bind_some]
    cases zelem P e with
    | none=>rfl
    | some z =>
     simp only[Option.bind_some]
     cases setAll kb.1 (List.replicate len z) (parts.toList.map fun p=>(p.1,s.ev p.2)) with
     | none=>rfl
     | some xs =>
      simp only[Option.bind_some]
      split<;>rfl
 ·rename_i t x y
  rw[he x (by simp [Op.operands]),he y (by simp [Op.operands])]
  split
  ·rename_i b off hb
   simp only[jB,Option.map_map]
   have:(s.put (some d) v).bx=s.bx:=rfl
   rw[this]
   cases s.bx b with
   | none=>rfl
   | some cs =>
    simp only[Option.bind_some]
    cases (s.ev y).cs with
    | none=>rfl
    | some l =>
     simp only[Option.bind_some]
     split<;>rfl
  ·rename_i id e k xs i off hb
   simp only[lq,Option.map_map]
   cases xs[i]? with
   | none=>rfl
   | some x0 =>
    simp only[Option.bind_some]
    cases x0.cs with
    | none=>rfl
    | some c0 =>
     simp only[Option.bind_some]
     cases (s.ev y).cs with
     | none=>rfl
     | some l =>
      simp only[Option.bind_some]
      cases nS x0 (c0.take off++l++c0.drop (off+l.length)) with
      | none=>rfl
      | some x1 =>
       simp only[Option.bind_some]
       split
       ·simp only[Option.map_some,Function.comp,AZ ((vO id k i x1).calm v hc)]
       ·rfl
  ·rfl
 ·rename_i t l c
  rw[he l (by simp [Op.operands]),he c (by simp [Op.operands])]
  unfold vJ
  split
  ·cases elemT P t with
   | none=>rfl
   | some e =>
    simp only[Option.bind_some]
    cases tapp P e with
    | none=>rfl
    | some kb =>
     simp only[Option.bind_some]
     cases zelem P e with
     | none=>rfl
     | some z =>
      simp only[Option.bind_some]
      split<;>rfl
  ·rfl
 ·rename_i t
  simp only[uD,Option.map_map]
  rfl
 ·rename_i t m k x
  rw[he m (by simp [Op.operands]),he k (by simp [Op.operands]),he x (by simp [Op.operands])]
  unfold Kt
  split
  ·cases AL P t with
   | none=>rfl
   | some p =>
    simp only[Option.bind_some]
    split
    ·simp only[Option.map_some,AZ ((yM _ _).calm v hc)]
    ·rfl
  ·rfl
 ·rename_i src dst x
  rw[he x (by simp [Op.operands])]
  simp only[Option.map_map]
  rfl
 ·rename_i args ts
  split
  ·rename_i x y t t2 hx ht
   have e1:args=#[x,y]:=by apply Array.ext';simpa using hx
   subst e1
   rw[he x (by simp [Op.operands,Call.operands]),he y (by simp [Op.operands,Call.operands])]
   simp only[jP]
   cases elemT P t with
   | none=>rfl
   | some e =>
    simp only[Option.bind_some]
    cases tapp P e with
    | none=>rfl
    | some kb =>
     simp only[Option.bind_some]
     cases vH P t2 kb.1 (s.ev y) with
     | none=>rfl
     | some ys =>
      simp only[Option.bind_some]
      split
      ·split<;>rfl
      ·rename_i id e' k' xs _
       split
       ·simp only[Option.map_some,AZ ((jw id).calm v hc)]
        rfl
       ·rfl
      ·split<;>rfl
      ·rfl
  ·rfl
 ·rfl
theorem A7{v:V}{s1:St}(h:CZ P s o v s1):∃ψ,Turns ψ∧∀t,s1.env t=ψ (s.env t):=by
 rcases h with h|⟨f,args,ts,g,fs,cs,r,heq,hf,h1,h2,h3,h4,h5,h0,rfl,rfl⟩
 ·exact Uy h
 ·exact⟨_,jI,fun t=>rfl⟩
theorem H6{v x:V}{s1:St}{d:Nat}(hd:∀y∈o.op.operands.toList,y ≠ .tmp d)(hc:x.calm=true) :
  CZ P (s.put (some d) x) o v s1↔∃s2,CZ P s o v s2∧s1=s2.put (some d) x:=by
 have he:∀y∈o.op.operands.toList,(s.put (some d) x).ev y=s.ev y:=fun y hy=>EC (hd y hy)
 constructor
 ·rintro (h|⟨f,args,ts,g,fs,cs,r,heq,hf,h1,h2,h3,h4,h5,h0,rfl,rfl⟩)
  ·rw[Uz hd hc] at h
   simp only[Option.map_eq_some_iff,Prod.mk.injEq] at h
   obtain⟨⟨v',s2⟩,h,rfl,rfl⟩:=h
   exact⟨s2,.inl h,rfl⟩
  ·rw[heq] at he
   have hfe:=he f (by simp [Op.operands,Call.operands])
   have hae:args.toList.map (s.put (some d) x).ev=args.toList.map s.ev:=List.map_congr_left fun y hy=>he y (by simp [Op.operands,Call.operands] at hy ⊢;simp [hy])
   rw[hfe] at hf
   rw[hae] at h1 h3 h5
   exact⟨{ s with nid:=s.nid+r.idb },.inr ⟨f,args,ts,g,fs,cs,r,heq,hf,h1,h2,h3,h4,h5,h0,rfl,rfl⟩,rfl⟩
 ·rintro⟨s2,h,rfl⟩
  rcases h with h|⟨f,args,ts,g,fs,cs,r,heq,hf,h1,h2,h3,h4,h5,h0,rfl,rfl⟩
  ·exact .inl (by rw[Uz hd hc,h];rfl)
  ·rw[heq] at he
   have hfe:=he f (by simp [Op.operands,Call.operands])
   have hae:args.toList.map (s.put (some d) x).ev=args.toList.map s.ev:=List.map_congr_left fun y hy=>he y (by simp [Op.operands,Call.operands] at hy ⊢;simp [hy])
   exact .inr ⟨f,args,ts,g,fs,cs,r,heq,by rw[hfe];exact hf,by rw[hae];exact h1,h2,by rw[hae];exact h3,h4,by rw[hae];exact h5,h0,rfl,rfl⟩
end
end Go.Pg
end
section
namespace Go.Pg
open Go
def gV(id k:Nat)(l:List (Nat × Nat)):Bool:=l.all fun p=>p.1 != id||p.2 == k
section
variable {id k i:Nat} {x1:V}
theorem nC{v:V}(h:(aJ id v).aOk=true):aJ id v=v∧v.aOk=true:=by
 unfold aJ at *
 split at h
 ·cases h
 ·rename_i hv;rw[if_neg hv];exact⟨rfl,h⟩
theorem UA{v:V}(h:v.aOk=true)(hc:gV id k v.aL=true):(aF id k i x1 v).aOk=true∧(aF id k i x1 v).aL=v.aL∧(aF id k i x1 v).free=v.free∧(aF id k i x1 v).calm=v.calm:=by
 cases v with
 | c v=>exact⟨rfl,rfl,rfl,rfl⟩
 | nif=>exact⟨rfl,rfl,rfl,rfl⟩
 | ref b o=>exact⟨rfl,rfl,rfl,rfl⟩
 | sl t k' xs =>
  cases t with
  | fz=>exact⟨rfl,rfl,rfl,rfl⟩
  | nn=>exact⟨rfl,rfl,rfl,rfl⟩
  | own j e =>
   by_cases hj:j=id
   ·have hk:k'=k:=by simpa [gV,V.aL,hj] using hc
    subst hj;subst hk
    simp [aF,V.aOk,V.aL,V.free,V.calm,V.any]
   ·simp [aF,hj,V.aOk]
 | el t k' xs a o =>
  cases t with
  | fz=>exact⟨rfl,rfl,rfl,rfl⟩
  | nn=>exact⟨rfl,rfl,rfl,rfl⟩
  | own j e =>
   by_cases hj:j=id
   ·have hk:k'=k:=by simpa [gV,V.aL,hj] using hc
    subst hj;subst hk
    simp [aF,V.aOk,V.aL,V.free,V.calm,V.any]
   ·simp [aF,hj,V.aOk]
 | _=>cases h
theorem ZK{v:V}(h:(aF id k i x1 v).aOk=true)(hc:gV id k (aF id k i x1 v).aL=true):v.aOk=true∧gV id k v.aL=true:=by
 cases v with
 | c v=>exact⟨rfl,rfl⟩
 | nif=>exact⟨rfl,rfl⟩
 | ref b o=>exact⟨rfl,rfl⟩
 | sl t k' xs =>
  cases t with
  | fz=>exact⟨rfl,rfl⟩
  | nn=>exact⟨rfl,rfl⟩
  | own j e =>
   refine⟨rfl, ?_⟩
   by_cases hj:j=id
   ·by_cases hk:k'=k
    ·simp [gV,V.aL,hk]
    ·simp [aF,hj,hk,V.aOk] at h
   ·simp [gV,V.aL,hj]
 | el t k' xs a o =>
  cases t with
  | fz=>exact⟨rfl,rfl⟩
  | nn=>exact⟨rfl,rfl⟩
  | own j e =>
   refine⟨rfl, ?_⟩
   by_cases hj:j=id
   ·by_cases hk:k'=k
    ·simp [gV,V.aL,hk]
    ·simp [aF,hj,hk,V.aOk] at h
   ·simp [gV,V.aL,hj]
 | agg l=>exact absurd (nC (id:=id) (v := .agg l) h).2 Bool.false_ne_true
 | tup l=>exact absurd (nC (id:=id) (v := .tup l) h).2 Bool.false_ne_true
 | fn f a b=>exact absurd (nC (id:=id) (v := .fn f a b) h).2 Bool.false_ne_true
 | top=>exact absurd (nC (id:=id) (v := .top) h).2 Bool.false_ne_true
 | mp t es=>exact absurd (nC (id:=id) (v := .mp t es) h).2 Bool.false_ne_true
 | bs b e o k n=>exact absurd (nC (id:=id) (v := .bs b e o k n) h).2 Bool.false_ne_true
theorem UB(v:Value):aF id k i x1 (fJ v)=fJ v:=by
 have key:∀l:List Value,V.anyL (Tag.is id) (fun _=>false) false (l.map .c)=false:=by
  intro l;induction l with
  | nil=>rfl
  | cons a l ih=>simp [V.anyL,V.any,ih]
 have hp:∀u:V,u.has id=false→aJ id u=u:=fun u hu=>by unfold aJ;rw[hu];rfl
 cases v<;>first|rfl|exact hp _ (by simp [fJ,V.has,V.any,key])
end
section
variable {P:Program} {s s2:St} {id k i:Nat} {x1:V}
theorem adn{t:TypeId}{x y:V}(hx:x.aOk=true)(hcx:gV id k x.aL=true)(hy:y.aOk=true):iaV P t (aF id k i x1 x) (aF id k i x1 y)=(iaV P t x y).map (aF id k i x1):=by
 have hyc:∀n,aF id k i x1 y = .c n↔y = .c n:=by
  intro n
  cases y with
  | sl tg k' xs=>cases tg<;>simp [aF,aJ]<;>(repeat' split)<;>simp
  | el tg k' xs a o=>cases tg<;>simp [aF,aJ]<;>(repeat' split)<;>simp
  | c v=>simp [aF,aJ,V.has,V.any]
  | nif=>simp [aF,aJ,V.has,V.any]
  | ref b o=>simp [aF,aJ,V.has,V.any]
  | _=>cases hy
 have hix:∀u,(∀n,y ≠ .c n)→iaV P t u y=none:=by
  intro u h
  unfold iaV
  split<;>first|rfl|(exfalso;exact h _ rfl)
 have hix2:∀u,(∀n,y ≠ .c n)→iaV P t u (aF id k i x1 y)=none:=by
  intro u h
  have:∀n,aF id k i x1 y ≠ .c n:=fun n hn=>h n ((hyc n).1 hn)
  generalize aF id k i x1 y=z at this
  unfold iaV
  split<;>first|rfl|(exfalso;exact this _ rfl)
 by_cases hyy:∃n,y = .c n
 ·obtain⟨n,rfl⟩:=hyy
  rw[(hyc n).2 rfl]
  cases x with
  | c v=>cases n<;>rfl
  | nif=>cases n<;>rfl
  | ref b o =>
   show iaV P t (.ref b o) (.c n)=_
   cases n<;>try rfl
   unfold iaV
   cases oN P t with
   | none=>rfl
   | some p =>
    simp only[Option.bind_some]
    cases tsz P p.2 with
    | none=>rfl
    | some q=>simp only[Option.bind_some];split<;>rfl
  | sl tg k' xs =>
   cases tg with
   | fz =>
    show iaV P t (.sl .fz k' xs) (.c n)=_
    cases n<;>first|rfl|(unfold iaV;simp only;split<;>rfl)
   | nn =>
    show iaV P t (.sl .nn k' xs) (.c n)=_
    cases n<;>first|rfl|(unfold iaV;simp only;split<;>rfl)
   | own j e =>
    by_cases hj:j=id
    ·have hk:k'=k:=by simpa [gV,V.aL,hj] using hcx
     subst hj;subst hk
     cases n<;>try (simp [aF,iaV];done)
    ·cases n<;>try (simp [aF,hj,iaV];done)
  | el tg k' xs a o =>
   have h0:∀tg k' xs a o,iaV P t (.el tg k' xs a o) (.c n)=none:=by intros;cases n<;>rfl
   rw[h0]
   cases tg with
   | fz=>exact h0 _ _ _ _ _
   | nn=>exact h0 _ _ _ _ _
   | own j e =>
    simp only[aF]
    split
    ·split
     ·exact h0 _ _ _ _ _
     ·cases n<;>rfl
    ·exact h0 _ _ _ _ _
  | _=>cases hx
 ·have h':∀n,y ≠ .c n:=fun n hn=>hyy ⟨n,hn⟩
  rw[hix2 _ h',hix _ h'];rfl
theorem faN{t:TypeId}{f:Nat}{x:V}(h1:∀b o,x ≠ .ref b o)(h2:∀tg j xs a o,x ≠ .el tg j xs a o):faV P t x f=none:=by
 unfold faV
 cases lg P t f with
 | none=>rfl
 | some p =>
  simp only[Option.bind_some]
  cases tsz P p.1 with
  | none=>rfl
  | some q =>
   simp only[Option.bind_some]
   cases x<;>first|exact absurd rfl (h1 _ _)|exact absurd rfl (h2 _ _ _ _ _)|(split<;>rfl)
theorem ado{t:TypeId}{f:Nat}{x:V}(hx:x.aOk=true)(hcx:gV id k x.aL=true):faV P t (aF id k i x1 x) f=(faV P t x f).map (aF id k i x1):=by
 cases x with
 | c v=>rw[show aF id k i x1 (.c v) = .c v from rfl,faN (by simp) (by simp)];rfl
 | nif=>rw[show aF id k i x1 .nif = .nif from rfl,faN (by simp) (by simp)];rfl
 | ref b o =>
  show faV P t (.ref b o) f=_
  unfold faV
  cases lg P t f with
  | none=>rfl
  | some p =>
   simp only[Option.bind_some]
   cases tsz P p.1 with
   | none=>rfl
   | some q=>simp only[Option.bind_some];split<;>rfl
 | sl tg k' xs =>
  have h0:∀tg k' xs,faV P t (.sl tg k' xs) f=none:=by intros;exact faN (by simp) (by simp)
  rw[h0]
  cases tg with
  | fz=>exact h0 _ _ _
  | nn=>exact h0 _ _ _
  | own j e =>
   simp only[aF]
   split
   ·split
    ·exact h0 _ _ _
    ·exact faN (by simp) (by simp)
   ·exact h0 _ _ _
 | el tg k' xs a o =>
  cases tg with
  | fz =>
   show faV P t (.el .fz k' xs a o) f=_
   unfold faV
   cases lg P t f with
   | none=>rfl
   | some p =>
    simp only[Option.bind_some]
    cases tsz P p.1 with
    | none=>rfl
    | some q=>simp only[Option.bind_some];split<;>rfl
  | nn =>
   show faV P t (.el .nn k' xs a o) f=_
   unfold faV
   cases lg P t f with
   | none=>rfl
   | some p =>
    simp only[Option.bind_some]
    cases tsz P p.1 with
    | none=>rfl
    | some q=>simp only[Option.bind_some];split<;>rfl
  | own j e =>
   have hs:∀o',aF id k i x1 (.el (.own j e) k' xs a o') = .el (.own j e) k' (if j=id then xs.set i x1 else xs) a o':=by
    intro o'
    by_cases hj:j=id
    ·have hk:k'=k:=by simpa [gV,V.aL,hj] using hcx
     subst hj;subst hk
     simp [aF]
    ·simp [aF,hj]
   rw[hs]
   unfold faV
   cases lg P t f with
   | none=>rfl
   | some p =>
    simp only[Option.bind_some]
    cases tsz P p.1 with
    | none=>rfl
    | some q =>
     simp only[Option.bind_some]
     split
     ·rfl
     ·simp only[Option.map_some,hs]
 | _=>cases hx
def isA:Op→Bool
 | .move _=>true
 | .assign _=>true
 | .indexAddr _ _ _=>true
 | .fieldAddr _ _ _=>true
 | _=>false
theorem afw{op:Op}{l:List V}{v:V}{m:List (Nat × Nat)}(h:kqo op l v = .a m):isA op=true∧kqo op=ka∧l.all V.aOk=true∧m=l.flatMap V.aL∧m≠[]:=by
 have hq:∀l v,kq l v ≠ .a m:=by intro l v;unfold kq;(repeat' split)<;>simp
 have hk:ka l v = .a m→l.all V.aOk=true∧m=l.flatMap V.aL∧m≠[]:=by
  intro h
  unfold ka at h
  split at h
  ·rename_i p r h1 h2
   simp only[Kd.a.injEq] at h
   exact⟨h1,by rw[h2,h],by rw[←h];simp⟩
  ·exact absurd h (hq _ _)
 cases op<;>simp only[kqo] at h<;>first|exact absurd h (hq _ _)|(obtain⟨h1,h2,h3⟩:=hk h;exact⟨rfl,rfl,h1,h2,h3⟩)
theorem DU{l:List V}(h:gV id k (l.flatMap V.aL)=true){x:V}(hx:x∈l):gV id k x.aL=true:=by
 unfold gV at *
 rw[List.all_eq_true] at *
 intro p hp
 exact h p (List.mem_flatMap.2 ⟨x,hx,hp⟩)
theorem ED{op:Op}(ha:isA op=true)(hok:∀x∈op.operands.toList,(s.ev x).aOk=true∧gV id k (s.ev x).aL=true)(he:∀x∈op.operands.toList,s2.ev x=aF id k i x1 (s.ev x)):qv P s2 op=(qv P s op).map (aF id k i x1):=by
 cases op<;>simp only[isA,Bool.false_eq_true] at ha
 case move x=>simp only[qv,Option.map_some,he x (by simp [Op.operands])]
 case assign x=>simp only[qv,Option.map_some,he x (by simp [Op.operands])]
 case fieldAddr t x f =>
  have h1:=hok x (by simp [Op.operands])
  simp only[qv,he x (by simp [Op.operands])]
  exact ado h1.1 h1.2
 case indexAddr t x j =>
  have h1:=hok x (by simp [Op.operands])
  have h2:=hok j (by simp [Op.operands])
  simp only[qv,he x (by simp [Op.operands]),he j (by simp [Op.operands])]
  exact adn h1.1 h1.2 h2.1
end
end Go.Pg
end
