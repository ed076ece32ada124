/-
  Merged texts.
-/
import Derived.Orders
import Derived.Test.YtiohdbjggmmjcaaGreatWAJ
set_option linter.unusedVariables false
set_option linter.unusedSimpArgs false
set_option linter.unusedSectionVars false
set_option linter.defProp false
set_option maxRecDepth 100000
set_option maxHeartbeats 8000000
section
namespace Go.Pg
open Go
def ji(P:Program)[Tb P](dsts:List (Option Nat))(o:Oper)(κ:Kd)(s s':St):Prop :=
 match o.guard with
 | none=>aA P s o (fun k s1=>k=κ∧s1=s')
 | some (j,want)=>(∃b,gq s dsts j=some (.c (.bool b))∧(if b=want then aA P s o (fun k s1=>k=κ∧s1=s') else κ = .p∧s'=s.put o.dst (.c undef))) ∨
   ∃v,gq s dsts j=some (.c v)∧(∀b,v ≠ .bool b)∧κ = .p∧s'=s.put o.dst (.c undef)
def vP:Operand→Option Nat
 | .tmp t=>some t
 | _=>none
def lkO(o:Oper):List Nat:=o.op.operands.toList.filterMap vP
def lkG(dsts:List (Option Nat))(o:Oper):List Nat:=match o.guard with|some (j,_)=>(match dsts[j]? with|some (some d)=>[d]|_=>[])|none=>[]
def lk(dsts:List (Option Nat))(o:Oper):List Nat:=lkO o++lkG dsts o
section
variable {P:Program} [Tb P] {dsts:List (Option Nat)} {s s' s1 s2:St} {o o1 o2:Oper} {κ κ1 κ2:Kd}
theorem iw(h:∀t∈lkO o,s'.env t=s.env t):∀x∈o.op.operands.toList,s'.ev x=s.ev x:=by
 intro x hx
 cases x with
 | tmp t=>exact h t (List.mem_filterMap.2 ⟨_,hx,rfl⟩)
 | _=>rfl
theorem fP{j:Nat}{want:Bool}(hg:o.guard=some (j,want))(h:∀t∈lkG dsts o,s'.env t=s.env t):gq s' dsts j=gq s dsts j:=by
 unfold gq
 unfold lkG at h
 rw[hg] at h
 simp only at h
 cases hd:dsts[j]? with
 | none=>rfl
 | some x =>
  cases x with
  | none=>rfl
  | some d =>
   rw[hd] at h
   simp only[h d (by simp)]
theorem iD{a b:Option Nat}{v u:V}(h:∀d,a=some d→b≠some d):(s.put a v).put b u=(s.put b u).put a v:=by
 cases a with
 | none=>rfl
 | some d =>
  cases b with
  | none=>rfl
  | some e=>exact Uw (fun x=>h d rfl (by rw[x]))
theorem fG{a:Option Nat}{v:V}{t:Nat}(h:a≠some t):(s.put a v).env t=s.env t:=by
 cases a with
 | none=>rfl
 | some d=>simp [St.put,upd,show t≠d from fun e=>h (by rw[e])]
theorem rG{a:Option Nat}{v:V}:(s.put a v).bx=s.bx:=by cases a<;>rfl
def Kd.isR:Kd→Bool
 | .r=>true
 | .o true=>true
 | _=>false
def Kd.isV:Kd→Bool
 | .o _=>true
 | .p=>true
 | .q=>true
 | .r=>true
 | .a _=>true
 | _=>false
def Kd.isX:Kd→Bool
 | .x=>true
 | .w _ _=>true
 | .n=>true
 | .g _=>true
 | _=>false
theorem adp{v:V}{id k:Nat}(h : .w id k=xq v):False:=by unfold xq at h;split at h<;>cases h
theorem adq{v:V}(h:xq v = .n):v = .c (.slice none 0 0)∨∃k,v = .sl .nn k []:=by unfold xq at h;split at h<;>first|exact .inl rfl|exact .inr ⟨_,rfl⟩|cases h
theorem adr{v:V}{id:Nat}(h:xq v = .g id):∃e k xs,v = .sl (.own id e) k xs:=by
 unfold xq at h
 split at h
 ·cases h
 ·rename_i j e k xs
  simp only[Kd.g.injEq] at h
  subst h
  exact⟨_,_,_,rfl⟩
 ·cases h
 ·cases h
theorem UC(v:V):(xq v).isX=true:=by unfold xq;split<;>rfl
theorem KA(s:St)(op:Op):(kx s op).isX=true:=by
 unfold kx
 split
 ·split<;>rfl
 all_goals first|rfl|exact UC _
theorem ads(v:V):(kr v).isR=true:=by unfold kr;split<;>rfl
theorem UD(v:V):(kr v).isX=false:=by unfold kr;split<;>rfl
theorem vS(op:Op)(l:List V)(v:V):(kqo op l v).isX=false∧kqo op l v ≠ .r∧kqo op l v ≠ .z:=by
 have h1:(kq l v).isX=false∧kq l v ≠ .r∧kq l v ≠ .z:=by unfold kq;(repeat' split)<;>exact⟨rfl,by simp,by simp⟩
 have h2:(ka l v).isX=false∧ka l v ≠ .r∧ka l v ≠ .z:=by
  unfold ka
  split
  ·exact⟨rfl,by simp,by simp⟩
  ·exact h1
 unfold kqo
 (repeat' split)<;>first|exact h1|exact h2
theorem afx{op:Op}{l:List V}{v:V}(h:kqo op l v = .p):(l.all V.free&&v.calm)=true:=by
 have h1:kq l v = .p→(l.all V.free&&v.calm)=true:=by
  intro h
  unfold kq at h
  split at h
  ·rename_i hc;exact hc
  ·split at h<;>cases h
 have h2:ka l v = .p→(l.all V.free&&v.calm)=true:=by
  intro h
  unfold ka at h
  split at h
  ·cases h
  ·exact h1 h
 unfold kqo at h
 (repeat' split at h)<;>first|exact h1 h|exact h2 h
theorem KC(h:ji P dsts o κ s s')(hk:κ.isV=true) :
  ∃(v:V) (N:List Nat),s'=s.put o.dst v∧(∀t∈N,t∈lk dsts o)∧(κ = .p→v.calm=true∧∀t∈N,(s.env t).free=true) ∧
   ∀s2:St,(∀t∈N,s2.env t=s.env t)→(κ.isR=true→s2.bx=s.bx)→ji P dsts o κ s2 (s2.put o.dst v):=by
 have opCase:aA P s o (fun k s1=>k=κ∧s1=s')→∃(v:V),s'=s.put o.dst v∧(κ = .p→v.calm=true∧∀t∈lkO o,(s.env t).free=true) ∧
   ∀s2:St,(∀t∈lkO o,s2.env t=s.env t)→(κ.isR=true→s2.bx=s.bx)→aA P s2 o (fun k s1=>k=κ∧s1=s2.put o.dst v):=by
  intro h
  rcases iV h with ⟨v,hv,hκ,rfl⟩|⟨v,hv,rfl,rfl⟩|⟨_,_,_,hκ,_⟩|rfl
  ·refine⟨v,rfl,fun hp => ?_,fun s2 he _ => ?_⟩
   ·rw[hp] at hκ
    have hc:=afx hκ.symm
    simp only[Bool.and_eq_true] at hc
    refine⟨hc.2,fun t ht => ?_⟩
    obtain⟨x,hx,hxt⟩:=List.mem_filterMap.1 ht
    cases x with
    | tmp t' =>
     simp only[vP,Option.some.injEq] at hxt
     subst hxt
     exact List.all_eq_true.1 hc.1 _ (List.mem_map.2 ⟨_,hx,rfl⟩)
    | _=>simp [vP] at hxt
   ·have he':=iw he
    have:=xy (AY he' hv)
    have e:jU s2 o=jU s o:=List.map_congr_left fun x hx=>he' x hx
    rw[e,←hκ] at this
    exact this
  ·refine⟨v,rfl, ?_,fun s2 he hb => ?_⟩
   ·intro hp;unfold kr at hp;split at hp<;>cases hp
   ·exact Oe (by rw[H5 (iw he) (hb (ads v))];exact hv)
  ·have:=KA s o.op
   rw[←hκ] at this
   cases κ<;>simp [Kd.isX,Kd.isV] at this hk
  ·cases hk
 unfold ji at h
 split at h
 ·rename_i hg
  obtain⟨v,h1,h2,h3⟩:=opCase h
  refine⟨v,lkO o,h1,fun t ht=>by simp [lk,ht],h2,fun s2 he hb => ?_⟩
  unfold ji
  rw[hg]
  exact h3 s2 he hb
 ·rename_i j want hg
  have gslot:∀v,gq s dsts j=some (.c v)→∀t∈lkG dsts o,(s.env t).free=true:=by
   intro v hb t ht
   unfold lkG at ht
   rw[hg] at ht
   simp only at ht
   unfold gq at hb
   cases hd:dsts[j]? with
   | none=>rw[hd] at ht;cases ht
   | some x =>
    cases x with
    | none=>rw[hd] at ht;cases ht
    | some d =>
     rw[hd] at ht hb
     simp only[List.mem_singleton] at ht
     subst ht
     simp only[Option.some.injEq] at hb
     rw[hb];rfl
  rcases h with ⟨b,hb,h⟩|⟨v,hb,hnb,rfl,rfl⟩
  case inr =>
   refine⟨.c undef,lkG dsts o,rfl,fun t ht=>by simp [lk,ht],fun _=>⟨rfl,gslot _ hb⟩,fun s2 he hbx => ?_⟩
   unfold ji
   rw[hg]
   exact .inr ⟨v,by rw[fP hg he];exact hb,hnb,rfl,rfl⟩
  have gslot:=gslot _ hb
  split at h
  ·rename_i hbw
   obtain⟨v,h1,h2,h3⟩:=opCase h
   refine⟨v,lk dsts o,h1,fun t ht=>ht,fun hp=>⟨(h2 hp).1,fun t ht => ?_⟩,fun s2 he hbx => ?_⟩
   ·rcases List.mem_append.1 ht with ht|ht
    ·exact (h2 hp).2 t ht
    ·exact gslot t ht
   ·unfold ji
    rw[hg]
    refine .inl ⟨b, ?_, ?_⟩
    ·rw[fP hg (fun t ht=>he t (by simp [lk,ht]))];exact hb
    ·rw[if_pos hbw];exact h3 s2 (fun t ht=>he t (by simp [lk,ht])) hbx
  ·rename_i hbw
   obtain⟨rfl,rfl⟩:=h
   refine⟨.c undef,lkG dsts o,rfl,fun t ht=>by simp [lk,ht],fun _=>⟨rfl,gslot⟩,fun s2 he hbx => ?_⟩
   unfold ji
   rw[hg]
   exact .inl ⟨b,by rw[fP hg he];exact hb,by rw[if_neg hbw];exact⟨rfl,rfl⟩⟩
theorem EE{d:Nat}(h:d ∉ lkO o):∀x∈o.op.operands.toList,x ≠ .tmp d:=by
 rintro x hx rfl
 exact h (List.mem_filterMap.2 ⟨_,hx,rfl⟩)
theorem UE{op:Op}{d:Nat}{v:V}(hd:∀x∈op.operands.toList,x ≠ .tmp d):kx (s.put (some d) v) op=kx s op:=by
  unfold kx
  split
  · rename_i t x y
    rw[EC (hd x (by simp [Op.operands]))]
  all_goals first
    | rfl
    | (rename_i x y ts
       rw[EC (hd x (by simp [Op.operands,Call.operands]))])
theorem UF(hx:κ.isX=true)(h:ji P dsts o κ s s'):∃(v:V) (sA:St) (ψ:V→V),Turns ψ∧(∀t,sA.env t=ψ (s.env t))∧s'=sA.put o.dst v ∧
  ∀d y,d ∉ lk dsts o→y.calm=true→ji P dsts o κ (s.put (some d) y) ((sA.put (some d) y).put o.dst v):=by
 have opCase:aA P s o (fun k s1=>k=κ∧s1=s')→∃(v:V) (sA:St) (ψ:V→V),Turns ψ∧(∀t,sA.env t=ψ (s.env t))∧s'=sA.put o.dst v ∧
   ∀d y,d ∉ lk dsts o→y.calm=true→aA P (s.put (some d) y) o (fun k s1=>k=κ∧s1=(sA.put (some d) y).put o.dst v):=by
  intro h
  rcases iV h with ⟨v,hv,hκ,rfl⟩|⟨v,hv,hκ,_⟩|⟨v,sA,hv,hκ,rfl⟩|hκ
  ·rw[hκ,(vS _ _ _).1] at hx;cases hx
  ·rw[hκ,UD] at hx;cases hx
  ·obtain⟨ψ,h1,h2⟩:=A7 hv
   refine⟨v,sA,ψ,h1,h2,rfl,fun d y hd hy => ?_⟩
   have:=pg ((H6 (d:=d) (x:=y) (EE (fun hm=>hd (by simp [lk,hm]))) hy).2 ⟨sA,hv,rfl⟩)
   rw[UE (d:=d) (v:=y) (EE (fun hm=>hd (by simp [lk,hm]))),←hκ] at this
   exact this
  ·rw[hκ] at hx;cases hx
 unfold ji at h
 split at h
 ·rename_i hg
  obtain⟨v,sA,ψ,h1,h2,h3,h4⟩:=opCase h
  refine⟨v,sA,ψ,h1,h2,h3,fun d y hd hy => ?_⟩
  unfold ji
  rw[hg]
  exact h4 d y hd hy
 ·rename_i j want hg
  rcases h with ⟨b,hb,h⟩|⟨_,_,_,h,_⟩
  case inr=>rw[h] at hx;cases hx
  split at h
  ·rename_i hbw
   obtain⟨v,sA,ψ,h1,h2,h3,h4⟩:=opCase h
   refine⟨v,sA,ψ,h1,h2,h3,fun d y hd hy => ?_⟩
   unfold ji
   rw[hg]
   refine .inl ⟨b, ?_,by rw[if_pos hbw];exact h4 d y hd hy⟩
   rw[fP hg (s:=s) (fun t ht=>fG (fun e=>by simp only[Option.some.injEq] at e;subst e;exact hd (by simp [lk,ht])))]
   exact hb
  ·rw[h.1] at hx;cases hx
theorem C9{d:Nat}{y:V}(hx:κ.isX=true)(h:ji P dsts o κ (s.put (some d) y) s')(hd:d ∉ lk dsts o)(hy:y.calm=true) :
  ∃(v:V) (sA:St) (ψ:V→V),Turns ψ∧(∀t,sA.env t=ψ (s.env t))∧ji P dsts o κ s (sA.put o.dst v)∧s'=(sA.put (some d) y).put o.dst v:=by
 have opCase:aA P (s.put (some d) y) o (fun k s1=>k=κ∧s1=s')→∃(v:V) (sA:St) (ψ:V→V),Turns ψ∧(∀t,sA.env t=ψ (s.env t))∧aA P s o (fun k s1=>k=κ∧s1=sA.put o.dst v)∧s'=(sA.put (some d) y).put o.dst v:=by
  intro h
  rcases iV h with ⟨v,hv,hκ,rfl⟩|⟨v,hv,hκ,_⟩|⟨v,sB,hv,hκ,rfl⟩|hκ
  ·rw[hκ,(vS _ _ _).1] at hx;cases hx
  ·rw[hκ,UD] at hx;cases hx
  ·obtain⟨sA,h1,rfl⟩:=(H6 (EE (fun hm=>hd (by simp [lk,hm]))) hy).1 hv
   obtain⟨ψ,h2,h3⟩:=A7 h1
   rw[UE (d:=d) (v:=y) (EE (fun hm=>hd (by simp [lk,hm])))] at hκ
   have:=pg h1
   rw[←hκ] at this
   exact⟨v,sA,ψ,h2,h3,this,rfl⟩
  ·rw[hκ] at hx;cases hx
 unfold ji at h
 split at h
 ·rename_i hg
  obtain⟨v,sA,ψ,h1,h2,h3,h4⟩:=opCase h
  refine⟨v,sA,ψ,h1,h2, ?_,h4⟩
  unfold ji
  rw[hg]
  exact h3
 ·rename_i j want hg
  rcases h with ⟨b,hb,h⟩|⟨_,_,_,h,_⟩
  case inr=>rw[h] at hx;cases hx
  split at h
  ·rename_i hbw
   obtain⟨v,sA,ψ,h1,h2,h3,h4⟩:=opCase h
   refine⟨v,sA,ψ,h1,h2, ?_,h4⟩
   unfold ji
   rw[hg]
   refine .inl ⟨b, ?_,by rw[if_pos hbw];exact h3⟩
   rw[fP hg (s':=s.put (some d) y) (fun t ht=>fG (fun e=>by simp only[Option.some.injEq] at e;subst e;exact hd (by simp [lk,ht])))] at hb
   exact hb
  ·rw[h.1] at hx;cases hx
def UG:Kd→Kd→Bool
 | .x,.p=>true
 | .w _ _,.p=>true
 | .p,.x=>true
 | .p,.w _ _=>true
 | .a l,.w id k=>gV id k l
 | .w id k,.a l=>gV id k l
 | .g _,.p=>true
 | .p,.g _=>true
 | .a l,.g id=>l.all fun p=>p.1 != id
 | .g id,.a l=>l.all fun p=>p.1 != id
 | .o _,.g _=>true
 | .g _,.o _=>true
 | .n,b=>b.isV
 | a,.n=>a.isV
 | a,b=>a.isV&&b.isV
def xA(dsts:List (Option Nat))(a b:Oper):Bool :=
 (match a.dst with|some d => !(lk dsts b).contains d && !(b.dst == some d)|none=>true)&&(match b.dst with|some d => !(lk dsts a).contains d|none=>true)
theorem yN(h:xA dsts o1 o2=true):(∀d,o1.dst=some d→d ∉ lk dsts o2)∧(∀d,o1.dst=some d→o2.dst≠some d)∧(∀d,o2.dst=some d→d ∉ lk dsts o1):=by
 simp only[xA,Bool.and_eq_true] at h
 refine⟨fun d hd => ?_,fun d hd => ?_,fun d hd => ?_⟩
 ·have h1:=h.1
  rw[hd] at h1
  simp at h1
  exact h1.1
 ·have h1:=h.1
  rw[hd] at h1
  simp at h1
  exact h1.2
 ·have h1:=h.2
  rw[hd] at h1
  simpa using h1
theorem A8{ψ:V→V}{d:Option Nat}{v:V}:(s.put d v).mapV ψ=(s.mapV ψ).put d (ψ v):=by
 cases d with
 | none=>rfl
 | some d =>
  have e:(fun t=>ψ (upd s.env d v t))=upd (fun t=>ψ (s.env t)) d (ψ v):=by
   funext t
   simp only[upd]
   split<;>rfl
  show (⟨fun t=>ψ (upd s.env d v t),_,_,_⟩:St)=⟨upd (fun t=>ψ (s.env t)) d (ψ v),_,_,_⟩
  rw[e];rfl
def IsW(P:Program)(o:Oper)(id k:Nat)(i:Nat)(x1:V)(s:St):Prop :=
 ∃t x y e xs off,o.op = .store t x y∧s.ev x = .el (.own id e) k xs i off∧∀s2:St,s2.ev x=s.ev x→s2.ev y=s.ev y→lq P s2 t id k xs i off (s2.ev y)=some (s2.mapV (aF id k i x1))
theorem Og{id k:Nat}(h:aA P s o (fun κ s1=>κ = .w id k∧s1=s')):∃i x1,IsW P o id k i x1 s∧s'=(s.mapV (aF id k i x1)).put o.dst .top:=by
 rcases iV h with ⟨v,hv,hκ,rfl⟩|⟨v,hv,hκ,_⟩|⟨v,sA,hv,hκ,rfl⟩|hκ
 ·have:=(vS o.op (jU s o) v).1;rw[←hκ] at this;cases this
 ·unfold kr at hκ;split at hκ<;>cases hκ
 ·unfold kx at hκ
  split at hκ
  ·rename_i t x y hop
   split at hκ
   ·rename_i id' e k' xs i off hx
    simp only[Kd.w.injEq] at hκ
    obtain⟨rfl,rfl⟩:=hκ
    rcases hv with hv|⟨f,args,ts,g,fs,cs,r,heq,_⟩
    ·rw[hop] at hv
     simp only[xv,hx,Option.map_eq_some_iff,Prod.mk.injEq] at hv
     obtain⟨sB,hs,rfl,rfl⟩:=hv
     have hs':=hs
     simp only[lq,Option.bind_eq_some_iff,Option.ite_none_right_eq_some,Option.some.injEq] at hs'
     obtain⟨x0,a1,c0,a2,l,a3,x1,a4,a5,rfl⟩:=hs'
     refine⟨i,x1,⟨t,x,y,e,xs,off,hop,hx,fun s2 h1 h2 => ?_⟩,rfl⟩
     simp only[lq,a1,Option.bind_some,a2,h2,a3,a4,if_pos a5]
    ·rw[hop] at heq;cases heq
   ·cases hκ
  all_goals first|cases hκ|exact (adp hκ).elim
 ·cases hκ
theorem H7{id k i:Nat}{x1:V}(h:IsW P o id k i x1 s):aA P s o (fun κ s1=>κ = .w id k∧s1=(s.mapV (aF id k i x1)).put o.dst .top):=by
 obtain⟨t,x,y,e,xs,off,hop,hx,h2⟩:=h
 have hv:CZ P s o .top (s.mapV (aF id k i x1)) := .inl (by rw[hop];simp only[xv,hx,h2 s rfl rfl,Option.map_some])
 have:=pg hv
 have e1:kx s o.op = .w id k:=by rw[hop];simp only[kx,hx]
 rw[e1] at this
 exact this
theorem UH{id k i:Nat}{x1:V}(h:IsW P o id k i x1 s)(he:∀x∈o.op.operands.toList,s'.ev x=s.ev x):IsW P o id k i x1 s':=by
 obtain⟨t,x,y,e,xs,off,hop,hx,h2⟩:=h
 have hx':=he x (by rw[hop];simp [Op.operands])
 have hy':=he y (by rw[hop];simp [Op.operands])
 exact⟨t,x,y,e,xs,off,hop,by rw[hx'];exact hx,fun s2 h1 h3=>h2 s2 (h1.trans hx') (h3.trans hy')⟩
theorem UI{id k:Nat}(h:ji P dsts o (.w id k) s s'):∃i x1,s'=(s.mapV (aF id k i x1)).put o.dst .top∧∀s2:St,(∀t∈lk dsts o,s2.env t=s.env t)→ji P dsts o (.w id k) s2 ((s2.mapV (aF id k i x1)).put o.dst .top):=by
 unfold ji at h
 split at h
 ·rename_i hg
  obtain⟨i,x1,h1,h2⟩:=Og h
  refine⟨i,x1,h2,fun s2 he => ?_⟩
  unfold ji
  rw[hg]
  exact H7 (UH h1 (iw fun t ht=>he t (by simp [lk,ht])))
 ·rename_i j want hg
  rcases h with ⟨b,hb,h⟩|⟨_,_,_,h,_⟩
  case inr=>cases h
  split at h
  ·rename_i hbw
   obtain⟨i,x1,h1,h2⟩:=Og h
   refine⟨i,x1,h2,fun s2 he => ?_⟩
   unfold ji
   rw[hg]
   refine .inl ⟨b, ?_,by rw[if_pos hbw];exact H7 (UH h1 (iw fun t ht=>he t (by simp [lk,ht])))⟩
   rw[fP hg (fun t ht=>he t (by simp [lk,ht]))];exact hb
  ·cases h.1
theorem PY{id k i:Nat}{x1 v:V}{u:Value}(h:aF id k i x1 v = .c u):v = .c u:=by
 cases v with
 | c v=>exact h
 | sl t k' xs=>cases t<;>simp [aF,aJ] at h<;>(repeat' split at h)<;>simp_all
 | el t k' xs a o=>cases t<;>simp [aF,aJ] at h<;>(repeat' split at h)<;>simp_all
 | _=>simp only[aF,aJ] at h;split at h<;>cases h
theorem acW{id k i:Nat}{x1:V}{N:List Nat}(he:∀t∈lkO o,s'.env t=aF id k i x1 (s.env t)):∀x∈o.op.operands.toList,s'.ev x=aF id k i x1 (s.ev x):=by
 intro x hx
 cases x with
 | tmp t=>exact he t (List.mem_filterMap.2 ⟨_,hx,rfl⟩)
 | const v=>exact (UB v).symm
 | global g=>rfl
 | func f =>
  show V.fn f [] []=aF id k i x1 (.fn f [] [])
  simp [aF,aJ,V.has,V.any,V.anyL]
theorem EF{l:List (Nat × Nat)}(h:aA P s o (fun κ s1=>κ = .a l∧s1=s')):∃v,qv P s o.op=some v∧isA o.op=true∧(∀x∈o.op.operands.toList,(s.ev x).aOk=true)∧l=(jU s o).flatMap V.aL∧l≠[]∧s'=s.put o.dst v:=by
 rcases iV h with ⟨v,hv,hκ,rfl⟩|⟨v,hv,hκ,_⟩|⟨v,sA,hv,hκ,rfl⟩|hκ
 ·obtain⟨h1,h2,h3,h4,h5⟩:=afw hκ.symm
  refine⟨v, ?_,h1,fun x hx=>List.all_eq_true.1 h3 _ (List.mem_map.2 ⟨x,hx,rfl⟩),h4,h5,rfl⟩
  rcases hv with hv|⟨f,args,ts,g,fs,cs,heq,_⟩
  ·exact hv
  ·rw[heq] at h1;cases h1
 ·unfold kr at hκ;split at hκ<;>cases hκ
 ·have:=KA s o.op;rw[←hκ] at this;cases this
 ·cases hκ
theorem ZL{op:Op}(h:isA op=true):kqo op=ka:=by
 cases op<;>simp only[isA,Bool.false_eq_true] at h<;>rfl
theorem KD{l:List (Nat × Nat)}{v:V}(hv:qv P s o.op=some v)(hA:isA o.op=true)(hok:∀x∈o.op.operands.toList,(s.ev x).aOk=true)(hl:l=(jU s o).flatMap V.aL)(hf:l≠[]):aA P s o (fun κ s1=>κ = .a l∧s1=s.put o.dst v):=by
 have:=xy (o:=o) (v:=v) (.inl hv)
 have h1:(jU s o).all V.aOk=true:=by
  rw[List.all_eq_true]
  intro x hx
  obtain⟨y,hy,rfl⟩:=List.mem_map.1 hx
  exact hok y hy
 have e:kqo o.op (jU s o) v = .a l:=by
  rw[ZL hA,ka]
  rw[hl] at hf ⊢
  split
  ·rename_i p r _ h2;rw[h2]
  ·rename_i hne
   cases hm:(jU s o).flatMap V.aL with
   | nil=>exact absurd hm hf
   | cons p r=>exact (hne p r h1 hm).elim
 rw[e] at this
 exact this
theorem Oh{s2:St}{id k i:Nat}{x1:V}(he:∀x∈o.op.operands.toList,s2.ev x=aF id k i x1 (s.ev x))(hok:∀x∈o.op.operands.toList,(s.ev x).aOk=true∧gV id k (s.ev x).aL=true):(jU s2 o).flatMap V.aL=(jU s o).flatMap V.aL:=by
 have:∀m:List Operand,(∀x∈m,x∈o.op.operands.toList)→(m.map s2.ev).flatMap V.aL=(m.map s.ev).flatMap V.aL:=by
  intro m
  induction m with
  | nil=>intro _;rfl
  | cons x m ih =>
   intro hm
   have hx:=hm x (by simp)
   simp only[List.map_cons,List.flatMap_cons]
   rw[ih fun y hy=>hm y (List.mem_cons_of_mem _ hy),he x hx,(UA (hok x hx).1 (hok x hx).2).2.1]
 exact this _ fun x hx=>hx
theorem acX{l:List (Nat × Nat)}{id k i:Nat}{x1:V}{s2:St}(hc:gV id k l=true)(h:aA P s o (fun κ s1=>κ = .a l∧s1=s'))(he:∀t∈lkO o,s2.env t=aF id k i x1 (s.env t)):∃v,s'=s.put o.dst v∧aA P s2 o (fun κ s1=>κ = .a l∧s1=s2.put o.dst (aF id k i x1 v)):=by
 obtain⟨v,hv,hA,hok,hl,hf,rfl⟩:=EF h
 have hev:=acW (N:=[]) he
 have hcx:∀x∈o.op.operands.toList,(s.ev x).aOk=true∧gV id k (s.ev x).aL=true:=fun x hx=>⟨hok x hx,DU (by rw[hl] at hc;exact hc) (List.mem_map.2 ⟨x,hx,rfl⟩)⟩
 have hq:=ED (P:=P) hA hcx hev
 rw[hv] at hq
 exact⟨v,rfl,KD hq hA (fun x hx=>by rw[hev x hx];exact (UA (hcx x hx).1 (hcx x hx).2).1) (by rw[Oh hev hcx];exact hl) hf⟩
theorem UJ{l:List (Nat × Nat)}{id k i:Nat}{x1:V}{s2:St}(hc:gV id k l=true)(h:aA P s2 o (fun κ s1=>κ = .a l∧s1=s'))(he:∀t∈lkO o,s2.env t=aF id k i x1 (s.env t)):∃v,s'=s2.put o.dst (aF id k i x1 v)∧aA P s o (fun κ s1=>κ = .a l∧s1=s.put o.dst v):=by
 obtain⟨v',hv,hA,hok,hl,hf,rfl⟩:=EF h
 have hev:=acW (N:=[]) he
 have hcx:∀x∈o.op.operands.toList,(s.ev x).aOk=true∧gV id k (s.ev x).aL=true:=fun x hx=>by
  have h1:=hok x hx
  have h2:=DU (id:=id) (k:=k) (by rw[hl] at hc;exact hc) (List.mem_map.2 ⟨x,hx,rfl⟩)
  rw[hev x hx] at h1 h2
  exact ZK h1 h2
 have hq:=ED (P:=P) hA hcx hev
 rw[hv] at hq
 obtain⟨v,h1,h2⟩:=Option.map_eq_some_iff.1 hq.symm
 subst h2
 exact⟨v,rfl,KD h1 hA (fun x hx=>(hcx x hx).1) (by rw[←Oh hev hcx];exact hl) hf⟩
theorem H8{id k i:Nat}{x1:V}{s2:St}{j:Nat}{want:Bool}(hg:o.guard=some (j,want))(he:∀t∈lkG dsts o,s2.env t=aF id k i x1 (s.env t))(v:Value):gq s2 dsts j=some (.c v)↔gq s dsts j=some (.c v):=by
 unfold gq
 unfold lkG at he
 rw[hg] at he
 simp only at he
 cases hd:dsts[j]? with
 | none=>simp
 | some x =>
  cases x with
  | none=>simp
  | some d =>
   rw[hd] at he
   simp only[Option.some.injEq]
   rw[he d (by simp)]
   exact⟨PY,fun h=>by rw[h];rfl⟩
theorem EG{l:List (Nat × Nat)}{id k i:Nat}{x1:V}{s2:St}(hc:gV id k l=true)(h:ji P dsts o (.a l) s s')(he:∀t∈lk dsts o,s2.env t=aF id k i x1 (s.env t)):∃v,s'=s.put o.dst v∧ji P dsts o (.a l) s2 (s2.put o.dst (aF id k i x1 v)):=by
 unfold ji at h
 split at h
 ·rename_i hg
  obtain⟨v,h1,h2⟩:=acX hc h (fun t ht=>he t (by simp [lk,ht]))
  exact⟨v,h1,by unfold ji;rw[hg];exact h2⟩
 ·rename_i j want hg
  rcases h with ⟨b,hb,h⟩|⟨_,_,_,h,_⟩
  case inr=>cases h
  split at h
  ·rename_i hbw
   obtain⟨v,h1,h2⟩:=acX hc h (fun t ht=>he t (by simp [lk,ht]))
   refine⟨v,h1, ?_⟩
   unfold ji
   rw[hg]
   exact .inl ⟨b,(H8 hg (fun t ht=>he t (by simp [lk,ht])) _).2 hb,by rw[if_pos hbw];exact h2⟩
  ·cases h.1
theorem Dc{l:List (Nat × Nat)}{id k i:Nat}{x1:V}{s2:St}(hc:gV id k l=true)(h:ji P dsts o (.a l) s2 s')(he:∀t∈lk dsts o,s2.env t=aF id k i x1 (s.env t)):∃v,s'=s2.put o.dst (aF id k i x1 v)∧ji P dsts o (.a l) s (s.put o.dst v):=by
 unfold ji at h
 split at h
 ·rename_i hg
  obtain⟨v,h1,h2⟩:=UJ hc h (fun t ht=>he t (by simp [lk,ht]))
  exact⟨v,h1,by unfold ji;rw[hg];exact h2⟩
 ·rename_i j want hg
  rcases h with ⟨b,hb,h⟩|⟨_,_,_,h,_⟩
  case inr=>cases h
  split at h
  ·rename_i hbw
   obtain⟨v,h1,h2⟩:=UJ hc h (fun t ht=>he t (by simp [lk,ht]))
   refine⟨v,h1, ?_⟩
   unfold ji
   rw[hg]
   exact .inl ⟨b,(H8 hg (fun t ht=>he t (by simp [lk,ht])) _).1 hb,by rw[if_pos hbw];exact h2⟩
  ·cases h.1
theorem adt{v:V}(h:CZ P s o v s1)(hk:kx s o.op = .n):∃δ,s1={ s with nid:=s.nid+δ }∧∀s2:St,(∀x∈o.op.operands.toList,s2.ev x=s.ev x)→s2.nid=s.nid→CZ P s2 o v { s2 with nid:=s2.nid+δ }:=by
 rcases h with h|⟨f,args,ts,g,fs,cs,r,heq,hf,h1,h2,h3,h4,h5,h0,rfl,rfl⟩
 ·unfold kx at hk
  split at hk
  ·split at hk<;>cases hk
  ·rename_i t len parts hop
   rw[hop] at h
   simp only[xv,eP,Option.bind_eq_some_iff,Option.ite_none_right_eq_some,Option.some.injEq,Prod.mk.injEq,Prod.exists] at h
   obtain⟨e,a1,k,by',a2,z,a3,xs,a4,a5,rfl,rfl⟩:=h
   refine⟨1,rfl,fun s2 he hn => .inl ?_⟩
   have:(parts.toList.map fun p=>(p.1,s2.ev p.2))=parts.toList.map fun p=>(p.1,s.ev p.2):=by
    refine List.map_congr_left fun p hp => ?_
    rw[he p.2 (by rw[hop];simp only[Op.operands];simpa using ⟨p.1,by simpa using hp⟩)]
   simp only[hop,xv,eP,this,a1,a2,a3,a4,Option.bind_some,if_pos a5,hn]
  ·rename_i t l c hop
   rw[hop] at h
   simp only[xv,vJ] at h
   split at h
   ·rename_i k1 n1 k2 n2 hl hc
    simp only[Option.bind_eq_some_iff,Option.ite_none_right_eq_some,Option.some.injEq,Prod.mk.injEq,Prod.exists] at h
    obtain⟨e,a1,k,by',a2,z,a3,a5,rfl,rfl⟩:=h
    refine⟨1,rfl,fun s2 he hn => .inl ?_⟩
    have e1:=he l (by rw[hop];simp [Op.operands])
    have e2:=he c (by rw[hop];simp [Op.operands])
    rw[hl] at e1
    rw[hc] at e2
    simp only[hop,xv,vJ,e1,e2,a1,a2,a3,Option.bind_some,if_pos a5,hn]
   ·cases h
  ·rename_i hop
   rw[hop] at h
   simp [xv] at h
  ·rename_i x y ts hop
   have hx:=adq hk
   rw[hop] at h
   simp only[xv] at h
   split at h
   ·rename_i x' y' t t2 hxy hts
    simp only[List.cons.injEq,and_true] at hxy
    obtain⟨rfl,rfl⟩:=hxy
    rcases hx with hx|⟨k',hx⟩
    all_goals
     rw[hx] at h
     simp only[jP,Option.bind_eq_some_iff,Option.ite_none_right_eq_some,Option.some.injEq,Prod.mk.injEq,Prod.exists] at h
     obtain⟨e,a1,k,by',a2,ys,a3,a5,rfl,rfl⟩:=h
     refine⟨1,rfl,fun s2 he hn => .inl ?_⟩
     have e1:=he x (by rw[hop];simp [Op.operands,Call.operands])
     have e2:=he y (by rw[hop];simp [Op.operands,Call.operands])
     rw[hx] at e1
     simp only[hop,xv,hts,e1,e2,jP,a1,a2,a3,Option.bind_some,if_pos a5,hn]
   ·cases h
  ·cases hk
 ·refine⟨r.idb,rfl,fun s2 he hn => .inr ⟨f,args,ts,g,fs,cs,r,heq, ?_, ?_,h2, ?_,h4, ?_,h0,by rw[hn],rfl⟩⟩
  all_goals
   rw[heq] at he
   have hfe:s2.ev f=s.ev f:=he f (by simp [Op.operands,Call.operands])
   have hae:args.toList.map s2.ev=args.toList.map s.ev:=List.map_congr_left fun x hx=>he x (by simp [Op.operands,Call.operands] at hx ⊢;simp [hx])
   first
    | (rw[hfe];exact hf)
    | (rw[hae];exact h1)
    | (rw[hae];exact h3)
    | (rw[hae];exact h5)
theorem H9{op:Op}{s2:St}(he:∀x∈op.operands.toList,s2.ev x=s.ev x):kx s2 op=kx s op:=by
  unfold kx
  split
  · rename_i t x y
    rw[he x (by simp [Op.operands])]
  all_goals first
    | rfl
    | (rename_i x y ts
       rw[he x (by simp [Op.operands,Call.operands])])
theorem UK(h:ji P dsts o .n s s'):∃v δ,s'=St.put { s with nid:=s.nid+δ } o.dst v∧∀s2:St,(∀t∈lk dsts o,s2.env t=s.env t)→s2.nid=s.nid→ji P dsts o .n s2 (St.put { s2 with nid:=s2.nid+δ } o.dst v):=by
 have opCase:aA P s o (fun k s1=>k = .n∧s1=s')→∃v δ,s'=St.put { s with nid:=s.nid+δ } o.dst v∧∀s2:St,(∀t∈lkO o,s2.env t=s.env t)→s2.nid=s.nid→aA P s2 o (fun k s1=>k = .n∧s1=St.put { s2 with nid:=s2.nid+δ } o.dst v):=by
  intro h
  rcases iV h with ⟨v,hv,hκ,rfl⟩|⟨v,hv,hκ,_⟩|⟨v,sA,hv,hκ,rfl⟩|hκ
  ·have:=(vS o.op (jU s o) v).1;rw[←hκ] at this;cases this
  ·unfold kr at hκ;split at hκ<;>cases hκ
  ·obtain⟨δ,rfl,h2⟩:=adt hv hκ.symm
   refine⟨v,δ,rfl,fun s2 he hn => ?_⟩
   have:=pg (h2 s2 (iw he) hn)
   rw[H9 (iw he),←hκ] at this
   exact this
  ·cases hκ
 unfold ji at h
 split at h
 ·rename_i hg
  obtain⟨v,δ,h1,h2⟩:=opCase h
  refine⟨v,δ,h1,fun s2 he hn => ?_⟩
  unfold ji
  rw[hg]
  exact h2 s2 (fun t ht=>he t (by simp [lk,ht])) hn
 ·rename_i j want hg
  rcases h with ⟨b,hb,h⟩|⟨_,_,_,h,_⟩
  case inr=>cases h
  split at h
  ·rename_i hbw
   obtain⟨v,δ,h1,h2⟩:=opCase h
   refine⟨v,δ,h1,fun s2 he hn => ?_⟩
   unfold ji
   rw[hg]
   refine .inl ⟨b, ?_,by rw[if_pos hbw];exact h2 s2 (fun t ht=>he t (by simp [lk,ht])) hn⟩
   rw[fP hg (fun t ht=>he t (by simp [lk,ht]))];exact hb
  ·cases h.1
def nT(id:Nat)(s:St):St:={ s.mapV (aJ id) with nid:=max s.nid (id+1) }
theorem adu{v:V}{id:Nat}(h:CZ P s o v s1)(hk:kx s o.op = .g id):s1=nT id s∧∀s2:St,(∀x∈o.op.operands.toList,s2.ev x=s.ev x)→CZ P s2 o v (nT id s2):=by
 rcases h with h|⟨f,args,ts,g,fs,cs,r,heq,hf,h1,h2,h3,h4,h5,h0,rfl,rfl⟩
 ·unfold kx at hk
  split at hk
  ·split at hk<;>cases hk
  ·cases hk
  ·cases hk
  ·cases hk
  ·rename_i x y ts hop
   obtain⟨el,k0,xs,hx⟩:=adr hk
   rw[hop] at h
   simp only[xv] at h
   split at h
   ·rename_i x' y' t t2 hxy hts
    simp only[List.cons.injEq,and_true] at hxy
    obtain⟨rfl,rfl⟩:=hxy
    rw[hx] at h
    simp only[jP,Option.bind_eq_some_iff,Option.ite_none_right_eq_some,Option.some.injEq,Prod.mk.injEq,Prod.exists] at h
    obtain⟨e,a1,k,by',a2,ys,a3,a5,rfl,rfl⟩:=h
    refine⟨rfl,fun s2 he => .inl ?_⟩
    have e1:=he x (by rw[hop];simp [Op.operands,Call.operands])
    have e2:=he y (by rw[hop];simp [Op.operands,Call.operands])
    rw[hx] at e1
    simp only[hop,xv,hts,e1,e2,jP,a1,a2,a3,Option.bind_some,if_pos a5,nT]
   ·cases h
  ·cases hk
 ·rw[heq] at hk;cases hk
theorem UL{id:Nat}(h:ji P dsts o (.g id) s s'):∃v,s'=(nT id s).put o.dst v∧∀s2:St,(∀t∈lk dsts o,s2.env t=s.env t)→ji P dsts o (.g id) s2 ((nT id s2).put o.dst v):=by
 have opCase:aA P s o (fun k s1=>k = .g id∧s1=s')→∃v,s'=(nT id s).put o.dst v∧∀s2:St,(∀t∈lkO o,s2.env t=s.env t)→aA P s2 o (fun k s1=>k = .g id∧s1=(nT id s2).put o.dst v):=by
  intro h
  rcases iV h with ⟨v,hv,hκ,rfl⟩|⟨v,hv,hκ,_⟩|⟨v,sA,hv,hκ,rfl⟩|hκ
  ·have:=(vS o.op (jU s o) v).1;rw[←hκ] at this;cases this
  ·unfold kr at hκ;split at hκ<;>cases hκ
  ·obtain⟨rfl,h2⟩:=adu hv hκ.symm
   refine⟨v,rfl,fun s2 he => ?_⟩
   have:=pg (h2 s2 (iw he))
   rw[H9 (iw he),←hκ] at this
   exact this
  ·cases hκ
 unfold ji at h
 split at h
 ·rename_i hg
  obtain⟨v,h1,h2⟩:=opCase h
  refine⟨v,h1,fun s2 he => ?_⟩
  unfold ji
  rw[hg]
  exact h2 s2 (fun t ht=>he t (by simp [lk,ht]))
 ·rename_i j want hg
  rcases h with ⟨b,hb,h⟩|⟨_,_,_,h,_⟩
  case inr=>cases h
  split at h
  ·rename_i hbw
   obtain⟨v,h1,h2⟩:=opCase h
   refine⟨v,h1,fun s2 he => ?_⟩
   unfold ji
   rw[hg]
   refine .inl ⟨b, ?_,by rw[if_pos hbw];exact h2 s2 (fun t ht=>he t (by simp [lk,ht]))⟩
   rw[fP hg (fun t ht=>he t (by simp [lk,ht]))];exact hb
  ·cases h.1
theorem zJ{id:Nat}{v:V}(h:v.aOk=true)(hl:(v.aL.all fun p=>p.1 != id)=true):aJ id v=v:=by
 unfold aJ
 rw[if_neg]
 cases v with
 | sl t k xs=>cases t<;>simp_all [V.has,V.any,Tag.is,V.aL]
 | el t k xs i off=>cases t<;>simp_all [V.has,V.any,Tag.is,V.aL]
 | _=>first|exact absurd h Bool.false_ne_true|simp [V.has,V.any]
theorem afy{id:Nat}{v:V}(h:∀k i x1,aF id k i x1 v=v):aJ id v=v:=by
 cases v with
 | sl t k xs =>
  cases t with
  | own j e =>
   have:=h (k+1) 0 .top
   by_cases hj:j=id
   ·simp [aF,hj] at this
   ·simp [aJ,V.has,V.any,Tag.is,hj]
  | _=>exact h 0 0 .top
 | el t k xs i off =>
  cases t with
  | own j e =>
   have:=h (k+1) 0 .top
   by_cases hj:j=id
   ·simp [aF,hj] at this
   ·simp [aJ,V.has,V.any,Tag.is,hj]
  | _=>exact h 0 0 .top
 | _=>exact h 0 0 .top
theorem ZM{id k i:Nat}{x1 v:V}(h:v.aOk=true)(hl:(v.aL.all fun p=>p.1 != id)=true):aF id k i x1 v=v:=by
 cases v with
 | sl t k xs=>cases t<;>first|exact zJ h hl|simp_all [aF,V.aL]
 | el t k xs i off=>cases t<;>first|exact zJ h hl|simp_all [aF,V.aL]
 | _=>exact zJ h hl
theorem Ia{l:List (Nat × Nat)}{id:Nat}(hl:(l.all fun p=>p.1 != id)=true)(h:aA P s o (fun κ s1=>κ = .a l∧s1=s')):∃v,s'=s.put o.dst v∧aJ id v=v∧(∀x∈o.op.operands.toList,(s.ev x).aOk=true∧aJ id (s.ev x)=s.ev x)∧∀s2:St,(∀x∈o.op.operands.toList,s2.ev x=s.ev x)→aA P s2 o (fun κ s1=>κ = .a l∧s1=s2.put o.dst v):=by
 obtain⟨v,hv,hA,hok,hll,hf,rfl⟩:=EF h
 have hmem:∀x∈o.op.operands.toList,((s.ev x).aL.all fun p=>p.1 != id)=true:=by
  intro x hx
  rw[List.all_eq_true] at hl ⊢
  intro p hp
  exact hl p (by rw[hll];exact List.mem_flatMap.2 ⟨s.ev x,List.mem_map.2 ⟨x,hx,rfl⟩,hp⟩)
 refine⟨v,rfl,afy fun k i x1 => ?_,fun x hx=>⟨hok x hx,zJ (hok x hx) (hmem x hx)⟩,fun s2 he => ?_⟩
 ·have:=ED (P:=P) (s:=s) (s2:=s) (id:=id) (k:=k) (i:=i) (x1:=x1) hA (fun x hx=>⟨hok x hx,by
   have:=hmem x hx
   unfold gV
   rw[List.all_eq_true] at this ⊢
   intro p hp
   simp only[this p hp,Bool.true_or]⟩) (fun x hx=>(ZM (hok x hx) (hmem x hx)).symm)
  rw[hv] at this
  simpa using this.symm
 ·have e:jU s2 o=jU s o:=List.map_congr_left fun x hx=>he x hx
  exact KD (by rw[AX he];exact hv) hA (fun x hx=>by rw[he x hx];exact hok x hx) (by rw[e];exact hll) hf
theorem PZ{l:List (Nat × Nat)}{id:Nat}(hl:(l.all fun p=>p.1 != id)=true)(h:ji P dsts o (.a l) s s'):∃v,s'=s.put o.dst v∧aJ id v=v∧(∀t∈lk dsts o,(s.env t).aOk=true∧aJ id (s.env t)=s.env t)∧∀s2:St,(∀t∈lk dsts o,s2.env t=s.env t)→ji P dsts o (.a l) s2 (s2.put o.dst v):=by
 have hop:(∀x∈o.op.operands.toList,(s.ev x).aOk=true∧aJ id (s.ev x)=s.ev x)→∀t∈lkO o,(s.env t).aOk=true∧aJ id (s.env t)=s.env t:=by
  intro h t ht
  obtain⟨x,hx,hxt⟩:=List.mem_filterMap.1 ht
  cases x with
  | tmp t'=>simp only[vP,Option.some.injEq] at hxt;subst hxt;exact h _ hx
  | _=>simp [vP] at hxt
 unfold ji at h
 split at h
 ·rename_i hg
  obtain⟨v,h1,h2,h3,h4⟩:=Ia hl h
  refine⟨v,h1,h2,fun t ht => ?_,fun s2 he => ?_⟩
  ·rcases List.mem_append.1 ht with ht|ht
   ·exact hop h3 t ht
   ·simp [lkG,hg] at ht
  ·unfold ji
   rw[hg]
   exact h4 s2 (iw fun t ht=>he t (by simp [lk,ht]))
 ·rename_i j want hg
  rcases h with ⟨b,hb,h⟩|⟨_,_,_,h,_⟩
  case inr=>cases h
  split at h
  ·rename_i hbw
   obtain⟨v,h1,h2,h3,h4⟩:=Ia hl h
   refine⟨v,h1,h2,fun t ht => ?_,fun s2 he => ?_⟩
   ·rcases List.mem_append.1 ht with ht|ht
    ·exact hop h3 t ht
    ·unfold lkG at ht
     rw[hg] at ht
     simp only at ht
     unfold gq at hb
     cases hd:dsts[j]? with
     | none=>rw[hd] at ht;cases ht
     | some x =>
      cases x with
      | none=>rw[hd] at ht;cases ht
      | some d =>
       rw[hd] at ht hb
       simp only[List.mem_singleton] at ht
       subst ht
       simp only[Option.some.injEq] at hb
       rw[hb];exact⟨rfl,rfl⟩
   ·unfold ji
    rw[hg]
    refine .inl ⟨b, ?_,by rw[if_pos hbw];exact h4 s2 (iw fun t ht=>he t (by simp [lk,ht]))⟩
    rw[fP hg (fun t ht=>he t (by simp [lk,ht]))];exact hb
  ·cases h.1
theorem vT{id:Nat}{d:Option Nat}{v:V}(h:aJ id v=v):nT id (s.put d v)=(nT id s).put d v:=by
 unfold nT
 rw[A8,h]
 cases d<;>rfl
theorem Ib{d:Option Nat}{v:V}{n:Nat}:({ (s.put d v) with nid:=n }:St)=St.put { s with nid:=n } d v:=by cases d<;>rfl
theorem vU{d:Option Nat}{v:V}:(s.put d v).nid=s.nid:=by cases d<;>rfl
def mvS(P:Program)(t len:Nat)(parts:List (Nat × V)):Option V :=
 (elemT P t).bind fun e=>(tapp P e).bind fun p=>(zelem P e).bind fun z=>(setAll p.1 (List.replicate len z) parts).bind fun xs=>if len*p.1≤16777216 then some (.sl .fz p.1 xs) else none
def mvE(P:Program)(s:St)(op:Op):Option V :=
 match op with
 | .buildSlice t len parts=>mvS P t len (parts.toList.map fun p=>(p.1,s.ev p.2))
 | _=>none
theorem DV{op:Op}(he:∀x∈op.operands.toList,s2.ev x=s.ev x):mvE P s2 op=mvE P s op:=by
 unfold mvE
 split
 ·rename_i t len parts
  have:(parts.toList.map fun p=>(p.1,s2.ev p.2))=parts.toList.map fun p=>(p.1,s.ev p.2):=by
   refine List.map_congr_left fun p hp => ?_
   rw[he p.2 (by simp only[Op.operands];simpa using ⟨p.1,by simpa using hp⟩)]
  rw[this]
 ·rfl
theorem UM{C:Cx}{L:Lay}{a:Act}{w:World}{v:V}(h:mvE P s o.op=some v)(S:Sim C s L a w):∃u w' L',Does P o a w u w'∧Sim C s L' a w'∧Rep L' w' v u:=by
 obtain⟨dst,op,type,pos,after,guard⟩:=o
 simp only at h
 unfold mvE at h
 split at h
 ·rename_i t len parts
  simp only[mvS,Option.bind_eq_some_iff,Prod.exists,Option.ite_none_right_eq_some,Option.some.injEq] at h
  obtain⟨e,he,k,bytes,hk,z,hz,xs,hxs,h24,rfl⟩:=h
  obtain⟨ur,h1,hul,h3,h2,hm⟩:=mY S.ev he hk hz hxs h24
  let w1:World:=w.alloc (.cells ur e)
  have hh:w1.heap[w.heap.size]?=some (.cells ur e (0,0)):=heap_alloc_new w _
  have G:Grow w w1:=⟨rfl,rfl,rfl,by simp [w1],fun k hk=>RowKit.Below.heap_alloc _ _ _ (by omega),by simp [w1]⟩
  have E:=Lay.leA L w.heap.size
  have hsz:w.heap.size<w1.heap.size:=by simp [w1]
  refine⟨_,w1,L.addA w.heap.size,.inl (by simp only[execOp,Sem.run_bind,h1,Result.andThen_ok,Sem.run_pure];rfl),S.grow G E rfl (fun b cs h => .inl h) (S.wf.addA S.hB hsz),some ⟨w.heap.size,0,none⟩,len,ur.toList,by rw[h3], ?_, ?_⟩
  ·exact h2.trans (p:=fun _=>false) (q:=fun _=>false) rfl (S.wf.whole G E)
  ·refine⟨by omega,.inr ⟨w.heap.size,0,rfl,.inr rfl,ur,e,(0,0),hh, ?_⟩⟩
   rw[List.drop_zero];exact List.take_length
 ·cases h
theorem nU(l:List V)(v:V):(kq l v).isV=true∧(kq l v).isX=false∧(kq l v ≠ .z)∧(kq l v ≠ .r)∧(kq l v ≠ .n)∧(∀m,kq l v ≠ .a m)∧(∀i k,kq l v ≠ .w i k)∧∀i,kq l v ≠ .g i:=by
 unfold kq
 (repeat' split)<;>exact⟨rfl,rfl,(fun h=>by cases h),(fun h=>by cases h),(fun h=>by cases h),(fun _ h=>by cases h),(fun _ _ h=>by cases h),fun _ h=>by cases h⟩
def dK(P:Program)[Tb P](dsts:List (Option Nat))(o:Oper)(κ:Kd)(s s':St):Prop :=
 ji P dsts o κ s s'∨(o.guard=none∧∃v,mvE P s o.op=some v∧κ=kq (jU s o) v∧s'=s.put o.dst v)
theorem lu(h:dK P dsts o κ s s')(hk:κ.isV=true) :
  ∃(v:V) (N:List Nat),s'=s.put o.dst v∧(∀t∈N,t∈lk dsts o)∧(κ = .p→v.calm=true∧∀t∈N,(s.env t).free=true) ∧
   ∀s2:St,(∀t∈N,s2.env t=s.env t)→(κ.isR=true→s2.bx=s.bx)→dK P dsts o κ s2 (s2.put o.dst v):=by
 rcases h with h|⟨hg,v,hv,hκ,rfl⟩
 ·obtain⟨v,N,h1,h2,h3,h4⟩:=KC h hk
  exact⟨v,N,h1,h2,h3,fun s2 ha hb => .inl (h4 s2 ha hb)⟩
 ·refine⟨v,lkO o,rfl,fun t ht=>by simp [lk,ht],fun hp => ?_,fun s2 ha _ => .inr ⟨hg,v, ?_, ?_,rfl⟩⟩
  ·have hc:((jU s o).all V.free&&v.calm)=true:=by
    rw[hp] at hκ
    have:=hκ.symm
    unfold kq at this
    split at this
    ·rename_i hc;exact hc
    ·split at this<;>cases this
   simp only[Bool.and_eq_true] at hc
   refine⟨hc.2,fun t ht => ?_⟩
   obtain⟨x,hx,hxt⟩:=List.mem_filterMap.1 ht
   cases x with
   | tmp t' =>
    simp only[vP,Option.some.injEq] at hxt
    subst hxt
    exact List.all_eq_true.1 hc.1 _ (List.mem_map.2 ⟨_,hx,rfl⟩)
   | _=>simp [vP] at hxt
  ·rw[DV (iw ha)];exact hv
  ·have e:jU s2 o=jU s o:=List.map_congr_left fun x hx=>iw ha x hx
   rw[e];exact hκ
theorem Oi(hx:κ.isX=true)(h:dK P dsts o κ s s'):∃(v:V) (sA:St) (ψ:V→V),Turns ψ∧(∀t,sA.env t=ψ (s.env t))∧s'=sA.put o.dst v ∧
  ∀d y,d ∉ lk dsts o→y.calm=true→dK P dsts o κ (s.put (some d) y) ((sA.put (some d) y).put o.dst v):=by
 rcases h with h|⟨_,v,_,hκ,_⟩
 ·obtain⟨v,sA,ψ,h1,h2,h3,h4⟩:=UF hx h
  exact⟨v,sA,ψ,h1,h2,h3,fun d y hd hy => .inl (h4 d y hd hy)⟩
 ·rw[hκ,(nU _ _).2.1] at hx;cases hx
theorem EH{d:Nat}{y:V}(hx:κ.isX=true)(h:dK P dsts o κ (s.put (some d) y) s')(hd:d ∉ lk dsts o)(hy:y.calm=true) :
  ∃(v:V) (sA:St) (ψ:V→V),Turns ψ∧(∀t,sA.env t=ψ (s.env t))∧dK P dsts o κ s (sA.put o.dst v)∧s'=(sA.put (some d) y).put o.dst v:=by
 rcases h with h|⟨_,v,_,hκ,_⟩
 ·obtain⟨v,sA,ψ,h1,h2,h3,h4⟩:=C9 hx h hd hy
  exact⟨v,sA,ψ,h1,h2,.inl h3,h4⟩
 ·rw[hκ,(nU _ _).2.1] at hx;cases hx
theorem Oj{id k:Nat}(h:dK P dsts o (.w id k) s s'):∃i x1,s'=(s.mapV (aF id k i x1)).put o.dst .top∧∀s2:St,(∀t∈lk dsts o,s2.env t=s.env t)→dK P dsts o (.w id k) s2 ((s2.mapV (aF id k i x1)).put o.dst .top):=by
 rcases h with h|⟨_,v,_,hκ,_⟩
 ·obtain⟨i,x1,h1,h2⟩:=UI h
  exact⟨i,x1,h1,fun s2 he => .inl (h2 s2 he)⟩
 ·exact absurd hκ.symm ((nU _ _).2.2.2.2.2.2.1 _ _)
theorem Ic{l:List (Nat × Nat)}{id k i:Nat}{x1:V}{s2:St}(hc:gV id k l=true)(h:dK P dsts o (.a l) s s')(he:∀t∈lk dsts o,s2.env t=aF id k i x1 (s.env t)):∃v,s'=s.put o.dst v∧dK P dsts o (.a l) s2 (s2.put o.dst (aF id k i x1 v)):=by
 rcases h with h|⟨_,v,_,hκ,_⟩
 ·obtain⟨v,h1,h2⟩:=EG hc h he
  exact⟨v,h1,.inl h2⟩
 ·exact absurd hκ.symm ((nU _ _).2.2.2.2.2.1 _)
theorem EI{l:List (Nat × Nat)}{id k i:Nat}{x1:V}{s2:St}(hc:gV id k l=true)(h:dK P dsts o (.a l) s2 s')(he:∀t∈lk dsts o,s2.env t=aF id k i x1 (s.env t)):∃v,s'=s2.put o.dst (aF id k i x1 v)∧dK P dsts o (.a l) s (s.put o.dst v):=by
 rcases h with h|⟨_,v,_,hκ,_⟩
 ·obtain⟨v,h1,h2⟩:=Dc hc h he
  exact⟨v,h1,.inl h2⟩
 ·exact absurd hκ.symm ((nU _ _).2.2.2.2.2.1 _)
theorem Ol(h:dK P dsts o .n s s'):∃v δ,s'=St.put { s with nid:=s.nid+δ } o.dst v∧∀s2:St,(∀t∈lk dsts o,s2.env t=s.env t)→s2.nid=s.nid→dK P dsts o .n s2 (St.put { s2 with nid:=s2.nid+δ } o.dst v):=by
 rcases h with h|⟨_,v,_,hκ,_⟩
 ·obtain⟨v,δ,h1,h2⟩:=UK h
  exact⟨v,δ,h1,fun s2 he hn => .inl (h2 s2 he hn)⟩
 ·exact absurd hκ.symm (nU _ _).2.2.2.2.1
theorem zK{id:Nat}(h:dK P dsts o (.g id) s s'):∃v,s'=(nT id s).put o.dst v∧∀s2:St,(∀t∈lk dsts o,s2.env t=s.env t)→dK P dsts o (.g id) s2 ((nT id s2).put o.dst v):=by
 rcases h with h|⟨_,v,_,hκ,_⟩
 ·obtain⟨v,h1,h2⟩:=UL h
  exact⟨v,h1,fun s2 he => .inl (h2 s2 he)⟩
 ·exact absurd hκ.symm ((nU _ _).2.2.2.2.2.2.2 _)
theorem Ie{l:List (Nat × Nat)}{id:Nat}(hl:(l.all fun p=>p.1 != id)=true)(h:dK P dsts o (.a l) s s'):∃v,s'=s.put o.dst v∧aJ id v=v∧(∀t∈lk dsts o,(s.env t).aOk=true∧aJ id (s.env t)=s.env t)∧∀s2:St,(∀t∈lk dsts o,s2.env t=s.env t)→dK P dsts o (.a l) s2 (s2.put o.dst v):=by
 rcases h with h|⟨_,v,_,hκ,_⟩
 ·obtain⟨v,h1,h2,h3,h4⟩:=PZ hl h
  exact⟨v,h1,h2,h3,fun s2 he => .inl (h4 s2 he)⟩
 ·exact absurd hκ.symm ((nU _ _).2.2.2.2.2.1 _)
theorem ZN:(∀v:V,v.any Tag.isOwn (fun _=>false) true=false→∀id,v.any (Tag.is id) (fun _=>false) false=false)∧(∀l,V.anyL Tag.isOwn (fun _=>false) true l=false→∀id,V.anyL (Tag.is id) (fun _=>false) false l=false):=by
 refine V.ind ?_ ?_ ?_ ?_ ?_ ?_ ?_ ?_ ?_ ?_ ?_ ?_ ?_
 ·intro v _ _;rfl
 ·intro _ _;rfl
 ·intro t k xs _ h id;cases t with
  | fz=>rfl
  | nn=>rfl
  | own i e=>simp [V.any,Tag.isOwn] at h
 ·intro t es h id;cases t with
  | fz=>rfl
  | nn=>rfl
  | own i e=>simp [V.any,Tag.isOwn] at h
 ·intro cs ih h id;exact ih h id
 ·intro cs ih h id;exact ih h id
 ·intro b off _ _;rfl
 ·intro b be bo bk bn _ _;rfl
 ·intro t k xs i off _ h id;cases t with
  | fz=>rfl
  | nn=>rfl
  | own i e=>simp [V.any,Tag.isOwn] at h
 ·intro f fs cs ih1 ih2 h id
  simp only[V.any,Bool.or_eq_false_iff] at h ⊢
  exact⟨ih1 h.1 id,ih2 h.2 id⟩
 ·intro _ _;rfl
 ·intro _ _;rfl
 ·intro x xs ih1 ih2 h id
  simp only[V.anyL,Bool.or_eq_false_iff] at h ⊢
  exact⟨ih1 h.1 id,ih2 h.2 id⟩
theorem nD{id:Nat}{v:V}(h:v.ownless=true):aJ id v=v:=by
 unfold aJ V.has
 rw[ZN.1 v (by simpa [V.ownless] using h) id]
 rfl
theorem uH{id:Nat}{v:V}(h:(aJ id v).ownless=true):aJ id v=v:=by
 unfold aJ at *
 split at h
 ·simp [V.ownless,V.any] at h
 ·rename_i hv;rw[if_neg hv]
theorem yO{l:List V}(h:(V.agg l).ownless=true):∀x∈l,x.ownless=true:=by
 have key:∀l:List V,V.anyL Tag.isOwn (fun _=>false) true l=false→∀x∈l,x.ownless=true:=by
  intro l
  induction l with
  | nil=>intro _ x hx;cases hx
  | cons a l ih =>
   intro h x hx
   simp only[V.anyL,Bool.or_eq_false_iff] at h
   rcases List.mem_cons.1 hx with rfl|hx
   ·simpa [V.ownless] using h.1
   ·exact ih h.2 x hx
 exact key l (by simpa [V.ownless,V.any] using h)
theorem UN{id:Nat}{l:List V}(h:∀x∈l,aJ id x=x):l.map (aJ id)=l:=by
 induction l with
 | nil=>rfl
 | cons a l ih=>rw[List.map_cons,h a (by simp),ih fun x hx=>h x (by simp [hx])]
theorem KE{t off id:Nat}{cs:List V}{v:V}(h:dY P t cs off=some v)(hv:v.ownless=true):dY P t (cs.map (aJ id)) off=some v:=by
 unfold dY at *
 split at h
 ·simp only[Option.bind_eq_some_iff,Option.ite_none_right_eq_some,Option.some.injEq] at h ⊢
  obtain⟨n,h1,h2,rfl⟩:=h
  refine⟨n,h1,by simpa using h2, ?_⟩
  rw[←List.map_drop,←List.map_take,UN fun x hx=>nD (yO hv x hx)]
 ·rw[List.getElem?_map,h,Option.map_some,nD hv]
 ·cases h
theorem Ig{t off id:Nat}{cs:List V}{v:V}(h:dY P t (cs.map (aJ id)) off=some v)(hv:v.ownless=true):dY P t cs off=some v:=by
 unfold dY at *
 split at h
 ·simp only[Option.bind_eq_some_iff,Option.ite_none_right_eq_some,Option.some.injEq] at h ⊢
  obtain⟨n,h1,h2,rfl⟩:=h
  refine⟨n,h1,by simpa using h2, ?_⟩
  rw[←List.map_drop,←List.map_take] at hv ⊢
  rw[UN fun x hx=>uH (yO hv _ (List.mem_map.2 ⟨x,hx,rfl⟩))]
 ·rw[List.getElem?_map,Option.map_eq_some_iff] at h
  obtain⟨x,h1,rfl⟩:=h
  rw[h1,uH hv]
 ·cases h
def pB(id:Nat)(b:Bxx):Bxx:=fun x=>(b x).map fun y=>(y.1,y.2.map (aJ id))
def BxN(id:Nat)(b b2:Bxx):Prop:=b2=b∨b2=pB id b∨b=pB id b2
theorem afz{id:Nat}{op:Op}{v:V}{s2:St}(h:rv P s op=some v)(hv:v.ownless=true)(he:∀x∈op.operands.toList,s2.ev x=s.ev x)(hb:BxN id s.bx s2.bx):rv P s2 op=some v:=by
 rcases hb with hb|hb|hb
 ·rw[H5 he hb];exact h
 ·unfold rv at *
  split at h
  ·rename_i t x
   rw[he x (by simp [Op.operands])]
   split at h
   ·rename_i b off hx
    simp only[lH,Option.bind_eq_some_iff] at h ⊢
    obtain⟨y,h1,h2⟩:=h
    exact⟨(y.1,y.2.map (aJ id)),by rw[hb,pB,h1];rfl,KE h2 hv⟩
   ·cases h
  ·rename_i src dst x
   rw[he x (by simp [Op.operands])]
   unfold jg at *
   split at h
   ·simp only[Option.bind_eq_some_iff,Option.ite_none_right_eq_some,Option.some.injEq] at h ⊢
    obtain⟨y,h1,h2,h3⟩:=h
    exact⟨(y.1,y.2.map (aJ id)),by rw[hb,pB,h1];rfl,by simpa using h2,h3⟩
   ·cases h
  ·cases h
 ·unfold rv at *
  split at h
  ·rename_i t x
   rw[he x (by simp [Op.operands])]
   split at h
   ·rename_i b off hx
    simp only[lH,Option.bind_eq_some_iff] at h ⊢
    obtain⟨y,h1,h2⟩:=h
    rw[hb,pB,Option.map_eq_some_iff] at h1
    obtain⟨z,h1,rfl⟩:=h1
    exact⟨z,h1,Ig h2 hv⟩
   ·cases h
  ·rename_i src dst x
   rw[he x (by simp [Op.operands])]
   unfold jg at *
   split at h
   ·simp only[Option.bind_eq_some_iff,Option.ite_none_right_eq_some,Option.some.injEq] at h ⊢
    obtain⟨y,h1,h2,h3⟩:=h
    rw[hb,pB,Option.map_eq_some_iff] at h1
    obtain⟨z,h1,rfl⟩:=h1
    exact⟨z,h1,by simpa using h2,h3⟩
   ·cases h
  ·cases h
theorem adv{op:Op}{v:V}(h:rv P s op=some v):∀x∈op.operands.toList,(s.ev x).ownless=true:=by
 unfold rv at h
 split at h
 ·rename_i t x
  intro y hy
  simp [Op.operands] at hy
  subst hy
  split at h
  ·rename_i b off hx
   rw[hx];rfl
  ·cases h
 ·rename_i src dst x
  intro y hy
  simp [Op.operands] at hy
  subst hy
  unfold jg at h
  split at h
  ·rename_i b off hx
   rw[hx];rfl
  ·cases h
 ·cases h
theorem adx{l:List V}{v:V}{b:Bool}(h:kq l v = .o b):l.all V.ownless=true∧v.ownless=true∧b=false:=by
 unfold kq at h
 split at h
 ·cases h
 ·split at h
  ·rename_i hc
   simp only[Bool.and_eq_true] at hc
   simp only[Kd.o.injEq] at h
   exact⟨hc.1,hc.2,h.symm⟩
  ·cases h
theorem afA{op:Op}{l:List V}{v:V}{b:Bool}(h:kqo op l v = .o b):l.all V.ownless=true∧v.ownless=true∧b=false:=by
 have h2:ka l v = .o b→l.all V.ownless=true∧v.ownless=true∧b=false:=by
  intro h
  unfold ka at h
  split at h
  ·cases h
  ·exact adx h
 unfold kqo at h
 (repeat' split at h)<;>first|exact adx h|exact h2 h
theorem Ih{id:Nat}{b:Bool}(h:dK P dsts o (.o b) s s'):∃v,s'=s.put o.dst v∧v.ownless=true∧(∀t∈lk dsts o,(s.env t).ownless=true) ∧
  ∀s2:St,(∀t∈lk dsts o,s2.env t=s.env t)→BxN id s.bx s2.bx→dK P dsts o (.o b) s2 (s2.put o.dst v):=by
 have hops:(∀x∈o.op.operands.toList,(s.ev x).ownless=true)→∀t∈lkO o,(s.env t).ownless=true:=by
  intro h t ht
  obtain⟨x,hx,hxt⟩:=List.mem_filterMap.1 ht
  cases x with
  | tmp t'=>simp only[vP,Option.some.injEq] at hxt;subst hxt;exact h _ hx
  | _=>simp [vP] at hxt
 have hall:(jU s o).all V.ownless=true→∀x∈o.op.operands.toList,(s.ev x).ownless=true:=fun h x hx=>List.all_eq_true.1 h _ (List.mem_map.2 ⟨x,hx,rfl⟩)
 have opCase:aA P s o (fun k s1=>k = .o b∧s1=s')→∃v,s'=s.put o.dst v∧v.ownless=true∧(∀t∈lkO o,(s.env t).ownless=true) ∧
   ∀s2:St,(∀t∈lkO o,s2.env t=s.env t)→BxN id s.bx s2.bx→aA P s2 o (fun k s1=>k = .o b∧s1=s2.put o.dst v):=by
  intro h
  rcases iV h with ⟨v,hv,hκ,rfl⟩|⟨v,hv,hκ,rfl⟩|⟨v,sA,hv,hκ,rfl⟩|hκ
  ·obtain⟨h1,h2,h3⟩:=afA hκ.symm
   refine⟨v,rfl,h2,hops (hall h1),fun s2 he _ => ?_⟩
   have he':=iw he
   have:=xy (AY he' hv)
   have e:jU s2 o=jU s o:=List.map_congr_left fun x hx=>he' x hx
   rw[e,←hκ] at this
   exact this
  ·have hk:v.ownless=true:=by
    unfold kr at hκ
    split at hκ
    ·rename_i h;exact h
    ·cases hκ
   refine⟨v,rfl,hk,hops (adv hv),fun s2 he hb => ?_⟩
   have:=Oe (o:=o) (afz hv hk (iw he) hb)
   rw[←hκ] at this
   exact this
  ·have:=KA s o.op;rw[←hκ] at this;cases this
  ·cases hκ
 rcases h with h|⟨hg,v,hv,hκ,rfl⟩
 ·unfold ji at h
  split at h
  ·rename_i hg
   obtain⟨v,h1,h2,h3,h4⟩:=opCase h
   refine⟨v,h1,h2,fun t ht => ?_,fun s2 he hb => .inl ?_⟩
   ·rcases List.mem_append.1 ht with ht|ht
    ·exact h3 t ht
    ·simp [lkG,hg] at ht
   ·unfold ji
    rw[hg]
    exact h4 s2 (fun t ht=>he t (by simp [lk,ht])) hb
  ·rename_i j want hg
   rcases h with ⟨c,hb,h⟩|⟨_,_,_,h,_⟩
   case inr=>cases h
   split at h
   ·rename_i hbw
    obtain⟨v,h1,h2,h3,h4⟩:=opCase h
    refine⟨v,h1,h2,fun t ht => ?_,fun s2 he hx => .inl ?_⟩
    ·rcases List.mem_append.1 ht with ht|ht
     ·exact h3 t ht
     ·unfold lkG at ht
      rw[hg] at ht
      simp only at ht
      unfold gq at hb
      cases hd:dsts[j]? with
      | none=>rw[hd] at ht;cases ht
      | some x =>
       cases x with
       | none=>rw[hd] at ht;cases ht
       | some d =>
        rw[hd] at ht hb
        simp only[List.mem_singleton] at ht
        subst ht
        simp only[Option.some.injEq] at hb
        rw[hb];rfl
    ·unfold ji
     rw[hg]
     refine .inl ⟨c, ?_,by rw[if_pos hbw];exact h4 s2 (fun t ht=>he t (by simp [lk,ht])) hx⟩
     rw[fP hg (fun t ht=>he t (by simp [lk,ht]))];exact hb
   ·cases h.1
 ·obtain⟨h1,h2,h3⟩:=adx hκ.symm
  refine⟨v,rfl,h2,fun t ht => ?_,fun s2 he _ => .inr ⟨hg,v, ?_, ?_,rfl⟩⟩
  ·rcases List.mem_append.1 ht with ht|ht
   ·exact hops (hall h1) t ht
   ·simp [lkG,hg] at ht
  ·rw[DV (iw fun t ht=>he t (by simp [lk,ht]))];exact hv
  ·have e:jU s2 o=jU s o:=List.map_congr_left fun x hx=>iw (fun t ht=>he t (by simp [lk,ht])) x hx
   rw[e];exact hκ
theorem swap(h1:dK P dsts o1 κ1 s s1)(h2:dK P dsts o2 κ2 s1 s2)(hap:xA dsts o1 o2=true)(hc:UG κ1 κ2=true):∃s1',dK P dsts o2 κ2 s s1'∧dK P dsts o1 κ1 s1' s2:=by
 obtain⟨ha,hb,hc'⟩:=yN hap
 have hb':∀d,o2.dst=some d→o1.dst≠some d:=fun d h h'=>hb d h' h
 have vv:κ1.isV=true→κ2.isV=true→∃s1',dK P dsts o2 κ2 s s1'∧dK P dsts o1 κ1 s1' s2:=by
  intro k1 k2
  obtain⟨v1,N1,rfl,hN1,_,ht1⟩:=lu h1 k1
  obtain⟨v2,N2,rfl,hN2,_,ht2⟩:=lu h2 k2
  refine⟨s.put o2.dst v2,ht2 s (fun t ht=>(fG (fun e=>ha t e (hN2 t ht))).symm) (fun _=>rG.symm), ?_⟩
  rw[iD hb]
  exact ht1 _ (fun t ht=>fG (fun e=>hc' t e (hN1 t ht))) (fun _=>rG)
 have px:κ1 = .p→κ2.isX=true→∃s1',dK P dsts o2 κ2 s s1'∧dK P dsts o1 κ1 s1' s2:=by
  rintro rfl hx2
  obtain⟨v1,N1,rfl,hN1,hp,ht1⟩:=lu h1 rfl
  obtain⟨hcalm,hfree⟩:=hp rfl
  have main:∀(v:V) (sA:St) (ψ:V→V),Turns ψ→(∀t,sA.env t=ψ (s.env t))→dK P dsts o1 .p (sA.put o2.dst v) ((sA.put o2.dst v).put o1.dst v1):=by
   intro v sA ψ hψ he
   refine ht1 _ (fun t ht => ?_) (fun h=>absurd h Bool.false_ne_true)
   rw[fG (fun e=>hc' t e (hN1 t ht)),he,hψ.calm _ (PX (hfree t ht))]
  cases hd:o1.dst with
  | none =>
   rw[hd] at h2
   obtain⟨v,sA,ψ,hψ,he,rfl,_⟩:=Oi hx2 h2
   refine⟨_,h2, ?_⟩
   have:=main v sA ψ hψ he
   rw[hd] at this
   exact this
  | some d =>
   rw[hd] at h2
   obtain⟨v,sA,ψ,hψ,he,h3,rfl⟩:=EH hx2 h2 (ha d hd) hcalm
   refine⟨_,h3, ?_⟩
   have:=main v sA ψ hψ he
   rw[hd] at this
   rw[iD (fun e h=>by simp only[Option.some.injEq] at h;subst h;exact hb d hd)]
   exact this
 have xp:κ1.isX=true→κ2 = .p→∃s1',dK P dsts o2 κ2 s s1'∧dK P dsts o1 κ1 s1' s2:=by
  rintro hx1 rfl
  obtain⟨v,sA,ψ,hψ,he,rfl,hfwd⟩:=Oi hx1 h1
  obtain⟨v2,N2,rfl,hN2,hp,ht2⟩:=lu h2 rfl
  obtain⟨hcalm,hfree⟩:=hp rfl
  have hsame:∀t∈N2,s.env t=(sA.put o1.dst v).env t:=by
   intro t ht
   have hf:=hfree t ht
   rw[fG (fun e=>ha t e (hN2 t ht)),he] at hf ⊢
   exact (hψ.back _ hf).symm
  have h3:=ht2 s hsame (fun h=>absurd h Bool.false_ne_true)
  refine⟨_,h3, ?_⟩
  rw[iD hb]
  cases hd:o2.dst with
  | none=>exact h1
  | some d=>exact hfwd d v2 (hc' d hd) hcalm
 have aw:∀l id k,κ1 = .a l→κ2 = .w id k→gV id k l=true→∃s1',dK P dsts o2 κ2 s s1'∧dK P dsts o1 κ1 s1' s2:=by
  rintro l id k rfl rfl hcl
  obtain⟨v1,N1,rfl,hN1,_,_⟩:=lu h1 rfl
  obtain⟨i,x1,rfl,hw⟩:=Oj h2
  have e0:=hw s (fun t ht=>(fG (fun e=>ha t e ht)).symm)
  refine⟨_,e0, ?_⟩
  obtain⟨v,hv,h3⟩:=Ic (id:=id) (k:=k) (i:=i) (x1:=x1) (s2:=(s.mapV (aF id k i x1)).put o2.dst .top) hcl h1 (fun t ht=>by rw[fG (fun e=>hc' t e ht)];rfl)
  rw[hv,A8,iD hb]
  exact h3
 have wa:∀l id k,κ1 = .w id k→κ2 = .a l→gV id k l=true→∃s1',dK P dsts o2 κ2 s s1'∧dK P dsts o1 κ1 s1' s2:=by
  rintro l id k rfl rfl hcl
  obtain⟨i,x1,rfl,hw⟩:=Oj h1
  obtain⟨v,rfl,h3⟩:=EI (s:=s) hcl h2 (fun t ht=>by rw[fG (fun e=>ha t e ht)];rfl)
  refine⟨_,h3, ?_⟩
  have h4:=hw (s.put o2.dst v) (fun t ht=>fG (fun e=>hc' t e ht))
  rw[A8] at h4
  rw[iD hb]
  exact h4
 have vn:κ1.isV=true→κ2 = .n→∃s1',dK P dsts o2 κ2 s s1'∧dK P dsts o1 κ1 s1' s2:=by
  rintro k1 rfl
  obtain⟨v1,N1,rfl,hN1,_,ht1⟩:=lu h1 k1
  obtain⟨v,δ,rfl,hn⟩:=Ol h2
  have e0:=hn s (fun t ht=>(fG (fun e=>ha t e ht)).symm) vU.symm
  refine⟨_,e0, ?_⟩
  rw[vU,Ib,iD hb]
  exact ht1 _ (fun t ht=>fG (s:={ s with nid:=s.nid+δ }) (fun e=>hc' t e (hN1 t ht))) (fun _=>rG (s:={ s with nid:=s.nid+δ }))
 have nv:κ1 = .n→κ2.isV=true→∃s1',dK P dsts o2 κ2 s s1'∧dK P dsts o1 κ1 s1' s2:=by
  rintro rfl k2
  obtain⟨v,δ,rfl,hn⟩:=Ol h1
  obtain⟨v2,N2,rfl,hN2,_,ht2⟩:=lu h2 k2
  refine⟨s.put o2.dst v2,ht2 s (fun t ht=>(fG (s:={ s with nid:=s.nid+δ }) (fun e=>ha t e (hN2 t ht))).symm) (fun _=>(rG (s:={ s with nid:=s.nid+δ })).symm), ?_⟩
  rw[iD hb]
  have:=hn (s.put o2.dst v2) (fun t ht=>fG (fun e=>hc' t e ht)) vU
  rw[vU,Ib] at this
  exact this
 have ag:∀l id,κ1 = .a l→κ2 = .g id→(l.all fun p=>p.1 != id)=true→∃s1',dK P dsts o2 κ2 s s1'∧dK P dsts o1 κ1 s1' s2:=by
  rintro l id rfl rfl hcl
  obtain⟨v1,rfl,hp1,hpe,ht1⟩:=Ie hcl h1
  obtain⟨v,rfl,hw⟩:=zK h2
  have e0:=hw s (fun t ht=>(fG (fun e=>ha t e ht)).symm)
  refine⟨_,e0, ?_⟩
  rw[vT hp1,iD hb]
  exact ht1 _ (fun t ht=>by rw[fG (fun e=>hc' t e ht)];exact (hpe t ht).2)
 have ga:∀l id,κ1 = .g id→κ2 = .a l→(l.all fun p=>p.1 != id)=true→∃s1',dK P dsts o2 κ2 s s1'∧dK P dsts o1 κ1 s1' s2:=by
  rintro l id rfl rfl hcl
  obtain⟨v,rfl,hw⟩:=zK h1
  obtain⟨v1,rfl,hp1,hpe,ht1⟩:=Ie hcl h2
  have hsame:∀t∈lk dsts o2,s.env t=((nT id s).put o1.dst v).env t:=by
   intro t ht
   have h0:=hpe t ht
   rw[fG (fun e=>ha t e ht)] at h0 ⊢
   exact (nC (id:=id) h0.1).1.symm
  refine⟨_,ht1 s hsame, ?_⟩
  have h4:=hw (s.put o2.dst v1) (fun t ht=>fG (fun e=>hc' t e ht))
  rw[vT hp1] at h4
  rw[iD hb]
  exact h4
 have og:∀b id,κ1 = .o b→κ2 = .g id→∃s1',dK P dsts o2 κ2 s s1'∧dK P dsts o1 κ1 s1' s2:=by
  rintro b id rfl rfl
  obtain⟨v1,rfl,hv1,hen,ht1⟩:=Ih (id:=id) h1
  obtain⟨v,rfl,hw⟩:=zK h2
  have e0:=hw s (fun t ht=>(fG (fun e=>ha t e ht)).symm)
  refine⟨_,e0, ?_⟩
  rw[vT (nD hv1),iD hb]
  exact ht1 _ (fun t ht=>by rw[fG (fun e=>hc' t e ht)];exact nD (hen t ht)) (.inr (.inl (by rw[rG];rfl)))
 have go:∀b id,κ1 = .g id→κ2 = .o b→∃s1',dK P dsts o2 κ2 s s1'∧dK P dsts o1 κ1 s1' s2:=by
  rintro b id rfl rfl
  obtain⟨v,rfl,hw⟩:=zK h1
  obtain⟨v1,rfl,hv1,hen,ht1⟩:=Ih (id:=id) h2
  have hsame:∀t∈lk dsts o2,s.env t=((nT id s).put o1.dst v).env t:=by
   intro t ht
   have h0:=hen t ht
   rw[fG (fun e=>ha t e ht)] at h0 ⊢
   exact (uH (id:=id) h0).symm
  refine⟨_,ht1 s hsame (.inr (.inr (by rw[rG];rfl))), ?_⟩
  have h4:=hw (s.put o2.dst v1) (fun t ht=>fG (fun e=>hc' t e ht))
  rw[vT (nD hv1)] at h4
  rw[iD hb]
  exact h4
 cases κ1<;>cases κ2<;>first
  | exact absurd hc Bool.false_ne_true
  | exact og _ _ rfl rfl
  | exact go _ _ rfl rfl
  | exact ag _ _ rfl rfl hc
  | exact ga _ _ rfl rfl hc
  | exact vn rfl rfl
  | exact nv rfl rfl
  | exact vv rfl rfl
  | exact px rfl rfl
  | exact xp rfl rfl
  | exact aw _ _ _ rfl rfl hc
  | exact wa _ _ _ rfl rfl hc
abbrev Ent:=Nat × Oper × Kd
def uI(P:Program)[Tb P](dsts:List (Option Nat)):List Ent→St→St→Prop
 | [],s,s'=>s=s'
 | e::r,s,s'=>∃s1,dK P dsts e.2.1 e.2.2 s s1∧uI P dsts r s1 s'
def xB(dsts:List (Option Nat))(x y:Ent):Bool:=UG x.2.2 y.2.2&&xA dsts x.2.1 y.2.1
theorem Ii{x:Ent}:∀{l1 l2:List Ent} {s s':St},uI P dsts (l1++x::l2) s s'→(∀y∈l1,xB dsts y x=true)→uI P dsts (x::(l1++l2)) s s':=by
 intro l1
 induction l1 with
 | nil=>intro l2 s s' h _;exact h
 | cons y l1 ih =>
  rintro l2 s s' ⟨s1,h1,h2⟩ hb
  obtain⟨s2,h3,h4⟩:=ih h2 (fun z hz=>hb z (by simp [hz]))
  have hy:=hb y (by simp)
  simp only[xB,Bool.and_eq_true] at hy
  obtain⟨s1',h5,h6⟩:=swap h1 h3 hy.2 hy.1
  exact⟨s1',h5,s2,h6,h4⟩
end
def edgesOf(o:Oper):List Nat:=(o.after.toList.filter fun e=>Region.binds .any e).map (·.on)
def uJ(acc:List Nat)(es:List Nat):Nat:=es.foldr (fun j m=>m ||| (2^j ||| acc.getD j 0)) 0
def pq(acc:List Nat):List Oper→List Nat
 | []=>acc
 | o::r=>pq (acc++[uJ acc (edgesOf o)]) r
theorem UO{acc es:List Nat}{j:Nat}(h:(uJ acc es).testBit j=true):∃e∈es,j=e∨(acc.getD e 0).testBit j=true:=by
 induction es with
 | nil=>simp [uJ] at h
 | cons e es ih =>
  simp only[uJ,List.foldr_cons,Nat.testBit_or,Bool.or_eq_true,Nat.testBit_two_pow,decide_eq_true_eq] at h
  rcases h with h|h|h
  ·obtain⟨e',h1,h2⟩:=ih h
   exact⟨e',by simp [h1],h2⟩
  ·exact⟨e,by simp,.inl h.symm⟩
  ·exact⟨e,by simp,.inr h⟩
theorem KF:∀(l:List Oper) (acc:List Nat) (i:Nat),i<acc.length→(pq acc l).getD i 0=acc.getD i 0:=by
 intro l
 induction l with
 | nil=>intro acc i _;rfl
 | cons o r ih =>
  intro acc i hi
  rw[pq,ih _ i (by simp;omega)]
  simp [List.getD,List.getElem?_append_left hi]
theorem uK(D:Nat→Prop):∀(l:List Oper) (acc:List Nat),(∀k j,D k→(acc.getD k 0).testBit j=true→D j) →
  (∀k o,l[k]?=some o→D (acc.length+k)→∀e∈edgesOf o,D e)→∀k o,l[k]?=some o→(∀e∈edgesOf o,D e)→∀j,((pq acc l).getD (acc.length+k) 0).testBit j=true→D j:=by
 intro l
 induction l with
 | nil=>intro acc _ _ k o h;simp at h
 | cons o r ih =>
  intro acc hinv hcl k o' hk he j hj
  have hm:∀j,(∀e∈edgesOf o,D e)→(uJ acc (edgesOf o)).testBit j=true→D j:=by
   intro j he hj
   obtain⟨e,h1,h2⟩:=UO hj
   rcases h2 with rfl|h2
   ·exact he _ h1
   ·exact hinv e j (he e h1) h2
  cases k with
  | zero =>
   simp only[List.getElem?_cons_zero,Option.some.injEq] at hk
   subst hk
   rw[pq,Nat.add_zero,KF _ _ _ (by simp)] at hj
   simp only[List.getD,List.getElem?_append_right (Nat.le_refl _),Nat.sub_self,List.getElem?_cons_zero,Option.getD_some] at hj
   exact hm j he hj
  | succ k =>
   simp only[List.getElem?_cons_succ] at hk
   refine ih (acc++[uJ acc (edgesOf o)]) ?_ ?_ k o' hk he j (by rw[pq] at hj;simpa [Nat.add_assoc,Nat.add_comm 1 k] using hj)
   ·intro i j hi hj
    rcases Nat.lt_trichotomy i acc.length with hlt|heq|hgt
    ·simp only[List.getD,List.getElem?_append_left hlt] at hj
     exact hinv i j hi hj
    ·subst heq
     simp only[List.getD,List.getElem?_append_right (Nat.le_refl _),Nat.sub_self,List.getElem?_cons_zero,Option.getD_some] at hj
     exact hm j (hcl 0 o (by simp) (by simpa using hi)) hj
    ·simp [List.getD,List.getElem?_eq_none (show (acc++[uJ acc (edgesOf o)]).length≤i by simp;omega)] at hj
   ·intro i o2 hi hD
    refine hcl (i+1) o2 (by simpa using hi) ?_
    simpa [Nat.add_assoc,Nat.add_comm 1 i] using hD
def EJ(dsts:List (Option Nat))(b:List Nat):List Ent→Bool
 | []=>true
 | x::r=>(r.all fun y=>(b.getD y.1 0).testBit x.1||xB dsts x y)&&EJ dsts b r
def iE(k:Nat):List Oper→List Kd→List Ent
 | o::os,κ::ks=>(k,o,κ)::iE (k+1) os ks
 | _,_=>[]
def xC(ops:List Oper)(ks:List Kd):Bool :=
 ops.length == ks.length&&(ops.zipIdx.all fun x=>(edgesOf x.1).all fun e=>decide (e<x.2))&&EJ (ops.map (·.dst)) (pq [] ops) (iE 0 ops ks)
def nV(P:Program)[Tb P](dsts:List (Option Nat))(ops:List Oper)(K:St→Prop):List Oper→List Kd→St→Prop
 | [],ks,s=>xC ops ks.reverse=true∧K s
 | o::rest,ks,s =>
  match o.guard with
  | none=>aA P s o (fun κ s'=>nV P dsts ops K rest (κ::ks) s')
  | some (j,want)=>match gq s dsts j with
   | some (.c (.bool b))=>if b=want then aA P s o (fun κ s'=>nV P dsts ops K rest (κ::ks) s') else nV P dsts ops K rest (.p::ks) (s.put o.dst (.c undef))
   | some (.c _)=>nV P dsts ops K rest (.p::ks) (s.put o.dst (.c undef))
   | _=>False
def yQ(P:Program)[Tb P](ops:Array Oper)(K:St→Prop)(s:St):Prop:=nV P (ops.toList.map (·.dst)) ops.toList K ops.toList [] s
section
variable {P:Program} [Tb P] {dsts:List (Option Nat)} {s s':St} {o:Oper}
theorem Ij{ops:List Oper}{K:St→Prop}:∀(rest:List Oper) (ks:List Kd) (k:Nat) (s:St),nV P dsts ops K rest ks s →
  ∃ks' s',rest.length=ks'.length∧uI P dsts (iE k rest ks') s s'∧xC ops (ks.reverse++ks')=true∧K s':=by
 intro rest
 induction rest with
 | nil=>intro ks k s h;exact⟨[],s,rfl,rfl,by simpa using h.1,h.2⟩
 | cons o rest ih =>
  intro ks k s h
  have step:aA P s o (fun κ s'=>nV P dsts ops K rest (κ::ks) s')→(∀κ s',aA P s o (fun k s1=>k=κ∧s1=s')→ji P dsts o κ s s') →
    ∃ks' s',(o::rest).length=ks'.length∧uI P dsts (iE k (o::rest) ks') s s'∧xC ops (ks.reverse++ks')=true∧K s':=by
   intro h hd
   obtain⟨κ,s1,h1,h2⟩:=vN h
   obtain⟨ks',s',h3,h4,h5,h6⟩:=ih (κ::ks) (k+1) s1 h2
   exact⟨κ::ks',s',by simp [h3],⟨s1,.inl (hd κ s1 h1),h4⟩,by simpa using h5,h6⟩
  unfold nV at h
  split at h
  ·rename_i hg
   exact step h (fun κ s' h=>by unfold ji;rw[hg];exact h)
  ·rename_i j want hg
   split at h
   ·rename_i b hb
    split at h
    ·rename_i hbw
     exact step h (fun κ s' h=>by unfold ji;rw[hg];exact .inl ⟨b,hb,by rw[if_pos hbw];exact h⟩)
    ·rename_i hbw
     obtain⟨ks',s',h3,h4,h5,h6⟩:=ih (.p::ks) (k+1) _ h
     exact⟨.p::ks',s',by simp [h3],⟨_,.inl (by unfold ji;rw[hg];exact .inl ⟨b,hb,by rw[if_neg hbw];exact⟨rfl,rfl⟩⟩),h4⟩,by simpa using h5,h6⟩
   ·rename_i v hnb hb
    obtain⟨ks',s',h3,h4,h5,h6⟩:=ih (.p::ks) (k+1) _ h
    exact⟨.p::ks',s',by simp [h3],⟨_,.inl (by unfold ji;rw[hg];exact .inr ⟨v,hb,fun b e=>hnb b (by rw[e]),rfl,rfl⟩),h4⟩,by simpa using h5,h6⟩
   ·cases h
theorem DW{C:Cx}(hT:C.TOk P){ops:Array Oper}{i:Nat}{κ:Kd}{L:Lay}{a:Act}{w:World}{K:Act→World→Prop}{Q:Exit→Act→World→Prop}(ho:ops[i]?=some o)(h:ji P (ops.toList.map (·.dst)) o κ s s')(S:Sim C s L a w)
  (hd:∀t,o.dst=some t→t<C.n) (hK:∀L' a' w',Sim C s' L' a' w'→K a' w'):wpOp P ops Q i K a w:=by
 unfold wpOp
 rw[ho]
 simp only
 unfold ji at h
 split at h
 ·rename_i hg
  rw[if_pos (by simp [Region.wanted,hg])]
  exact .inl (lJ h hT S hd (fun κ' s1 L' a' w' h' S'=>by obtain⟨_,rfl⟩:=h';exact hK L' a' w' S'))
 ·rename_i j want hg
  rcases h with ⟨b,hb,h⟩|⟨v,hb,hnb,_,rfl⟩
  case inr =>
   rw[if_neg (by simp [Region.wanted,hg,uG S hb hnb])]
   exact hK L _ _ (S.put (v := .c undef) rfl hd)
  have hy:=oP S hb
  split at h
  ·rename_i hbw
   rw[if_pos (by simp [Region.wanted,hg,hy,hbw])]
   exact .inl (lJ h hT S hd (fun κ' s1 L' a' w' h' S'=>by obtain⟨_,rfl⟩:=h';exact hK L' a' w' S'))
  ·rename_i hbw
   obtain⟨_,rfl⟩:=h
   rw[if_neg (by simp [Region.wanted,hg,hy,hbw])]
   exact hK L _ _ (S.put (v := .c undef) rfl hd)
theorem UQ{C:Cx}(hT:C.TOk P){ops:Array Oper}{i:Nat}{κ:Kd}{L:Lay}{a:Act}{w:World}{K:Act→World→Prop}{Q:Exit→Act→World→Prop}(ho:ops[i]?=some o)(h:dK P (ops.toList.map (·.dst)) o κ s s')(S:Sim C s L a w)
  (hd:∀t,o.dst=some t→t<C.n) (hK:∀L' a' w',Sim C s' L' a' w'→K a' w'):wpOp P ops Q i K a w:=by
 rcases h with h|⟨hg,v,hv,_,rfl⟩
 ·exact DW hT ho h S hd hK
 ·unfold wpOp
  rw[ho]
  simp only
  rw[if_pos (by simp [Region.wanted,hg])]
  obtain⟨u,w',L',h1,h2,h3⟩:=UM hv S
  exact .inl (h1.wp (hK L' _ _ (h2.put h3 hd)))
theorem yR:∀(os:List Oper) (ks:List Kd) (k:Nat) (x:Ent),x∈iE k os ks→k≤x.1∧os[x.1-k]?=some x.2.1:=by
 intro os
 induction os with
 | nil=>intro ks k x h;simp [iE] at h
 | cons o os ih =>
  intro ks k x h
  cases ks with
  | nil=>simp [iE] at h
  | cons κ ks =>
   simp only[iE,List.mem_cons] at h
   rcases h with rfl|h
   ·simp
   ·obtain⟨h1,h2⟩:=ih ks (k+1) x h
    refine⟨by omega, ?_⟩
    rw[show x.1-k=(x.1-(k+1))+1 by omega]
    simpa using h2
theorem vV:∀(os:List Oper) (ks:List Kd) (k:Nat),os.length=ks.length→(iE k os ks).map (·.1)=List.range' k os.length:=by
 intro os
 induction os with
 | nil=>intro ks k h;cases ks<;>rfl
 | cons o os ih =>
  intro ks k h
  cases ks with
  | nil=>simp at h
  | cons κ ks=>simp only[iE,List.map_cons,List.length_cons,List.range'_succ];rw[ih ks (k+1) (by simpa using h)]
theorem vW{b:List Nat}:∀{l:List Ent},EJ dsts b l=true→l.Pairwise fun x y=>((b.getD y.1 0).testBit x.1||xB dsts x y)=true:=by
 intro l
 induction l with
 | nil=>intro _;exact .nil
 | cons x r ih =>
  intro h
  simp only[EJ,Bool.and_eq_true] at h
  exact .cons (fun y hy=>List.all_eq_true.1 h.1 y hy) (ih h.2)
theorem DX{C:Cx}(hT:C.TOk P){ops:Array Oper}{Q:Exit→Act→World→Prop}(hidx:∀i o,ops[i]?=some o→∀e∈edgesOf o,e<i)(hd:∀o∈ops.toList,∀t,o.dst=some t→t<C.n)
  (hQ:∀L a w,Sim C s' L a w→Q .normal a w):∀(fuel:Nat) (l:List Ent) (listed:Array Bool) (s:St) (L:Lay) (a:Act) (w:World),l.length≤fuel→listed.size=ops.size →
  (∀x∈l,ops[x.1]?=some x.2.1∧listed.getD x.1 true=false)→(∀i,i<ops.size→listed.getD i true=false→∃x∈l,x.1=i)→(l.map (·.1)).Pairwise (·<·) →
  (∀i o,ops[i]?=some o→listed.getD i false=true→∀e∈edgesOf o,listed.getD e false=true) →
  l.Pairwise (fun x y=>((((pq [] ops.toList).getD y.1 0).testBit x.1)||xB (ops.toList.map (·.dst)) x y)=true) →
  uI P (ops.toList.map (·.dst)) l s s'→Sim C s L a w→wpAny P .any ops Q fuel listed a w:=by
 intro fuel
 induction fuel with
 | zero =>
  intro l listed s L a w hlen hsz hmem hall hsort hcl hpair hch S
  have hl:l=[]:=List.eq_nil_of_length_eq_zero (by omega)
  subst hl
  have hss:s=s':=hch
  subst hss
  refine⟨?_,hQ L a w S⟩
  rw[List.eq_nil_iff_forall_not_mem]
  intro i hi
  obtain⟨h0,o,ho,_⟩:=mem_ready.1 hi
  obtain⟨x,hx,_⟩:=hall i (by have:=(Array.getElem?_eq_some_iff.1 ho).1;exact this) h0
  cases hx
 | succ fuel ih =>
  intro l listed s L a w hlen hsz hmem hall hsort hcl hpair hch S
  refine⟨fun hno => ?_,fun i hi => ?_⟩
  ·
   cases l with
   | nil=>have hss:s=s':=hch;subst hss;exact hQ L a w S
   | cons x r =>
    exfalso
    obtain⟨h1,h2⟩:=hmem x (by simp)
    have:x.1∈Region.ready .any ops listed:=by
     refine mem_ready.2 ⟨h2,x.2.1,h1,fun e he hb => ?_⟩
     have hlt:=hidx x.1 x.2.1 h1 e.on (by simp [edgesOf];exact⟨e,⟨by simpa using he,hb⟩,rfl⟩)
     have hx1:x.1<ops.size:=(Array.getElem?_eq_some_iff.1 h1).1
     cases hle:listed.getD e.on false with
     | true=>rfl
     | false =>
      exfalso
      have hle':listed.getD e.on true=false:=by
       have:e.on<listed.size:=by omega
       simpa [Array.getD,this] using hle
      obtain⟨y,hy,hye⟩:=hall e.on (by omega) hle'
      rcases List.mem_cons.1 hy with rfl|hy
      ·omega
      ·have:=(List.pairwise_cons.1 (by simpa using hsort)).1 y.1 (List.mem_map.2 ⟨y,hy,rfl⟩)
       omega
    rw[hno] at this
    cases this
  ·obtain⟨h0,o,ho,hedge⟩:=mem_ready.1 hi
   have hisz:i<ops.size:=(Array.getElem?_eq_some_iff.1 ho).1
   obtain⟨x,hx,rfl⟩:=hall i hisz h0
   obtain⟨l1,l2,rfl⟩:=List.append_of_mem hx
   have hxo:x.2.1=o:=by
    have:=(hmem x hx).1
    rw[ho] at this
    simpa using this.symm
   have hbes:∀y∈l1,xB (ops.toList.map (·.dst)) y x=true:=by
    intro y hy
    have h1:=(List.pairwise_append.1 hpair).2.2 y hy x (by simp)
    simp only[Bool.or_eq_true] at h1
    rcases h1 with h1|h1
    ·exfalso
     have hcl':=uK (fun i=>listed.getD i false=true) ops.toList [] (fun k j _ h=>by simp at h)
      (fun k o hk hD e he=>hcl k o (by simpa using hk) (by simpa using hD) e he) x.1 o (by simpa using ho)
      (fun e he=>by
       simp only[edgesOf,List.mem_map,List.mem_filter] at he
       obtain⟨e',⟨h2,h3⟩,rfl⟩:=he
       exact hedge e' (by simpa using h2) h3) y.1 (by simpa using h1)
     have h2:=(hmem y (by simp [hy])).2
     have h3:y.1<listed.size:=by
      have:=(Array.getElem?_eq_some_iff.1 (hmem y (by simp [hy])).1).1;omega
     simp [Array.getD,h3] at hcl' h2
     rw[h2] at hcl'
     cases hcl'
    ·exact h1
   obtain⟨s1,jZ,hrest⟩:=Ii hch hbes
   rw[hxo] at jZ
   refine UQ hT ho jZ S (hd o (by rw[←Array.mem_toList_iff.symm];exact Array.mem_of_getElem? ho)) (fun L' a' w' S' => ?_)
   have hne:∀y∈l1++l2,y.1≠x.1:=by
    intro y hy
    rw[List.map_append,List.map_cons] at hsort
    have hp:=List.pairwise_append.1 hsort
    rcases List.mem_append.1 hy with hy|hy
    ·have:=hp.2.2 y.1 (List.mem_map.2 ⟨y,hy,rfl⟩) x.1 (by simp);omega
    ·have:=(List.pairwise_cons.1 hp.2.1).1 y.1 (List.mem_map.2 ⟨y,hy,rfl⟩);omega
   refine ih (l1++l2) (listed.setIfInBounds x.1 true) s1 L' a' w' (by simp at hlen ⊢;omega) (by simp [hsz]) ?_ ?_ ?_ ?_ ?_ hrest S'
   ·intro y hy
    obtain⟨h4,h5⟩:=hmem y (by rcases List.mem_append.1 hy with h|h<;>simp [h])
    exact⟨h4,by rw[getD_set_ne true (Ne.symm (hne y hy))];exact h5⟩
   ·intro j hj hjl
    by_cases hji:j=x.1
    ·subst hji
     have:x.1<listed.size:=by omega
     simp [Array.getD,this] at hjl
    ·rw[getD_set_ne true (fun e=>hji e.symm)] at hjl
     obtain⟨y,hy,rfl⟩:=hall j hj hjl
     refine⟨y, ?_,rfl⟩
     rcases List.mem_append.1 hy with hy|hy
     ·simp [hy]
     ·rcases List.mem_cons.1 hy with rfl|hy
      ·exact absurd rfl hji
      ·simp [hy]
   ·exact hsort.sublist (by simp only[List.map_append,List.map_cons];exact (List.Sublist.refl _).append (List.sublist_cons_self _ _))
   ·intro j o' hj hjl e he
    by_cases hji:j=x.1
    ·subst hji
     rw[ho] at hj
     simp only[Option.some.injEq] at hj
     subst hj
     simp only[edgesOf,List.mem_map,List.mem_filter] at he
     obtain⟨e',⟨h2,h3⟩,rfl⟩:=he
     exact getD_set_true (hedge e' (by simpa using h2) h3)
    ·rw[getD_set_ne false (fun e=>hji e.symm)] at hjl
     exact getD_set_true (hcl j o' hj hjl e he)
   ·exact hpair.sublist ((List.Sublist.refl _).append (List.sublist_cons_self _ _))
def dC(cuts:List Nat):Dw:=⟨fun P _ ops K s=>yQ P ops K s,cuts,[]⟩
instance (cuts:List Nat):Plain (dC cuts):=⟨rfl⟩
theorem rH(cuts:List Nat)(hm:P.follows .mixedOrders=true):jE P (dC cuts):=by
 intro id C ops K Q s L a w hT hfit hQK h S
 simp only[dC] at h
 unfold yQ at h
 obtain⟨ks,s',hlen,hch,hchk,hK⟩:=Ij ops.toList [] 0 s h
 simp only[List.reverse_nil,List.nil_append,xC,Bool.and_eq_true] at hchk
 obtain⟨⟨_,hidx⟩,hpairs⟩:=hchk
 have S1:Sim C s L a { w with drawn:=w.drawn+1 }:=by
  have K:o7 L L w w.drew:=⟨rfl,fun g h=>⟨h,.of rfl⟩,fun id e _ g h=>⟨⟨rfl,h⟩,rfl⟩,fun _ _ _ h=>⟨h,.of rfl⟩⟩
  exact⟨S.defers,S.size,fun t=>(S.env t).whole K,fun t=>(S.hid t).whole K,fun b cs h=>by obtain⟨g,arr,h1,h2,h3⟩:=S.box b cs h;exact⟨g,arr,h1,h2,h3.whole K⟩,S.wf.mono (Nat.le_refl _) (Nat.le_refl _),S.kp.drew⟩
 have hnums:=vV ops.toList ks 0 (by simpa using hlen)
 refine wp_region_any hm (DX hT (s':=s') ?_ (jT hfit) (fun L a w S'=>⟨s',L,by rw[hQK];exact hK,S'⟩) ops.size (iE 0 ops.toList ks) (Array.replicate ops.size false) s L a _ ?_ (by simp) ?_ ?_ ?_ ?_ (vW hpairs) hch S1)
 ·intro i o ho e he
  have hm:(o,i)∈ops.toList.zipIdx:=by
   rw[List.mem_zipIdx_iff_getElem?]
   simpa using ho
  have:=List.all_eq_true.1 (List.all_eq_true.1 hidx (o,i) hm) e he
  simpa using this
 ·have:(iE 0 ops.toList ks).length=ops.size:=by
   have:=congrArg List.length hnums
   simpa using this
  omega
 ·intro x hx
  obtain⟨_,h2⟩:=yR ops.toList ks 0 x hx
  simp only[Nat.sub_zero,Array.getElem?_toList] at h2
  have hlt:=(Array.getElem?_eq_some_iff.1 h2).1
  exact⟨h2,by simp [Array.getD,hlt]⟩
 ·intro i hi _
  have:i∈(iE 0 ops.toList ks).map (·.1):=by
   rw[hnums];simp;exact hi
  obtain⟨x,hx,rfl⟩:=List.mem_map.1 this
  exact⟨x,hx,rfl⟩
 ·rw[hnums]
  exact List.pairwise_lt_range'
 ·intro i o ho hl
  have hlt:=(Array.getElem?_eq_some_iff.1 ho).1
  simp [Array.getD,hlt] at hl
theorem dw(hm:P.follows .mixedOrders=true):jE P (dC []):=rH [] hm
end
def UR(P:Program)[Tb P](F:Nat→Bool)(s:St)(o:Oper)(K:Kd→St→Prop):Prop :=
 match o.dst with
 | some d=>bif F d then kz (mvE P s o.op) s (some d) (jU s o) K else aA P s o K
 | none=>aA P s o K
def nX(P:Program)[Tb P](F:Nat→Bool)(dsts:List (Option Nat))(ops:List Oper)(K:St→Prop):List Oper→List Kd→St→Prop
 | [],ks,s=>xC ops ks.reverse=true∧K s
 | o::rest,ks,s =>
  match o.guard with
  | none=>UR P F s o (fun κ s'=>nX P F dsts ops K rest (κ::ks) s')
  | some (j,want)=>match gq s dsts j with
   | some (.c (.bool b))=>if b=want then aA P s o (fun κ s'=>nX P F dsts ops K rest (κ::ks) s') else nX P F dsts ops K rest (.p::ks) (s.put o.dst (.c undef))
   | some (.c _)=>nX P F dsts ops K rest (.p::ks) (s.put o.dst (.c undef))
   | _=>False
def UT(P:Program)[Tb P](F:Nat→Bool)(ops:Array Oper)(K:St→Prop)(s:St):Prop:=nX P F (ops.toList.map (·.dst)) ops.toList K ops.toList [] s
theorem ZO{P:Program}[Tb P]{F:Nat→Bool}{s:St}{o:Oper}{K:Kd→St→Prop}(hg:o.guard=none)(h:UR P F s o K)(dsts:List (Option Nat)):∃κ s',dK P dsts o κ s s'∧K κ s':=by
 unfold UR at h
 have yY:aA P s o K→∃κ s',dK P dsts o κ s s'∧K κ s':=by
  intro h
  obtain⟨κ,s1,h1,h2⟩:=vN h
  exact⟨κ,s1,.inl (by unfold ji;rw[hg];exact h1),h2⟩
 split at h
 ·rename_i d hd
  cases hF:F d with
  | false=>rw[hF] at h;exact yY h
  | true =>
   rw[hF] at h
   simp only[cond_true] at h
   unfold kz at h
   split at h
   ·rename_i r hr
    exact⟨_,_,.inr ⟨hg,r,hr,rfl,rfl⟩,by rw[hd];exact h⟩
   ·cases h
 ·exact yY h
theorem Ik{P:Program}[Tb P]{F:Nat→Bool}{dsts:List (Option Nat)}{ops:List Oper}{K:St→Prop}:∀(rest:List Oper) (ks:List Kd) (k:Nat) (s:St),nX P F dsts ops K rest ks s →
  ∃ks' s',rest.length=ks'.length∧uI P dsts (iE k rest ks') s s'∧xC ops (ks.reverse++ks')=true∧K s':=by
 intro rest
 induction rest with
 | nil=>intro ks k s h;exact⟨[],s,rfl,rfl,by simpa using h.1,h.2⟩
 | cons o rest ih =>
  intro ks k s h
  unfold nX at h
  split at h
  ·rename_i hg
   obtain⟨κ,s1,h1,h2⟩:=ZO hg h dsts
   obtain⟨ks',s',h3,h4,h5,h6⟩:=ih (κ::ks) (k+1) s1 h2
   exact⟨κ::ks',s',by simp [h3],⟨s1,h1,h4⟩,by simpa using h5,h6⟩
  ·rename_i j want hg
   split at h
   ·rename_i b hb
    split at h
    ·rename_i hbw
     obtain⟨κ,s1,h1,h2⟩:=vN h
     obtain⟨ks',s',h3,h4,h5,h6⟩:=ih (κ::ks) (k+1) s1 h2
     exact⟨κ::ks',s',by simp [h3],⟨s1,.inl (by unfold ji;rw[hg];exact .inl ⟨b,hb,by rw[if_pos hbw];exact h1⟩),h4⟩,by simpa using h5,h6⟩
    ·rename_i hbw
     obtain⟨ks',s',h3,h4,h5,h6⟩:=ih (.p::ks) (k+1) _ h
     exact⟨.p::ks',s',by simp [h3],⟨_,.inl (by unfold ji;rw[hg];exact .inl ⟨b,hb,by rw[if_neg hbw];exact⟨rfl,rfl⟩⟩),h4⟩,by simpa using h5,h6⟩
   ·rename_i v hnb hb
    obtain⟨ks',s',h3,h4,h5,h6⟩:=ih (.p::ks) (k+1) _ h
    exact⟨.p::ks',s',by simp [h3],⟨_,.inl (by unfold ji;rw[hg];exact .inr ⟨v,hb,fun b e=>hnb b (by rw[e]),rfl,rfl⟩),h4⟩,by simpa using h5,h6⟩
   ·cases h
def dF(F:Nat→Bool)(cuts:List Nat):Dw:=⟨fun P _ ops K s=>UT P F ops K s,cuts,[]⟩
instance (F:Nat→Bool) (cuts:List Nat):Plain (dF F cuts):=⟨rfl⟩
theorem UU{P:Program}[Tb P](F:Nat→Bool)(cuts:List Nat)(hm:P.follows .mixedOrders=true):jE P (dF F cuts):=by
 intro id C ops K Q s L a w hT hfit hQK h S
 simp only[dF] at h
 unfold UT at h
 obtain⟨ks,s',hlen,hch,hchk,hK⟩:=Ik ops.toList [] 0 s h
 simp only[List.reverse_nil,List.nil_append,xC,Bool.and_eq_true] at hchk
 obtain⟨⟨_,hidx⟩,hpairs⟩:=hchk
 have S1:Sim C s L a { w with drawn:=w.drawn+1 }:=by
  have K:o7 L L w w.drew:=⟨rfl,fun g h=>⟨h,.of rfl⟩,fun id e _ g h=>⟨⟨rfl,h⟩,rfl⟩,fun _ _ _ h=>⟨h,.of rfl⟩⟩
  exact⟨S.defers,S.size,fun t=>(S.env t).whole K,fun t=>(S.hid t).whole K,fun b cs h=>by obtain⟨g,arr,h1,h2,h3⟩:=S.box b cs h;exact⟨g,arr,h1,h2,h3.whole K⟩,S.wf.mono (Nat.le_refl _) (Nat.le_refl _),S.kp.drew⟩
 have hnums:=vV ops.toList ks 0 (by simpa using hlen)
 refine wp_region_any hm (DX hT (s':=s') ?_ (jT hfit) (fun L a w S'=>⟨s',L,by rw[hQK];exact hK,S'⟩) ops.size (iE 0 ops.toList ks) (Array.replicate ops.size false) s L a _ ?_ (by simp) ?_ ?_ ?_ ?_ (vW hpairs) hch S1)
 ·intro i o ho e he
  have hm:(o,i)∈ops.toList.zipIdx:=by
   rw[List.mem_zipIdx_iff_getElem?]
   simpa using ho
  have:=List.all_eq_true.1 (List.all_eq_true.1 hidx (o,i) hm) e he
  simpa using this
 ·have:(iE 0 ops.toList ks).length=ops.size:=by
   have:=congrArg List.length hnums
   simpa using this
  omega
 ·intro x hx
  obtain⟨_,h2⟩:=yR ops.toList ks 0 x hx
  simp only[Nat.sub_zero,Array.getElem?_toList] at h2
  have hlt:=(Array.getElem?_eq_some_iff.1 h2).1
  exact⟨h2,by simp [Array.getD,hlt]⟩
 ·intro i hi _
  have:i∈(iE 0 ops.toList ks).map (·.1):=by
   rw[hnums];simp;exact hi
  obtain⟨x,hx,rfl⟩:=List.mem_map.1 this
  exact⟨x,hx,rfl⟩
 ·rw[hnums]
  exact List.pairwise_lt_range'
 ·intro i o ho hl
  have hlt:=(Array.getElem?_eq_some_iff.1 ho).1
  simp [Array.getD,hlt] at hl
end Go.Pg
end
