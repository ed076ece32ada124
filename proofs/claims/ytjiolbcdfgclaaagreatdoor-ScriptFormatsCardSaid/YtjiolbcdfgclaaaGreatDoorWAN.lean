/-
  Texts of this claim, merged; own names are short.
-/
import Derived.Test.YtjiolbcdfgclaaaGreatDoorWAM
import Derived.Test.YtjiolbcdfgclaaaGreatDoorWAL
import Derived.Test.YtjiolbcdfgclaaaGreatDoorWAI
set_option linter.unusedVariables false
set_option linter.unusedSimpArgs false
set_option linter.unusedSectionVars false
set_option linter.defProp false
set_option maxRecDepth 100000
set_option maxHeartbeats 8000000
namespace Go.Proofs.YtjiolbcdfgclaaaGreatDoor
open Go Go.Pg
theorem KX:∀c,c<256→ixB yC c=nib c:=by decide
theorem aax:∀c,c<256→0≤nib c→hx (nib c).toNat=c:=by decide
def uP(l:List Nat):Option (List Nat) :=
 if oV l [37]=true then (if (l.drop 1).length%2≠0 then none else if okB (l.drop 1) ((l.drop 1).length / 2)=true then some (prs (l.drop 1) ((l.drop 1).length / 2)) else none) else some l
def pkP(l:List Nat):List Nat × Nat :=
 match uP l with
 | none=>([],1)
 | some k=>if (fk k).2≠0∨(fk k).1≠l then ([],1) else (k,0)
theorem pct(l:List Nat):oV l [37]=true↔0<l.length∧l.getD 0 0=37:=by
 cases l with
 | nil=>simp [oV]
 | cons a l=>simp [oV]
theorem Gh(l:List Nat)(h:kJ l=true):oV l [37]=false:=by
 rw[←Bool.not_eq_true,pct]
 rintro⟨h1,h2⟩
 cases l with
 | nil=>simp at h1
 | cons a l =>
  simp at h2
  subst h2
  simp [kJ,plC,bt,mk5] at h
theorem aay(r:List Nat)(ho:oct r):∀j,2*j≤r.length→okB r j=true→jh (prs r j)=r.take (2*j):=by
 intro j
 induction j with
 | zero=>intro _ _;rfl
 | succ j ih =>
  intro hj hok
  rw[yE,Bool.and_eq_true] at hok
  have h1:=ih (by omega) hok.1
  have h2:=hok.2
  unfold okP at h2
  simp only[Bool.and_eq_true,decide_eq_true_eq] at h2
  have b1:=gW ho (2*j)
  have b2:=gW ho (2*j+1)
  have n1:=qK (r.getD (2*j) 0)
  have n2:=qK (r.getD (2*j+1) 0)
  have e1:=aax _ b1 h2.1
  have e2:=aax _ b2 h2.2
  have e3:prB r j / 16=(nib (r.getD (2*j) 0)).toNat:=by unfold prB;omega
  have e4:prB r j%16=(nib (r.getD (2*j+1) 0)).toNat:=by unfold prB;omega
  rw[DL]
  have:jh (prs r j++[prB r j])=jh (prs r j)++[hx (prB r j / 16),hx (prB r j%16)]:=by simp [jh]
  rw[this,h1,e3,e4,e1,e2]
  rw[show 2*(j+1)=2*j+1+1 by omega,List.take_succ_eq_append_getElem (show 2*j+1<r.length by omega),List.take_succ_eq_append_getElem (show 2*j<r.length by omega)]
  have g1:r.getD (2*j) 0=r[2*j]'(by omega):=by simp [List.getD,show 2*j<r.length by omega]
  have g2:r.getD (2*j+1) 0=r[2*j+1]'(by omega):=by simp [List.getD,show 2*j+1<r.length by omega]
  rw[g1,g2,List.append_assoc]
  rfl
theorem aaz(l:List Nat)(ho:oct l):pkP l=pk l:=by
 unfold pkP uP
 cases hp:oV l [37]
 ·have hn:¬(0<l.length∧l.getD 0 0=37):=fun h=>by rw[←pct,hp] at h;cases h
  simp only[Bool.false_eq_true,if_false]
  unfold pk fk
  cases h1:fH l<;>cases h2:kJ l<;>simp only[Bool.and_true,Bool.and_false,Bool.false_and,Bool.true_and,Bool.false_eq_true,if_true,if_false,ne_eq,not_true_eq_false,or_false,false_or]
  ·by_cases h0:l.length=0
   ·rw[if_pos h0,if_pos (.inl (by decide))]
   ·have:l.getD 0 0≠37:=fun h=>hn ⟨by omega,h⟩
    rw[if_neg h0,if_pos this,if_pos (.inl (by decide))]
  ·by_cases h0:l.length=0
   ·rw[if_pos h0,if_pos (.inl (by decide))]
   ·have:l.getD 0 0≠37:=fun h=>hn ⟨by omega,h⟩
    rw[if_neg h0,if_pos this,if_pos (.inl (by decide))]
  ·have hl:=BP h1
   have:l.getD 0 0≠37:=fun h=>hn ⟨by omega,h⟩
   have hne:¬(37::jh l=l):=by
    intro h
    apply this
    rw[←h]
    rfl
   have h0:¬l.length=0:=by omega
   rw[if_pos (.inr (by simpa using hne)),if_neg h0,if_pos this]
  ·simp
 ·obtain⟨h1,h2⟩:=(pct l).1 hp
  have hpl:kJ l=false:=by
   cases h:kJ l
   ·rfl
   ·have:=Gh l h;rw[hp] at this;cases this
  unfold pk
  rw[hpl,Bool.and_false]
  simp only[if_true,Bool.false_eq_true,if_false]
  rw[if_neg (show ¬l.length=0 by omega),if_neg (show ¬l.getD 0 0≠37 from fun h=>h h2)]
  by_cases h5:(l.drop 1).length%2≠0
  ·rw[if_pos h5]
   cases h4:okB (l.drop 1) ((l.drop 1).length / 2)
   ·rw[if_pos rfl]
   ·rw[if_neg (by simp),if_pos h5]
  ·rw[if_neg h5]
   cases h4:okB (l.drop 1) ((l.drop 1).length / 2)
   ·rw[if_neg (by simp),if_pos rfl]
   ·rw[if_pos rfl,if_neg (by simp),if_neg h5]
    simp only
    have hx:=aay (l.drop 1) (Dp ho 1) ((l.drop 1).length / 2) (by omega) h4
    have hk:37::jh (prs (l.drop 1) ((l.drop 1).length / 2))=l:=by
     rw[hx,List.take_of_length_le (by omega)]
     cases l with
     | nil=>simp at h1
     | cons a l=>simp at h2;simp [h2]
    generalize prs (l.drop 1) ((l.drop 1).length / 2)=k at hk
    unfold fk
    cases h6:fH k
    ·simp
    ·cases h7:kJ k
     ·simp [hk]
     ·have hne:k≠l:=by
       intro h;subst h
       rw[h7] at hpl;cases hpl
      simp [hne]
theorem Vm{l k:List Nat}(ho:oct l)(hl:l.length≤140737488355328)(h:uP l=some k):oct k∧k.length≤140737488355328:=by
 unfold uP at h
 split at h
 ·split at h
  ·cases h
  ·split at h
   ·simp only[Option.some.injEq] at h
    subst h
    exact⟨afd _ _,by rw[yG,List.length_drop];omega⟩
   ·cases h
 ·simp only[Option.some.injEq] at h
  subst h
  exact⟨ho,hl⟩
theorem anM(a b:List Nat)(ha:oct a)(hb:oct b):decide (sB a=sB b)=decide (a=b):=sJ ha hb
theorem Pn{k:List Nat}(ho:oct k):oct (fk k).1:=by
 unfold fk
 split
 ·exact dV
 ·split
  ·exact ho
  ·exact pM (by omega) (yD _)
theorem ajg(l:List Nat)(ho:oct l)(hl:l.length≤140737488355328):Gxx 145 [.c (.string (sB l))] (pkV l):=by
 refine gI (oW [15]) Tryz.func145 Tryz.results145 ?_
 have g1:=ZX l [37] ho (nK (by omega))
 unfold pkV
 rw[←aaz l ho]
 unfold pkP
 refine wS (aI @qR @alr) trivial ?_
 refine BJ _ (fun k=>mkA [(0,.c (.string (sB l))),(4,.c (.string (sB k)))] [] 0 (fun _ => .top)) (fun k=>uP l=some k) rfl ?_ ?_
 ·intro k hk
  obtain⟨hko,hkl⟩:=Vm ho hl hk
  have g2:=aan k hko
  have hfo:=Pn hko
  rw[hk]
  simp only
  by_cases h1:(fk k).2=0
  ·have e1:(((fk k).2:Nat):Int)=0:=by omega
   by_cases h2:(fk k).1=l
   ·rw[if_neg (by simp [h1,h2])]
    unfold fkV at g2
    rw[e1,h2] at g2
    exact wR @qR g2 ah
   ·rw[if_pos (.inr h2)]
    unfold fkV at g2
    rw[e1] at g2
    exact wR (aI @qR (anM _ _ hfo ho)) g2 ah
  ·rw[if_pos (.inl h1)]
   unfold fkV at g2
   exact wR @qR g2 ah
 ·rcases xh l [37] with ⟨hp,h2⟩|⟨hp,h2⟩
  ·rw[h2] at g1
   have hro:=Dp ho 1
   have e5:((l.drop 1).length:Int).tmod 2=(((l.drop 1).length%2:Nat):Int):=rfl
   have hkk:uP l=if (l.drop 1).length%2≠0 then none else if okB (l.drop 1) ((l.drop 1).length / 2)=true then some (prs (l.drop 1) ((l.drop 1).length / 2)) else none:=by unfold uP;rw[if_pos hp]
   simp only[List.length_cons,List.length_nil,Nat.zero_add] at g1
   generalize hr:l.drop 1=r at g1 hro e5 hkk
   have hrl:r.length≤140737488355328:=by rw[←hr,List.length_drop];omega
   by_cases hodd:r.length%2=0
   ·rw[if_neg (by omega)] at hkk
    refine wS (aI @qR (aI @e5 @hodd)) g1 ?_
    refine aK (fun j=>mkA [(0,.c (.string (sB l))),(5,.c (.string (sB r))),(7,.sl (.own 0 5) 1 (bv (prs r j))),(8,.c (.int .i64 (2*(j:Nat))))] [] 1 (fun _ => .top)) (fun j=>j≤r.length / 2∧okB r j=true) (fun j=>r.length / 2-j) 0 [] [] ?_ ⟨Nat.zero_le _,rfl⟩ ?_
    ·exact kE
     all_goals exact gK rfl
    ·rintro j ⟨hj,hok⟩
     have en1:(2*(j:Int)).toNat=2*j:=by omega
     have en2:(2*(j:Int)+1).toNat=2*j+1:=by omega
     rcases Nat.lt_or_ge j (r.length / 2) with hlt|hge
     ·have q1:=DJ yC (r.getD (2*j) 0) rG (gW hro _)
      have q2:=DJ yC (r.getD (2*j+1) 0) rG (gW hro _)
      rw[KX _ (gW hro _)] at q1 q2
      have hr1:=qK (r.getD (2*j) 0)
      have hr2:=qK (r.getD (2*j+1) 0)
      have hv:0≤nib (r.getD (2*j) 0)→0≤nib (r.getD (2*j+1) 0)→16*nib (r.getD (2*j) 0)+nib (r.getD (2*j+1) 0)=((prB r j:Nat):Int):=by
       intro h1 h2
       unfold prB
       omega
      have hpl:=yG r j
      cases hp:okP r j
      ·rw[if_neg (by rw[Rq hlt hp];simp)] at hkk
       unfold okP at hp
       have hp':nib (r.getD (2*j) 0)<0∨nib (r.getD (2*j+1) 0)<0:=by
        rw[←Bool.not_eq_true,Bool.and_eq_true,decide_eq_true_eq,decide_eq_true_eq] at hp
        omega
       rw[hkk]
       rcases hp' with hp'|hp'
       ·exact wR (aI @qR (aI @DK (aI @en1 @en2))) (aI q1 q2) ah
       ·exact wR (aI @qR (aI @DK (aI @en1 @en2))) (aI q1 q2) ah
      ·have hp0:=hp
       unfold okP at hp
       rw[Bool.and_eq_true,decide_eq_true_eq,decide_eq_true_eq] at hp
       have hv:=hv hp.1 hp.2
       refine wS (aI @qR (aI @DK (aI @en1 (aI @en2 @hv)))) (aI q1 q2) ?_
       (refine bL (j+1) [0] [] ⟨hlt,by rw[yE,hok,hp0];rfl⟩ ?_;refine kL ?_)
       exact aW rfl (by rw[DL,←dP];rfl)
     ·have hjn:j=r.length / 2:=by omega
      rw[←hjn,if_pos hok] at hkk
      refine wS (aI @qR @rH) trivial ?_
      refine xY (prs r j) [] [] hkk ?_
      exact kE
   ·rw[if_pos hodd] at hkk
    rw[hkk]
    exact wR (aI @qR @e5) g1 ah
  ·rw[h2] at g1
   have hkk:uP l=some l:=by unfold uP;rw[if_neg (by rw[hp];simp)]
   refine wS @qR g1 ?_
   refine xY l [] [] hkk ?_
   exact kE
def ak(n:Int):List Nat:=(Lib.itoa n).map UInt8.toNat
theorem fD(n:Int):oct (ak n):=by
 intro b hb
 obtain⟨c,_,rfl⟩:=List.mem_map.1 hb
 exact c.toNat_lt
theorem Vo(n:Int):(⟨(Lib.itoa n).toArray⟩:ByteArray)=sB (ak n):=by
 apply ByteArray.ext
 apply Array.ext'
 simp [sB,ak,Function.comp_def]
theorem aaA(n:Int)(h0 : -9223372036854775808≤n)(h1:n≤9223372036854775807):Gxx 75 [.c (.int .i64 n)] (.c (.string (sB (ak n)))):=by
 refine⟨by kernel_rfl,fun A w cargs hT hA hargs => ?_⟩
 obtain⟨_,_,rfl,rfl,rfl⟩:=hargs
 refine (Any.strconv_Itoa Tryz.laysM171 n h0 h1 w hT.1).mono ?_
 rintro e w' ⟨rfl,k,os,rfl⟩
 refine⟨_,⟨A,fun _=>none,fun _=>none⟩,rfl,by rw[Vo];rfl,⟨rfl,rfl,rfl, ?_,fun j hj _ => ?_⟩,⟨fun g h => .inl h,fun _ _ h=>(by cases h),fun _ _ _ h=>(by cases h)⟩⟩
 ·rw[Sort.size_grow];show w.heap.size≤w.heap.size+_;omega
 ·exact Sort.heap_grow_old (w.drewN k) os hj
theorem jv(n:Int)(h0 : -9223372036854775808≤n)(h1:n≤9223372036854775807):Gxx 41 [.c (.int .i64 n)] (.c (.string (sB (ak n)))):=by
 refine gI oW Tryz.func41 Tryz.results41 ?_
 exact wR trivial (aaA n h0 h1) ah
theorem ajh(n:Int)(h0 : -9223372036854775808≤n)(h1:n≤9223372036854775807):Gxx 89 [.c (.int .i64 n)] (.c (.string (sB (ak n)))):=by
 refine gI oW Tryz.func89 Tryz.results89 ?_
 exact wR trivial (aaA n h0 h1) ah
theorem aji(l:List Nat)(c:Nat)(ho:oct l)(hc:c<256)(hl:l.length≤140737488355328):Gxx 111 [.c (.string (sB l)),.c (.string (sB [c]))] (.c (.string (sB (trm c l)))):=by
 refine⟨by kernel_rfl,fun A w cargs hT hA hargs => ?_⟩
 obtain⟨_,_,rfl,rfl,_,_,rfl,rfl,rfl⟩:=hargs
 refine (Any.strings_TrimSuffix Tryz.lays102 (sB l) (sB [c]) w (by rw[bD];omega)).mono ?_
 rintro e w' ⟨rfl,rfl⟩
 exact⟨_,⟨A,fun _=>none,fun _=>none⟩,rfl,by rw[aeJ l c ho hc];rfl,Kp.refl _ _ _,⟨fun g h => .inl h,fun _ _ h=>(by cases h),fun _ _ _ h=>(by cases h)⟩⟩
theorem ajj(l:List Nat)(c:Nat)(ho:oct l)(hc:c<256)(hl:l.length≤4294967280):Gxx 112 [.c (.string (sB l)),.c (.string (sB [c]))]
  (.tup [.c (.string (sB (bef c l))),.c (.string ⟨(Lib.cut (sB l).data.toList (sB [c]).data.toList).2.1.toArray⟩),.c (.bool (Lib.cut (sB l).data.toList (sB [c]).data.toList).2.2)]):=by
 refine⟨by kernel_rfl,fun A w cargs hT hA hargs => ?_⟩
 obtain⟨_,_,rfl,rfl,_,_,rfl,rfl,rfl⟩:=hargs
 obtain⟨m,hm⟩:=hT.2.1
 refine (Any.strings_Cut Tryz.lays145 (sB l) (sB [c]) m w (by rw[bD];omega) hm).mono ?_
 rintro e w' ⟨rfl,k,rfl⟩
 exact⟨_,⟨A,fun _=>none,fun _=>none⟩,rfl,⟨_,rfl,_,_,rfl,by rw[aiC l c ho hc];rfl,_,_,rfl,rfl,_,_,rfl,rfl,rfl⟩,⟨rfl,rfl,rfl,Nat.le_refl _,fun _ _ _=>rfl⟩,⟨fun g h => .inl h,fun _ _ h=>(by cases h),fun _ _ _ h=>(by cases h)⟩⟩
theorem afj{L:Lay}{w:World}(l:List (List Nat)):RepE L w 1 (sv l) (l.map fun x=>Value.string (sB x)):=by
 induction l with
 | nil=>rfl
 | cons a l ih=>exact⟨.string (sB a),_,by simp [Value.cells],rfl,⟨rfl,rfl⟩,rfl,ih⟩
theorem aaB(l:List Nat)(c:Nat)(ho:oct l)(hc:c<256)(hl:l.length≤4294967280):Gxx 110 [.c (.string (sB l)),.c (.string (sB [c]))] (.sl (.own 0 9) 1 (sv (spl c l))):=by
 refine⟨by kernel_rfl,fun A w cargs hT hA hargs => ?_⟩
 obtain⟨_,_,rfl,rfl,_,_,rfl,rfl,rfl⟩:=hargs
 obtain⟨m,hm⟩:=hT.2.1
 have hn:=Lib.splitB_all (sB [c]) (by rw[bD];simp) 0 _ (sB l) rfl
 have hs:=Zy l c ho hc
 have hk:Lib.countB (sB l) (sB [c])+1=(spl c l).length:=by rw[←hn,hs,List.length_map]
 have hlen:=Ih c l
 refine (Any.strings_Split Tryz.lays146 (by kernel_rfl) (sB l) (sB [c]) m w (by rw[bD];omega) hm (by rw[bD];simp)).mono ?_
 rintro e w' ⟨rfl,rfl⟩
 refine⟨_,⟨A,fun j=>if j=0 then some w.heap.size else none,fun _=>none⟩,rfl,⟨some ⟨w.heap.size,0,none⟩,(spl c l).length,(spl c l).map fun x=>Value.string (sB x),by rw[hk,au],afj _, ?_⟩,Kp.alloc (Kp.refl _ _ _) (Nat.le_refl _) _,⟨fun g h => .inl h,fun j g h => ?_,fun i j g h h' => ?_⟩⟩
 ·refine .inr ⟨w.heap.size,_,rfl,rfl,heap_alloc_new w _,by rw[au];exact Nat.le_refl _,by unfold maxLen;omega, ?_, ?_⟩
  ·rw[hs];simp
  ·rw[hs,au,Nat.mul_one]
   simp only[List.map_map,Function.comp_def]
   exact List.take_of_length_le (by simp)
 ·simp only at h
  split at h
  ·simp only[Option.some.injEq] at h
   subst h
   exact⟨Nat.le_refl _,by simp,fun h=>by have:=hA _ h;omega⟩
  ·cases h
 ·simp only at h h'
  split at h
  ·split at h'
   ·omega
   ·cases h'
  ·cases h
theorem KY{L:Lay}{w:World}:∀(l:List (List Nat)) (us:List Value),RepE L w 1 (sv l) us→us=l.map fun x=>Value.string (sB x):=by
 intro l
 induction l with
 | nil=>intro us h;exact h
 | cons a l ih =>
  rintro us ⟨u,r,rfl,_,_,h,hr⟩
  have hu:u = .string (sB a):=h
  subst hu
  rw[ih r hr]
  rfl
theorem kK(l:List (List Nat))(hl:(jn l).length≤140737488355328)(hn:l.length≤140737488355328):Gxx 46 [fzs l,vs [32]] (vs (jn l)):=by
 refine⟨by kernel_rfl,fun A w cargs hT hA hargs => ?_⟩
 obtain⟨_,_,rfl,⟨a,cap,cells,rfl,hr,hm⟩,_,_,rfl,rfl,rfl⟩:=hargs
 have hc:=KY l cells hr
 subst hc
 rw[au] at hm ⊢
 obtain⟨h0,h1⟩:=hm
 rcases h1 with h1|⟨g,o,rfl,hg,hrow⟩
 ·have:l=[]:=List.eq_nil_of_length_eq_zero h1
  subst this
  refine (Any.strings_Join_none Tryz.lays156 Tryz.Builder_Extra_156 a cap (sB [32]) w).mono ?_
  rintro e w' ⟨rfl,rfl⟩
  exact⟨_,⟨A,fun _=>none,fun _=>none⟩,rfl,rfl,Kp.refl _ _ _,⟨fun g h => .inl h,fun _ _ h=>(by cases h),fun _ _ _ h=>(by cases h)⟩⟩
 ·have hlen:(l.map sB).length=l.length:=by simp
  have hj:(Lib.join ((l.map sB).map (·.data.toList)) (sB [32]).data.toList).length≤140737488355328:=by
   have h2:=congrArg ByteArray.size (Rf l)
   rw[bD] at h2
   have h3:(Lib.join ((l.map sB).map (·.data.toList)) (sB [32]).data.toList).length=(jn l).length:=by rw[←h2];simp [ByteArray.size]
   omega
  have:=Any.strings_Join Tryz.lays156 Tryz.Builder_Extra_156 g o cap (l.map sB) (sB [32]) w (fun j x hx=>by
   refine hrow.cell (j:=j) ?_
   rw[List.getElem?_map] at hx ⊢
   cases h4:l[j]? with
   | none=>rw[h4] at hx;cases hx
   | some y=>rw[h4] at hx;simp only[Option.map_some,Option.some.injEq] at hx ⊢;rw[hx]) (hA g hg) (by omega) (by omega) hj
  rw[hlen] at this
  refine this.mono ?_
  rintro e w' ⟨rfl,hb⟩
  refine⟨_,⟨A,fun _=>none,fun _=>none⟩,rfl,by rw[Rf];rfl,⟨hb.os,hb.tape,hb.output,hb.size,fun k h _=>hb.block k h⟩,⟨fun g h => .inl h,fun _ _ h=>(by cases h),fun _ _ _ h=>(by cases h)⟩⟩
def okc(c:Nat):Bool:=c == 10||bt c 32 126
def nl:V := .c (.slice none 0 0)
theorem alK:(⟨#[10]⟩:ByteArray)=sB [10]:=by rfl
theorem aaC(a:List Nat)(ha:oct a):decide (sB a=sB [])=decide (a=[]):=sJ ha dV
def Iy(l:List Nat):V:=if 65536<l.length then .tup [nl,.c (.int .i64 11)] else if l.all okc=false then .tup [nl,.c (.int .i64 1)] else if l=[] then .tup [nl,.c (.int .i64 0)] else .tup [.sl (.own 0 9) 1 (sv (spl 10 (trm 10 l))),.c (.int .i64 0)]
theorem afk{l:List Nat}{c:Nat}(ho:oct l):oct (trm c l)∧(trm c l).length≤l.length:=by
 unfold trm
 split
 ·exact⟨fun b hb=>ho b ((List.dropLast_sublist l).mem hb),by simp⟩
 ·exact⟨ho,Nat.le_refl _⟩
theorem aha{c:Nat}:okc c=false↔c≠10∧(c<32∨126<c):=by
 unfold okc bt
 rw[Bool.or_eq_false_iff,Bool.and_eq_false_iff,decide_eq_false_iff_not,decide_eq_false_iff_not,beq_eq_false_iff_ne]
 omega
theorem ajk(l:List Nat)(ho:oct l):Gxx 65 [.c (.string (sB l))] (Iy l):=by
 refine gI oW Tryz.func65 Tryz.results65 ?_
 unfold Iy nl
 rcases Nat.lt_or_ge 65536 l.length with h|h
 ·rw[if_pos h]
  exact wR trivial trivial ah
 rw[if_neg (by omega)]
 refine wS trivial trivial ?_
 refine aK (fun i=>mkA [(0,.c (.string (sB l))),(10,.c (.int .i64 l.length)),(11,.c (.int .i64 (i:Nat)))] [] 0 (fun _ => .top)) (fun i=>i≤l.length∧(l.take i).all okc=true) (fun i=>l.length-i) 0 [] [] ?_ ⟨Nat.zero_le _,rfl⟩ ?_
 ·exact kE
 ·rintro i ⟨hi,hall⟩
  rcases Nat.lt_or_ge i l.length with hlt|hge
  ·have hcb:=gW ho i
   cases hok:okc (l.getD i 0)
   ·rw[vS hlt hok,if_pos rfl]
    have hc':=aha.1 hok
    exact wR trivial trivial ah
   ·have hc':¬(l.getD i 0≠10∧(l.getD i 0<32∨126<l.getD i 0)):=fun h'=>by rw[←aha,hok] at h';cases h'
    (repeat' first|refine wP trivial trivial ?_|refine tS ?_ ?_<;>intro hc|fail)
    all_goals exact bE (i+1) [] [] ⟨hlt,jQ hlt hall hok⟩
  ·have hil:i=l.length:=by omega
   subst hil
   rw[List.take_length] at hall
   rw[hall,if_neg (by simp)]
   by_cases hz:l=[]
   ·rw[if_pos hz]
    exact wR (aI @qR (aI (aaC l ho) @hz)) trivial ah
   ·rw[if_neg hz]
    obtain⟨h1,h2⟩:=afk (c:=10) ho
    exact wR (aI @qR (aI @alK (aI (aaC l ho) @hz))) (aI (aji l 10 ho (by omega) (by omega)) (aaB (trm 10 l) 10 h1 (by omega) (by omega))) (ids [0])
theorem BQ(l:List (List Nat))(x:List Nat):sv l++[V.c (.string (sB x))]=sv (l++[x]):=by simp [sv]
theorem alL:(⟨#[35]⟩:ByteArray)=sB [35]:=by rfl
theorem alM:(⟨#[32]⟩:ByteArray)=sB [32]:=by rfl
theorem afl{l:List Nat}{c:Nat}(ho:oct l):oct (bef c l):=fun b hb=>ho b (Q8 c l b hb).1
theorem alO{w:List Nat}(hn:w≠[]):[w].filter yj=[w]:=by
 have:yj w=true:=by rw[aeK];exact decide_eq_true hn
 rw[List.filter_cons,if_pos this];rfl
theorem Vp{l:List (List Nat)}{i:Nat}(h:i<l.length)(hn:l.getD i []≠[]):(l.take (i+1)).filter yj=(l.take i).filter yj++[l.getD i []]:=by
 have g:l.getD i []=l[i]:=by simp [List.getD,h]
 rw[List.take_succ_eq_append_getElem h,List.filter_append,←g,alO hn]
theorem Vq{l:List (List Nat)}{i:Nat}(h:i<l.length)(hn:l.getD i []=[]):(l.take (i+1)).filter yj=(l.take i).filter yj:=by
 have g:l.getD i []=l[i]:=by simp [List.getD,h]
 rw[List.take_succ_eq_append_getElem h,List.filter_append,←g,hn]
 simp [yj]
theorem aaD(l:List (List Nat))(i:Nat):((l.take i).filter yj).length≤l.length:=by
 have:=List.length_filter_le yj (l.take i)
 simp at this
 have h2:=List.length_filter_le yj (l.take i)
 rw[List.length_take] at h2
 omega
theorem ajl(l:List Nat)(ho:oct l)(hl:l.length≤4294967280):Gxx 66 [.c (.string (sB l))] (.sl (.own 0 9) 1 (sv (fld l))):=by
 refine gI oW Tryz.func66 Tryz.results66 ?_
 have a1:=ajj l 35 ho (by omega) hl
 have hbl:=aeL 35 l
 have a2:=aaB (bef 35 l) 32 (afl ho) (by omega) (by omega)
 have hsl:=Ih 32 (bef 35 l)
 have hpo:∀p∈spl 32 (bef 35 l),oct p:=fun p hp b hb=>ho b (Q8 35 l b (aeH 32 _ p hp b hb).1).1
 unfold fld
 generalize hxs:spl 32 (bef 35 l)=xs at a2 hsl hpo
 refine wS (aI @alL @alM) (aI a1 a2) ?_
 refine aK (fun i=>mkA [(3,.sl (.own 1 9) 1 (sv ((xs.take i).filter yj))),(13,.sl (.own 0 9) 1 (sv xs)),(14,.c (.int .i64 xs.length)),(15,.c (.int .i64 (i:Nat)))] [] 2 (fun _ => .top)) (fun i=>i≤xs.length) (fun i=>xs.length-i) 0 [0] [] ?_ (Nat.zero_le _) ?_
 ·exact kE
  all_goals exact gK rfl
 ·intro i hi
  have hfl:=aaD xs i
  rcases Nat.lt_or_ge i xs.length with hlt|hge
  ·have hpi:oct (xs.getD i []):=by
    have g:xs.getD i []=xs[i]:=by simp [List.getD,hlt]
    rw[g];exact hpo _ (List.getElem_mem hlt)
   by_cases hn:xs.getD i []=[]
   ·refine wS (aI @qR (aI @iK (aI (aaC _ hpi) @hn))) trivial ?_
    (refine bL (i+1) [0,1] [] hlt ?_;refine kL ?_)
    all_goals exact aW rfl (by rw[Vq hlt hn])
   ·refine wS (aI @qR (aI @iK (aI (aaC _ hpi) (aI @hn @BQ)))) trivial ?_
    (refine bL (i+1) [0,1] [] hlt ?_;refine kL ?_)
    all_goals exact aW rfl (by rw[Vp hlt hn])
  ·have hil:i=xs.length:=by omega
   subst hil
   rw[List.take_length]
   exact wR trivial trivial (ids [1])
theorem aaE:∀d,d<16→nib (hx d)=d:=by decide
theorem alP(l:List Nat)(ho:oct l)(t:Nat)(ht:t<l.length):(jh l).getD (2*t) 0=hx (l.getD t 0 / 16)∧(jh l).getD (2*t+1) 0=hx (l.getD t 0%16):=by
 induction l generalizing t with
 | nil=>simp at ht
 | cons a l ih =>
  have e:jh (a::l)=hx (a / 16)::hx (a%16)::jh l:=by simp [jh]
  rw[e]
  cases t with
  | zero=>exact⟨rfl,rfl⟩
  | succ t =>
   have:=ih (fun x hx=>ho x (by simp [hx])) t (by simpa using ht)
   simpa [List.getD,Nat.mul_add] using this
theorem rt(l:List Nat)(ho:oct l):okB (jh l) l.length=true∧prs (jh l) l.length=l:=by
 have h1:∀t,t<l.length→okP (jh l) t=true∧prB (jh l) t=l.getD t 0:=by
  intro t ht
  have h2:=alP l ho t ht
  have h3:=gW ho t
  unfold okP prB
  rw[h2.1,h2.2,aaE _ (by omega),aaE _ (by omega)]
  refine⟨by simp;omega,by omega⟩
 constructor
 ·rw[okB,List.all_eq_true]
  intro t ht
  exact (h1 t (List.mem_range.1 ht)).1
 ·apply List.ext_getElem?
  intro i
  rcases Nat.lt_or_ge i l.length with hi|hi
  ·have:=(h1 i hi).2
   simp only[prs,List.getElem?_map,List.getElem?_range hi,Option.map_some,this,List.getD,List.getElem?_eq_getElem hi,Option.getD_some]
  ·rw[List.getElem?_eq_none (by rw[yG];omega),List.getElem?_eq_none hi]
theorem alQ{l:List Nat}(ho:oct l)(h:(fk l).2=0):pk (fk l).1=(l,0):=by
 rw[←aaz _ (Pn ho)]
 have hfk:fk l=((fk l).1,0):=by rw[←h]
 unfold fk at h
 cases h1:fH l
 ·rw[h1] at h;simp at h
 ·cases h2:kJ l
  ·have e:(fk l).1=37::jh l:=by unfold fk;rw[h1,h2];rfl
   rw[e] at hfk ⊢
   unfold pkP uP
   have hp:oV (37::jh l) [37]=true:=(pct _).2 ⟨by simp,rfl⟩
   have hd:(37::jh l).drop 1=jh l:=rfl
   have hlen:=lq l
   have hr:=rt l ho
   rw[hp,if_pos rfl,hd,if_neg (by omega),show (jh l).length / 2=l.length by omega,hr.1,if_pos rfl,hr.2]
   simp only
   rw[hfk,if_neg (by simp)]
  ·have e:(fk l).1=l:=by unfold fk;rw[h1,h2];rfl
   rw[e] at hfk ⊢
   unfold pkP uP
   rw[Gh l h2,if_neg (by simp)]
   simp only
   rw[hfk,if_neg (by simp)]
theorem ajm(l:List Nat):(fk l).1.length≤65:=by
 unfold fk
 cases h1:fH l
 ·simp
 ·have:=BP h1
  have:=lq l
  cases h2:kJ l<;>simp<;>omega
def dd(u:Nat):List Nat:=(Lib.decDigits u).map UInt8.toNat
theorem RD(u:Nat)(h:u<10):dd u=[48+u]:=by
 unfold dd Lib.decDigits
 rw[dif_pos h]
 simp
 omega
theorem ahb(u:Nat)(h:10≤u):dd u=dd (u / 10)++[48+u%10]:=by
 unfold dd
 rw[Lib.decDigits,dif_neg (by omega)]
 simp
 omega
theorem aaF(l:List Nat)(b:Nat):dig (l++[b])=10*dig l+(b-48):=by simp [dig]
theorem Gi:∀(n u:Nat),u<n→(dd u).all (fun c=>bt c 48 57)=true∧dig (dd u)=u∧1≤(dd u).length∧(1≤u→(dd u).getD 0 0≠48)∧(∀k,1≤k→((dd u).length≤k↔u<10^k)):=by
 intro n
 induction n with
 | zero=>intro u h;omega
 | succ n ih =>
  intro u hu
  rcases Nat.lt_or_ge u 10 with h|h
  ·rw[RD u h]
   refine⟨by simp [bt];omega,by simp [dig],by simp,by intro h1;simp;omega,fun k hk => ?_⟩
   have:10^1≤10^k:=Nat.pow_le_pow_right (by omega) hk
   simp
   omega
  ·rw[ahb u h]
   obtain⟨h1,h2,h3,h4,h5⟩:=ih (u / 10) (by omega)
   refine⟨?_, ?_,by simp, ?_,fun k hk => ?_⟩
   ·rw[List.all_append,h1]
    simp [bt]
    omega
   ·rw[aaF,h2];omega
   ·intro _
    have h6:=h4 (by omega)
    have h7:0<(dd (u / 10)).length:=by omega
    simp only[List.getD,List.getElem?_append_left h7] at h6 ⊢
    exact h6
   ·rw[List.length_append,List.length_singleton]
    cases k with
    | zero=>omega
    | succ k =>
     cases k with
     | zero =>
      constructor
      ·intro h';omega
      ·intro h'
       have:(10:Nat)^(0+1)=10:=by decide
       omega
     | succ k =>
      have:=h5 (k+1) (by omega)
      rw[Nat.pow_succ]
      omega
theorem uQ(n:Int):ak n=if n<0 then 45::dd n.natAbs else dd n.toNat:=by
 unfold ak Lib.itoa dd
 split<;>simp
theorem Gj(c:Nat)(l:List Nat):oV (c::l) [45]=(c == 45):=by
 rw[Bool.eq_iff_iff,F9]
 simp
theorem Vr(n:Int):aZ (ak n)=if -999999999999≤n∧n≤999999999999 then (n,0) else (0,1):=by
 rw[uQ]
 have key:∀u:Nat,∀neg:Bool,(neg=true→1≤u)→KQ (dd u) neg = !decide (u≤999999999999):=by
  intro u neg hneg
  obtain⟨h1,h2,h3,h4,h5⟩:=Gi (u+1) u (by omega)
  have h6:=h5 12 (by omega)
  rw[Bool.eq_iff_iff,DV,Bool.not_eq_true',decide_eq_false_iff_not]
  have h7:(10:Nat)^12=1000000000000:=by decide
  constructor
  ·rintro (h|h|⟨h,h'⟩)
   ·omega
   ·omega
   ·rcases Nat.eq_zero_or_pos u with h0|h0
    ·subst h0
     rw[RD 0 (by omega)] at h'
     rcases h' with h'|h'
     ·simp at h'
     ·have:=hneg h';omega
    ·exact absurd h (h4 h0)
  ·intro h
   exact .inr (.inl (by omega))
 unfold aZ
 by_cases hn:n<0
 ·rw[if_pos hn]
  obtain⟨h1,h2,h3,h4,h5⟩:=Gi (n.natAbs+1) n.natAbs (by omega)
  have hb:uN (45::dd n.natAbs)=dd n.natAbs:=by unfold uN;rw[Gj];rfl
  rw[hb,Gj,key _ _ (by intro _;omega),h1,h2]
  by_cases hc:n.natAbs≤999999999999
  ·rw[if_pos (show -999999999999≤n∧n≤999999999999 by omega)]
   simp [hc]
   omega
  ·rw[if_neg (show ¬(-999999999999≤n∧n≤999999999999) by omega)]
   simp [hc]
 ·rw[if_neg hn]
  obtain⟨h1,h2,h3,h4,h5⟩:=Gi (n.toNat+1) n.toNat (by omega)
  have hp:oV (dd n.toNat) [45]=false:=by
   rw[←Bool.not_eq_true,F9]
   rintro⟨h6,h7⟩
   have:=List.all_eq_true.1 h1 ((dd n.toNat).getD 0 0) (by
    simp only[List.getD,List.getElem?_eq_getElem h6,Option.getD_some]
    exact List.getElem_mem h6)
   have:=zV this
   omega
  have hb:uN (dd n.toNat)=dd n.toNat:=by unfold uN;rw[hp];rfl
  rw[hb,hp,key _ _ (by intro h;cases h),h1,h2]
  by_cases hc:n.toNat≤999999999999
  ·rw[if_pos (show -999999999999≤n∧n≤999999999999 by omega)]
   simp [hc]
   omega
  ·rw[if_neg (show ¬(-999999999999≤n∧n≤999999999999) by omega)]
   simp [hc]
theorem vX(n:Int)(h0 : -9223372036854775808≤n)(h1:n≤9223372036854775807):(ak n).length≤20:=by
 rw[uQ]
 split
 ·have:=((Gi (n.natAbs+1) n.natAbs (by omega)).2.2.2.2 19 (by omega)).2 (by
   have:(10:Nat)^19=10000000000000000000:=by decide
   omega)
  simp only[List.length_cons]
  omega
 ·have:=((Gi (n.toNat+1) n.toNat (by omega)).2.2.2.2 19 (by omega)).2 (by
   have:(10:Nat)^19=10000000000000000000:=by decide
   omega)
  omega
theorem jH(n:Int)(j:Nat)(hj:j≤62):bits .and .i64 n (2^j-1)=n%2^j:=by
 have hb:IntKind.i64.bits=64:=rfl
 have e1:(BitVec.ofInt 64 (2^j-1)).toNat=2^j-1:=by
  have hle:(2:Nat)^j≤2^62:=Nat.pow_le_pow_right (by omega) hj
  have h1:((2:Int)^j-1)=((2^j-1:Nat):Int):=by
   have:0<(2:Nat)^j:=Nat.two_pow_pos j
   rw[Int.natCast_sub (by omega)]
   simp
  rw[h1,BitVec.toNat_ofInt]
  rw[show ((2^64:Nat):Int)=18446744073709551616 from rfl]
  omega
 have e2:(((BitVec.ofInt 64 n).toNat%2^j:Nat):Int)=n%2^j:=by
  rw[BitVec.toNat_ofInt,Int.natCast_emod,Int.toNat_of_nonneg (Int.emod_nonneg _ (by decide))]
  have:((2^64:Nat):Int)=2^j*2^(64-j):=by
   rw[←Int.pow_add,show j+(64-j)=64 by omega]
   rfl
  rw[show (((2^j:Nat)):Int)=2^j by simp,this]
  exact Int.emod_emod_of_dvd n ⟨_,rfl⟩
 show IntKind.i64.wrap (((BitVec.ofInt 64 n &&& BitVec.ofInt 64 (2^j-1)).toNat:Nat):Int)=_
 rw[BitVec.toNat_and,e1,Nat.and_two_pow_sub_one_eq_mod,e2]
 have h0:0≤n%2^j:=Int.emod_nonneg _ (by have:(0:Int)<2^j:=Int.pow_pos (by decide);omega)
 have h1:n%2^j<2^j:=Int.emod_lt_of_pos _ (Int.pow_pos (by decide))
 have h2:(2:Int)^j≤2^62:=by
  have:=Nat.pow_le_pow_right (n:=2) (by omega) hj
  exact_mod_cast this
 have h3:(2:Int)^62=4611686018427387904:=rfl
 exact Y2 _ (by omega) (by omega)
theorem ajn(n:Int):bits .and .i64 n 255=n%256:=jH n 8 (by decide)
theorem anN(n:Int):bits .and .i64 n 15=n%16:=jH n 4 (by decide)
def afm(l:List Nat):Nat→List V
 | 0=>[.c (.pointer none),nls]
 | i+1=>[.ref 0 0,.sl (.own 0 5) 1 (bv (jh (l.take (i+1))))]
theorem anO(l:List Nat):afm l 0=[.c (.pointer none),nls]:=rfl
theorem alR(l:List Nat)(i:Nat):afm l (i+1)=[.ref 0 0,.sl (.own 0 5) 1 (bv (jh (l.take (i+1))))]:=rfl
def fb(l:List Nat):List Nat:=if l.length=0 then [45] else jh l
theorem k45:(⟨#[45]⟩:ByteArray)=sB [45]:=rfl
theorem nM(l:List Nat)(ho:oct l)(hl:l.length≤1000000):Gxx 44 [fzb l] (vs (fb l)):=by
 refine gI oW Tryz.func44 Tryz.results44 ?_
 unfold fb
 by_cases h0:l.length=0
 ·rw[if_pos h0]
  exact wR (aI @ax (aI @h0 @k45)) trivial ah
 ·rw[if_neg h0]
  have hb:=ax l
  refine wS (aI @ax @h0) trivial ?_
  refine aK (fun i=>mkA [(3,.ref 0 0),(9,fzb l),(10,vi l.length),(11,vi (i:Nat))] [(0,(115,afm l i))] 1 (fun _ => .top)) (fun i=>i≤l.length) (fun i=>l.length-i) 0 [] [0] ?_ (Nat.zero_le _) ?_
  ·exact kE
   all_goals first|exact⟨of_eq_true (eY _ _ _),of_eq_true (eY _ _ _),trivial⟩|skip
  ·intro i hi
   replace hi:i≤l.length:=hi
   rcases Nat.lt_or_ge i l.length with hlt|hge
   ·have hg:=HY l i hlt
    have hc:=gW ho i
    have hn:=zU hlt
    have hx1:=lq (l.take i)
    have hx2:(l.take i).length≤i:=by simp;omega
    generalize l.getD i 0=c at hg hc hn
    cases i with
    | zero =>
     (repeat' first|refine wP (aI @hg (aI @anO (aI @ax (aI @DK (aI @aal (aI @Ro @aam)))))) trivial ?_|refine cZ (Pi _ _ _ _ 0 _ _ _ _ rfl (.inr rfl) (by simp)) ?_|refine cZ (Rz _ _ _ _ _ _ _ rfl (.inl rfl)) ?_|refine tS ?_ ?_<;>intro hc|fail)
     (refine bL (0+1) [2] [0] hlt ?_;refine kL ?_)
     all_goals exact aW rfl (by rw[hn];rfl)
    | succ i =>
     (repeat' first|refine wP (aI @hg (aI @alu (aI @alR (aI @ax (aI @DK (aI @aal (aI @Ro @aam))))))) trivial ?_|refine cZ (Pi _ _ _ _ 0 0 _ _ _ rfl (.inr rfl) (by first|omega|(simp only[List.length_append,List.length_cons,List.length_nil];omega))) ?_|refine tS ?_ ?_<;>intro hc|fail)
     (refine bL (i+1+1) [0] [0] hlt ?_;refine kL ?_)
     all_goals exact aW rfl (by rw[hn])
   ·have hil:i=l.length:=by omega
    cases i with
    | zero=>omega
    | succ i =>
     have hx1:=lq l
     have hbl:afm l (i+1)=[.ref 0 0,.sl (.own 0 5) 1 (bv (jh l))]:=by rw[alR,hil,List.take_length]
     (repeat' first|refine wP (aI @hbl @ax) trivial ?_|refine cZ (aak _ _ _ _ 0 0 _ _ rfl (by omega) (yD _)) ?_|refine tS ?_ ?_<;>intro hc|fail)
     exact rE []
def aH:List (List Nat):=[[],[99,114,101,97,116,101],[100,114,111,112],[114,101,110,97,109,101],[108,105,115,116],[113,117,101,114,121],[105,110,115,101,114,116],[109,101,114,103,101],[99,111,109,112,97,114,101],[111,112,101,110],[114,101,97,100],[99,108,111,115,101],[99,117,114,115,111,114],[110,101,120,116],[101,110,100],[101,120,112,111,114,116],[105,109,112,111,114,116],[99,111,108,108,101,99,116]]
def kN:List (List Nat):=[[],[116,97,108,108,121],[99,111,117,110,116,109,105,110],[108,111,103,108,111,103],[116,111,112],[102,114,101,113,117,101,110,116],[114,97,110,107,115]]
def gu:List (List Nat):=[[],[116,111,116,97,108],[112,111,105,110,116],[114,101,103,105,115,116,101,114,115],[100,105,115,116,105,110,99,116],[116,111,112],[114,97,110,107],[113,117,97,110,116,105,108,101]]
def yM:List (List Nat):=[[],[99,97,108,108],[112,105,99,107],[99,97,110,99,101,108]]
theorem aaG(e:Nat→V)(b:Nat→Option (TypeId × List V))(n:Nat)(h:Nat→V):bV Tryz.prog ⟨e,b,n,h⟩ 23 18 [(0,V.c (.string ⟨#[]⟩)),(1,V.c (.string ⟨#[99,114,101,97,116,101]⟩)),(2,V.c (.string ⟨#[100,114,111,112]⟩)),(3,V.c (.string ⟨#[114,101,110,97,109,101]⟩)),(4,V.c (.string ⟨#[108,105,115,116]⟩)),(5,V.c (.string ⟨#[113,117,101,114,121]⟩)),(6,V.c (.string ⟨#[105,110,115,101,114,116]⟩)),(7,V.c (.string ⟨#[109,101,114,103,101]⟩)),(8,V.c (.string ⟨#[99,111,109,112,97,114,101]⟩)),(9,V.c (.string ⟨#[111,112,101,110]⟩)),(10,V.c (.string ⟨#[114,101,97,100]⟩)),(11,V.c (.string ⟨#[99,108,111,115,101]⟩)),(12,V.c (.string ⟨#[99,117,114,115,111,114]⟩)),(13,V.c (.string ⟨#[110,101,120,116]⟩)),(14,V.c (.string ⟨#[101,110,100]⟩)),(15,V.c (.string ⟨#[101,120,112,111,114,116]⟩)),(16,V.c (.string ⟨#[105,109,112,111,114,116]⟩)),(17,V.c (.string ⟨#[99,111,108,108,101,99,116]⟩))]=some (.sl (.own n 9) 1 (sv aH),⟨e,b,n+1,h⟩):=by
 rw[eG,qQ,Option.bind_some,x8,Option.bind_some,xZ,Option.bind_some]
 rfl
theorem aN:Gxx 39 [] (.sl (.own 0 9) 1 (sv aH)):=by
 refine gI oW Tryz.func39 Tryz.results39 ?_
 exact wR' @aaG trivial (ids [0])
theorem aaH(e:Nat→V)(b:Nat→Option (TypeId × List V))(n:Nat)(h:Nat→V):bV Tryz.prog ⟨e,b,n,h⟩ 23 7 [(0,V.c (.string ⟨#[]⟩)),(1,V.c (.string ⟨#[116,97,108,108,121]⟩)),(2,V.c (.string ⟨#[99,111,117,110,116,109,105,110]⟩)),(3,V.c (.string ⟨#[108,111,103,108,111,103]⟩)),(4,V.c (.string ⟨#[116,111,112]⟩)),(5,V.c (.string ⟨#[102,114,101,113,117,101,110,116]⟩)),(6,V.c (.string ⟨#[114,97,110,107,115]⟩))]=some (.sl (.own n 9) 1 (sv kN),⟨e,b,n+1,h⟩):=by
 rw[eG,qQ,Option.bind_some,x8,Option.bind_some,xZ,Option.bind_some]
 rfl
theorem lG:Gxx 76 [] (.sl (.own 0 9) 1 (sv kN)):=by
 refine gI oW Tryz.func76 Tryz.results76 ?_
 exact wR' @aaH trivial (ids [0])
theorem Po(e:Nat→V)(b:Nat→Option (TypeId × List V))(n:Nat)(h:Nat→V):bV Tryz.prog ⟨e,b,n,h⟩ 23 8 [(0,V.c (.string ⟨#[]⟩)),(1,V.c (.string ⟨#[116,111,116,97,108]⟩)),(2,V.c (.string ⟨#[112,111,105,110,116]⟩)),(3,V.c (.string ⟨#[114,101,103,105,115,116,101,114,115]⟩)),(4,V.c (.string ⟨#[100,105,115,116,105,110,99,116]⟩)),(5,V.c (.string ⟨#[116,111,112]⟩)),(6,V.c (.string ⟨#[114,97,110,107]⟩)),(7,V.c (.string ⟨#[113,117,97,110,116,105,108,101]⟩))]=some (.sl (.own n 9) 1 (sv gu),⟨e,b,n+1,h⟩):=by
 rw[eG,qQ,Option.bind_some,x8,Option.bind_some,xZ,Option.bind_some]
 rfl
theorem iH:Gxx 78 [] (.sl (.own 0 9) 1 (sv gu)):=by
 refine gI oW Tryz.func78 Tryz.results78 ?_
 exact wR' @Po trivial (ids [0])
theorem yN:Gxx 61 [] (.sl (.own 0 9) 1 (sv yM)):=by
 refine gI oW Tryz.func61 Tryz.results61 ?_
 exact wR trivial trivial (ids [0])
def kw(l:List Nat):List Nat:=if (fk l).2=0 then (fk l).1 else [45]
theorem uS(l:List Nat)(ho:oct l):Gxx 45 [vs l] (vs (kw l)):=by
 have h:=aan l ho
 unfold fkV at h
 unfold kw
 refine gI oW Tryz.func45 Tryz.results45 ?_
 by_cases h0:(fk l).2=0
 ·rw[h0] at h
  rw[if_pos h0]
  exact wR trivial h ah
 ·have h1:((fk l).2:Int)≠0:=by omega
  rw[if_neg h0]
  exact wR @k45 h ah
theorem dQ(e:Nat→V)(bx:Nat→Option (TypeId × List V))(n:Nat)(h:Nat→V)(b id:Nat)(tg:Tag)(xs ys:List (List Nat))(hb:bx b=some (23,[.sl (.own id 9) 1 (sv xs)]))(hl:xs.length+ys.length≤1000000)(ht:Tag.is id tg=false) :
  Gxz 40 [.sl tg 1 (sv ys),.ref b 0] ⟨e,bx,n,h⟩ ⟨lX (aJ id) e,upd (sH (aJ id) bx) b (some (23,[.sl (.own id 9) 1 (sv (xs++ys))])),max n (id+1),lX (aJ id) h⟩ (.tup []):=by
 have hx:=au xs
 have hy:=au ys
 refine gZ oW Tryz.func40 Tryz.results40 ?_
 refine wS (aI @iQ (aI @dm (aI @bI (aI @hb @Oa)))) trivial ?_
 refine lh (vN _ _) ?_
 rw[Ir,Iu,dJ,dK]
def lL:List (List Nat × Int)→List (List Nat)
 | []=>[]
 | x::l=>kw x.1::ak x.2::lL l
theorem aaI(a b:List (List Nat × Int)):lL (a++b)=lL a++lL b:=by
 induction a with
 | nil=>rfl
 | cons x a ih=>simp only[List.cons_append,lL,ih]
theorem Gl(l:List (List Nat × Int))(i:Nat)(x:List Nat × Int)(hx:l[i]?=some x):lL (l.take (i+1))=lL (l.take i)++[kw x.1,ak x.2]:=by
 have hi:=(List.getElem?_eq_some_iff.1 hx).1
 rw[List.take_succ_eq_append_getElem hi,aaI,(List.getElem?_eq_some_iff.1 hx).2]
 rfl
theorem yO(l:List (List Nat × Int)):(lL l).length=2*l.length:=by
 induction l with
 | nil=>rfl
 | cons x l ih=>simp only[lL,List.length_cons,ih];omega
def qU(o:O):List (List Nat):=[[105,110,115,101,114,116],o.name,fb o.coins]++lL o.items
theorem zZ(l:List Nat):(kw l).length≤65:=by
 unfold kw
 split
 ·exact ajm l
 ·simp
theorem uT(l:List Nat):(fb l).length≤2*l.length+1:=by
 unfold fb
 split
 ·simp
 ·rw[lq];omega
def Wt(n:Int):Prop := -9223372036854775808≤n∧n≤9223372036854775807
theorem yQ(l:List (List Nat × Int))(hw:∀x∈l,Wt x.2):tot (lL l)≤l.length*100:=by
 induction l with
 | nil=>simp [lL,dL]
 | cons x l ih =>
  have h1:=zZ x.1
  have h2:=vX x.2 (hw x (by simp)).1 (hw x (by simp)).2
  have h3:=ih fun y hy=>hw y (by simp [hy])
  simp only[lL,bz,List.length_cons]
  omega
theorem KZ:(sv aH)[6]?=some (.c (.string (sB [105,110,115,101,114,116]))):=rfl
theorem k32:(⟨#[32]⟩:ByteArray)=sB [32]:=rfl
theorem La(o:O)(ho:o.Oct)(hk:o.kind=6)(hv:vop o=0)(hc:o.coins.length≤1000)(hn:o.name.length≤1000)(hi:o.items.length≤1000)(hw:∀x∈o.items,Wt x.2) :
  Gxx 13 [.agg (opF o)] (.tup [vs (jn (qU o)),vi 0]):=by
 have h1:=dH o ho
 rw[hv] at h1
 have hfb:=nM o.coins ho.2.2.2.2.1 (by omega)
 have hoi:=ho.2.2.2.1
 have htot:=yQ o.items hw
 have hfl:=uT o.coins
 have hjl:(jn (qU o)).length≤1000000:=by
  have h2:=xg (qU o)
  have h3:tot (qU o)=6+1+(o.name.length+1+((fb o.coins).length+1+tot (lL o.items))):=by simp [qU,bz]
  omega
 have hnl:(qU o).length≤1000000:=by
  have h2:(qU o).length=(lL o.items).length+3:=by simp [qU]
  have h3:=yO o.items
  omega
 have hjo:=kK (qU o) (by omega) (by omega)
 unfold qU at hjo
 unfold qU
 obtain⟨kind,name,other,names,pk,pz,pd,ps,items,coins,exp,src,hnd,idx,cur,cnt,qk,qkey,qc,qn,qd,data⟩:=o
 simp only at hk hv hc hn hi hw hfb hoi hjo ⊢
 subst hk
 refine gI oD Tryz.func13 Tryz.results13 ?_
 have hsl:(sv aH).length=18:=rfl
 clear htot hfl hjl hnl
 have hil:=aB items
 (repeat' first|refine wPA (aI @KZ (aI @ai (aI @au (aI @aB (aI @List.append_eq.{0} (aI @List.cons_append.{0} (aI @List.nil_append.{0} (aI @List.length_cons.{0} @List.length_nil.{0})))))))) (aI h1 (aI aN hfb)) ?_|refine cY (dQ _ _ _ _ _ _ _ [_] [_,_] rfl (by simp) rfl) ?_|refine cAZ (dQ _ _ _ _ _ _ _ [_] [_,_] rfl (by simp) rfl) ?_|refine tS ?_ ?_<;>intro hc|fail)
 generalize hpre:([[105,110,115,101,114,116],name,fb coins]:List (List Nat))=pre at hjo ⊢
 have hpl:pre.length=3:=by rw[←hpre];rfl
 refine aK (fun i:Nat=>mkA [(1,.ref 0 0),(5,.ref 1 0),(6,.fn 40 [] [.ref 1 0]),(7,.fn 41 [] []),(75,fzt items),(76,vi items.length),(77,vi i)] [(0,(32,opF ⟨6,name,other,names,pk,pz,pd,ps,items,coins,exp,src,hnd,idx,cur,cnt,qk,qkey,qc,qn,qd,data⟩)),(1,(23,[.sl (.own 0 9) 1 (sv (pre++lL (items.take i)))]))] 2 (fun _ => .top)) (fun i=>i≤items.length) (fun i=>items.length-i) 0 [6] [0,7] ?_ (Nat.zero_le _) ?_
 ·(refine iy ?_ ?_ (kD _ _ _) (by decide) (by decide) (by decide) (by decide);(repeat' (first|exact trivial|refine gJ _ _ rfl rfl ?_ ?_));all_goals (try simp only[pgs,pgl,pgx,pgf,pgw,fQ,ig,fU,iq,dB,eY,fJ,pgn,simprocAttr]);all_goals (try (repeat' (first|apply aI)));all_goals (try (first|exact trivial|exact gB (by omega)|exact gq rfl|exact aW rfl rfl|exact je rfl)))
  all_goals first|exact pR rfl rfl|(exact aW rfl (by rw[←hpre];rfl))
 ·intro i hi
  replace hi:i≤items.length:=hi
  rcases Nat.lt_or_ge i items.length with hlt|hge
  ·have hg:=sS items i hlt
   have hx:=getD_some items i ([],0) hlt
   have hmem:items.getD i ([],0)∈items:=by rw[List.getD_eq_getElem?_getD,List.getElem?_eq_getElem hlt];exact List.getElem_mem hlt
   have ho1:=hoi _ hmem
   have hw1:=hw _ hmem
   have hnx:=Gl items i _ hx
   have hln:(lL (items.take i)).length=2*(items.take i).length:=yO _
   have hlt2:(items.take i).length≤i:=by simp;omega
   generalize items.getD i ([],0)=x at hg hx hmem ho1 hw1 hnx
   obtain⟨k,n⟩:=x
   simp only at ho1 hw1 hnx
   (repeat' (first|(simp (disch:=first|exact dqz|fail) only[pgz,simprocAttr,pga,hg,ai,au,aB])|((with_reducible show gU _ _ _ _ _ _);first|refine aP _ (uS k ho1) rfl rfl rfl rfl ?_|refine aP _ (jv n hw1.1 hw1.2) rfl rfl rfl rfl ?_|refine yg _ (dQ _ _ _ _ _ 0 _ _ [_,_] rfl (by simp only[List.length_append,List.length_cons,List.length_nil];omega) rfl) rfl ?_)|((with_reducible show nz _ _ _ _ _ _ _);first|refine dZ _ (uS k ho1) rfl rfl rfl rfl rfl (Nat.le_of_ble_eq_true rfl) ?_|refine dZ _ (jv n hw1.1 hw1.2) rfl rfl rfl rfl rfl (Nat.le_of_ble_eq_true rfl) ?_|refine oO _ (dQ _ _ _ _ _ 0 _ _ [_,_] rfl (by simp only[List.length_append,List.length_cons,List.length_nil];omega) rfl) rfl ?_)|((with_reducible first|apply di|apply bK|apply eX)<;>intro hc<;>(try simp only[hc])<;>(try simp only[pgd] at hc))|(with_reducible refine vP (by kernel_rfl) ?_)|((with_reducible show sN _ _ _ _ _);first|refine oP (by decide +kernel) ?_|refine oQ (by decide +kernel) ?_)|(with_reducible refine cK ?_)))
   (refine bC (i+1) [0] [0,1] (hlt) (by first|omega|(simp only[List.length_cons];omega)) ?_;(refine iy ?_ ?_ (kD _ _ _) (by decide) (by decide) (by decide) (by decide);(repeat' (first|exact trivial|refine gJ _ _ rfl rfl ?_ ?_));all_goals (try simp only[pgs,pgl,pgx,pgf,pgw,fQ,ig,fU,iq,dB,eY,fJ,pgn,simprocAttr]);all_goals (try (repeat' (first|apply aI)));all_goals (try (first|exact trivial|exact gB (by omega)|exact gq rfl|exact aW rfl rfl|exact je rfl))))
   all_goals first|exact pR rfl rfl|(exact aW rfl (by rw[hnx,List.append_assoc]))
  ·have:i=items.length:=by omega
   subst this
   rw[List.take_length]
   refine wSA (aI @aB @k32) hjo ?_
   (refine rT [] ?_;first|rfl|simp only[pgo,simprocAttr]|skip)
   rw[←hpre];rfl
abbrev rdC(l:List (List Nat))(bad:Bool):List V:=[fzs l,vb bad]
theorem ajq(w:List Nat)(l:List (List Nat)):slV Tryz.prog 23 (fzs (w::l)) (some (vi 1)) none=some (fzs l):=by
 rw[Dk]
 simp only[bdV,Option.bind_some,qQ,ak8]
 rw[if_pos ⟨trivial,by omega,by rw[au];simp;omega,by omega⟩]
 simp [sv]
 exact List.take_of_length_le (by simp)
theorem vY(e:Nat→V)(bx:Nat→Option (TypeId × List V))(n:Nat)(h:Nat→V)(b:Nat)(w:List Nat)(l:List (List Nat))(bad:Bool)(hb:bx b=some (108,rdC (w::l) bad))(hl:l.length≤1000000000) :
  Gxz 93 [.ref b 0] ⟨e,bx,n,h⟩ ⟨e,upd bx b (some (108,rdC l bad)),n,h⟩ (vs w):=by
 have hx:(sv (w::l)).length=l.length+1:=au _
 have hg:(sv (w::l))[0]?=some (vs w):=rfl
 refine gZ oW Tryz.func93 Tryz.results93 ?_
 refine wS (aI @iQ (aI @dm (aI @bI (aI @hb (aI @hx (aI @hg @ajq)))))) trivial ?_
 refine lh (aG _ _ _) ?_
 rw[dJ,dK]
theorem afn(e:Nat→V)(bx:Nat→Option (TypeId × List V))(n:Nat)(h:Nat→V)(b:Nat)(bad:Bool)(hb:bx b=some (108,rdC [] bad)) :
  Gxz 93 [.ref b 0] ⟨e,bx,n,h⟩ ⟨e,upd bx b (some (108,rdC [] true)),n,h⟩ (vs []):=by
 have hx:(sv []).length=0:=au _
 refine gZ oW Tryz.func93 Tryz.results93 ?_
 refine wS (aI @iQ (aI @dm (aI @bI (aI @hb (aI @hx @ai))))) trivial ?_
 refine lh (aG _ _ _) ?_
 rw[dJ,dK]
theorem Aa(e:Nat→V)(bx:Nat→Option (TypeId × List V))(n:Nat)(h:Nat→V)(b:Nat)(w:List Nat)(l:List (List Nat))(hb:bx b=some (108,rdC (w::l) false))(hl:l.length≤1000000000)(ho:oct w)(hw:w.length≤1000000)(hp:(aZ w).2=0) :
  Gxz 98 [.ref b 0] ⟨e,bx,n,h⟩ ⟨e,upd bx b (some (108,rdC l false)),n,h⟩ (vi (aZ w).1):=by
 have hn:=aaf w ho (by omega)
 unfold Ry at hn
 rw[hp] at hn
 refine gZ oW Tryz.func98 Tryz.results98 ?_
 (repeat' first|refine wP (aI @iQ (aI @dm (aI @bI @hb))) hn ?_|refine cZ (vY _ _ _ _ b w l false hb hl) ?_|refine tS ?_ ?_<;>intro hc|fail)
 refine lh (aG _ _ _) ?_
 rw[dJ,dK,jG]
theorem jI(l:List Nat)(h:(l.all fun b=>decide (b<256))=true):oct l:=fun b hb=>by simpa using List.all_eq_true.1 h b hb
theorem ajr{a c:List Nat}(ha:oct a)(hc:oct c)(h:a≠c):decide (sB a=sB c)=false:=by rw[sJ ha hc];exact decide_eq_false h
theorem DY(a:ByteArray):decide (a=a)=true:=decide_eq_true rfl
theorem yR(e:Nat→V)(bx:Nat→Option (TypeId × List V))(n:Nat)(h:Nat→V)(b:Nat)(w:List Nat)(l:List (List Nat))(tg:Tag)(L:List (List Nat))(k:Nat)(hb:bx b=some (108,rdC (w::l) false))(hl:l.length≤1000000000)(ho:oct w)(hLo:∀x∈L,oct x)(hLl:L.length≤1000)
  (hk:1≤k∧k<L.length) (hw:L.getD k []=w) (hne:∀j,j<k→1≤j→L.getD j []≠w) :
  Gxz 92 [.ref b 0,.sl tg 1 (sv L)] ⟨e,bx,n,h⟩ ⟨e,upd bx b (some (108,rdC l false)),n,h⟩ (vi k):=by
 have hx:=au L
 refine gZ oW Tryz.func92 Tryz.results92 ?_
 (repeat' first|refine wP (aI @iQ (aI @dm (aI @bI @hb))) trivial ?_|refine cZ (vY _ _ _ _ b w l false hb hl) ?_|refine tS ?_ ?_<;>intro hc|fail)
 refine OM (fun i:Nat=>[(0,.ref b 0),(1,.sl tg 1 (sv L)),(5,vs w),(6,vi i)]) (fun _=>upd bx b (some (108,rdC l false))) (fun _=>n) (fun i=>1≤i∧i≤k) (fun i=>k-i) 1 ?_ (fun _ => .inl rfl) (Nat.le_refl _) ⟨Nat.le_refl _,hk.1⟩ ?_
 ·((try simp only[kF,lQ,lD,mf,pgo,simprocAttr,and_true,true_and]);try (repeat' (first|exact trivial|rfl|apply aI)))
 ·rintro i ⟨h1,h2⟩
  have hlt:i<L.length:=by omega
  have hg:=iK L i hlt
  have hoi:oct (L.getD i []):=hLo _ (by rw[List.getD_eq_getElem?_getD,List.getElem?_eq_getElem hlt];exact List.getElem_mem hlt)
  by_cases hik:i=k
  ·subst hik
   rw[hw] at hg
   refine wS (aI @hg (aI @hx (aI @DY @dm))) trivial ?_
   refine lh (aG _ _ _) ?_
   rw[dJ,dK]
  ·have hni:=ajr hoi ho (hne i (by omega) h1)
   generalize L.getD i []=v at hg hoi hni
   refine wS (aI @hg (aI @hx @hni)) trivial ?_
   refine Dz (i+1) ⟨by omega,by omega⟩ (by omega) ?_ (fun _ => .inl rfl) (Nat.le_refl _)
   ((try simp only[kF,lQ,lD,mf,pgo,simprocAttr,and_true,true_and]);try (repeat' (first|exact trivial|rfl|apply aI)))
theorem pw{α:Type}{n:Nat}{f g bx:Nat→Option α}(h:∀c,c<n→f c=g c)(h2:∀c,n≤c→f c=bx c):∀c,f c=g c∨f c=none∨(n≤c∧f c=bx c):=by
 intro c
 rcases Nat.lt_or_ge c n with hc|hc
 ·exact .inl (h c hc)
 ·exact .inr (.inr ⟨hc,h2 c hc⟩)
abbrev op0(k:Int):List V:=[vi k,vs [],vs [],nls,vi 0,vi 0,vi 0,vu 0,nls,nls,vi 0,vi 0,vi 0,vi 0,vi 0,vi 0,vi 0,vs [],vi 0,vi 0,vi 0,nls]
theorem Pq:∀x∈aH,oct x:=by
 intro x hx
 have:∀x∈aH,(x.all fun b=>decide (b<256))=true:=by decide
 intro b hb
 simpa using List.all_eq_true.1 (this x hx) b hb
theorem aaJ(e:Nat→V)(bx:Nat→Option (TypeId × List V))(n:Nat)(h:Nat→V)(b:Nat)(hb:bx b=some (108,rdC [[108,105,115,116]] false))(hbn:b<n) :
  Gxz 54 [.ref b 0] ⟨e,bx,n,h⟩ ⟨e,upd bx b (some (108,rdC [] false)),n+10,h⟩ (.agg (op0 4)):=by
 have hne:∀j,j<4→1≤j→aH.getD j []≠[108,105,115,116]:=by decide
 have d1:¬n=b:=by omega
 have d2:¬b=n:=by omega
 have d3:¬n=n+1+1:=by omega
 have d4:¬n+1+1=n:=by omega
 have d5:¬n+1+1=b:=by omega
 have d6:¬b=n+1+1:=by omega
 have key:∃bx' n',Gxz 54 [.ref b 0] ⟨e,bx,n,h⟩ ⟨e,bx',n',h⟩ (.agg (op0 4))∧n'≤n+10∧∀c,upd bx b (some (108,rdC [] false)) c=bx' c∨upd bx b (some (108,rdC [] false)) c=none∨(n≤c∧upd bx b (some (108,rdC [] false)) c=bx c):=by
  apply Exists.intro;apply Exists.intro
  refine⟨?_, ?_⟩
  ·refine gZ oW Tryz.func54 Tryz.results54 ?_
   (repeat' first|refine wP (aI @iQ (aI @dm (aI @bI (aI @hb (aI @ai (aI @d1 (aI @d2 (aI @d3 (aI @d4 (aI @d5 @d6)))))))))) aN ?_|refine cZ (yR _ _ _ _ b [108,105,115,116] [] _ aH 4 (by simp only[upd];rw[if_neg (by omega)];exact hb) (by simp) (jI _ rfl) Pq (by decide) (by decide) rfl hne) ?_|refine tS ?_ ?_<;>intro hc|fail)
   (refine lh (by first|exact aG _ _ _|exact jq _ _ _ _|(simp (disch:=first|assumption|omega|(simp only[Fits,maxLen,pgq] at *;omega)) only[pgr,pgo,tyf,simprocAttr,d1,d2,d3,d4,d5,d6,hb];done)|(simp (disch:=first|assumption|omega|(simp only[Fits,maxLen,pgq] at *;omega)) only[pgr,pgo,tyf,simprocAttr,d1,d2,d3,d4,d5,d6,hb];rfl)) ?_;rw[dJ,dK])
  ·refine⟨by omega, ?_⟩
   exact pw (fun c hc=>by simp only[upd];(repeat' split)<;>first|rfl|omega) (fun c hc=>by simp only[upd];rw[if_neg (by omega)])
 obtain⟨bx',n',h1,h2,h3⟩:=key
 exact h1.le h2 h3
def O0(k:Int):O:=⟨k,[],[],[],0,0,0,0,[],[],0,0,0,0,0,0,0,[],0,0,0,[]⟩
theorem ajs(k:Int):(O0 k).Oct:=⟨dV,dV,(fun _ h=>by cases h),(fun _ h=>by cases h),dV,dV,dV⟩
theorem aaK:vop (O0 4)=0:=by decide
theorem Vs:Gxx 38 [.agg (op0 4)] (vi 0):=by
 have h:=dH (O0 4) (ajs 4)
 rw[aaK] at h
 refine h.wk ⟨.inr ⟨_,_,rfl,rfl, ?_⟩,trivial⟩
 (repeat' (first|exact trivial|refine iV (.inl rfl) ?_|refine iV (oq _ _) ?_))
theorem Lc:Gxx 15 [fzs [[108,105,115,116]]] (.tup [.agg (op0 4),vi 0]):=by
 have hv:=Vs
 refine gI oW Tryz.func15 Tryz.results15 ?_
 (repeat' first|refine wP @ai hv ?_|refine cZ (aaJ _ _ _ _ 1 rfl (by omega)) ?_|refine tS ?_ ?_<;>intro hc|fail)
 exact rE []
abbrev ev1:List V:=[vi 2,vi 1]++op0 0
abbrev ev2:List V:=[vi 1,vi 0]++op0 4
theorem RF:∀x∈yM,oct x:=by
 intro x hx
 have:∀x∈yM,(x.all fun b=>decide (b<256))=true:=by decide
 intro b hb
 simpa using List.all_eq_true.1 (this x hx) b hb
theorem ajt:aZ [49]=(1,0):=by decide
theorem aju:aZ [48]=(0,0):=by decide
theorem aaL:Gxx 67 [fzs [[112,105,99,107],[49]]] (.tup [.agg ev1,vi 0]):=by
 refine gI oW Tryz.func67 Tryz.results67 ?_
 (repeat' (first|(simp (disch:=first|exact dqz|fail) only[pgz,simprocAttr,Tryz.f67,ai,ajt])|((with_reducible show gU _ _ _ _ _ _);first|refine cU yN ?_|refine nT _ (yR _ _ _ _ 1 [112,105,99,107] [[49]] _ yM 2 rfl (by simp) (jI _ rfl) RF (by decide) (by decide) rfl (by decide)) rfl ?_|refine nT _ (Aa _ _ _ _ 1 [49] [] rfl (by simp) (jI _ rfl) (by decide) rfl) rfl ?_)|((with_reducible first|apply di|apply bK|apply eX)<;>intro hc<;>(try simp only[hc])<;>(try simp only[pgd] at hc))|(with_reducible refine cK ?_)))
 (refine rT [] ?_;first|rfl|simp only[pgo,simprocAttr]|skip)
theorem aaM:Gxx 67 [fzs [[99,97,108,108],[48],[108,105,115,116]]] (.tup [.agg ev2,vi 0]):=by
 have h0:=Lc
 refine gI oW Tryz.func67 Tryz.results67 ?_
 (repeat' (first|(simp (disch:=first|exact dqz|fail) only[pgz,simprocAttr,Tryz.f67,ai,aju])|((with_reducible show gU _ _ _ _ _ _);first|refine cU yN ?_|refine cU h0 ?_|refine nT _ (yR _ _ _ _ 1 [99,97,108,108] [[48],[108,105,115,116]] _ yM 1 rfl (by simp) (jI _ rfl) RF (by decide) (by decide) rfl (by decide)) rfl ?_|refine nT _ (Aa _ _ _ _ 1 [48] [[108,105,115,116]] rfl (by simp) (jI _ rfl) (by decide) rfl) rfl ?_)|((with_reducible first|apply di|apply bK|apply eX)<;>intro hc<;>(try simp only[hc])<;>(try simp only[pgd] at hc))|(with_reducible refine cK ?_)))
 (refine rT [] ?_;first|rfl|simp only[pgo,simprocAttr]|skip)
def kT:List Nat:=[112,105,99,107,32,49,10,35,32,110,111,116,104,105,110,103,10,99,97,108,108,32,48,32,108,105,115,116]
theorem ajv:oct kT:=jI _ rfl
abbrev kL1:List Nat:=[112,105,99,107,32,49]
abbrev kL2:List Nat:=[35,32,110,111,116,104,105,110,103]
abbrev kL3:List Nat:=[99,97,108,108,32,48,32,108,105,115,116]
theorem aaN:Iy kT = .tup [.sl (.own 0 9) 1 (sv [kL1,kL2,kL3]),vi 0]:=by
 unfold Iy
 rw[if_neg (by decide),if_neg (by decide),if_neg (by decide)]
 rfl
theorem kF1:fld kL1=[[112,105,99,107],[49]]:=by decide
theorem kF2:fld kL2=[]:=by decide
theorem kF3:fld kL3=[[99,97,108,108],[48],[108,105,115,116]]:=by decide
theorem aaO:Gxx 65 [vs kT] (.tup [.sl (.own 0 9) 1 (sv [kL1,kL2,kL3]),vi 0]):=by
 have h:=ajk kT ajv
 rw[aaN] at h
 exact h
theorem DZ(l:List Nat)(hl:l.length≤1000)(f:List (List Nat))(hf:fld l=f)(ho:(l.all fun b=>decide (b<256))=true):Gxx 66 [vs l] (.sl (.own 0 9) 1 (sv f)):=by
 have h:=ajl l (jI _ ho) (by omega)
 rw[hf] at h
 exact h
def evV:Nat→V
 | 0=>nls
 | 1 => .sl (.own 1 69) 24 [.agg ev1]
 | 2 => .sl (.own 1 69) 24 [.agg ev1]
 | _ => .sl (.own 1 69) 24 [.agg ev1,.agg ev2]
theorem afo:evV 0=nls:=rfl
theorem afp:evV 1 = .sl (.own 1 69) 24 [.agg ev1]:=rfl
theorem afq:evV 2 = .sl (.own 1 69) 24 [.agg ev1]:=rfl
theorem afr:evV 3 = .sl (.own 1 69) 24 [.agg ev1,.agg ev2]:=rfl
theorem aaP:Gxx 28 [vs kT] (.tup [.sl (.own 0 69) 24 [.agg ev1,.agg ev2],vi 0,vi 0]):=by
 have f1:=DZ kL1 (by decide) _ kF1 rfl
 have f2:=DZ kL2 (by decide) _ kF2 rfl
 have f3:=DZ kL3 (by decide) _ kF3 rfl
 have hs:(sv [kL1,kL2,kL3]).length=3:=rfl
 have hg0:(sv [kL1,kL2,kL3])[0]?=some (vs kL1):=rfl
 have hg1:(sv [kL1,kL2,kL3])[1]?=some (vs kL2):=rfl
 have hg2:(sv [kL1,kL2,kL3])[2]?=some (vs kL3):=rfl
 refine gI oW Tryz.func28 Tryz.results28 ?_
 refine wS @hs aaO ?_
 refine aK (fun i:Nat=>mkA [(2,evV i),(19,.sl (.own 0 9) 1 (sv [kL1,kL2,kL3])),(20,vi 3),(21,vi i)] [] 2 (fun _ => .top)) (fun i=>i≤3) (fun i=>3-i) 0 [0] [] ?_ (Nat.zero_le _) ?_
 ·exact kE
 ·intro i hi
  have hi4:i=0∨i=1∨i=2∨i=3:=by omega
  rcases hi4 with rfl|rfl|rfl|rfl
  ·refine wS (aI @hs (aI @hg0 (aI @hg1 (aI @hg2 (aI @afo (aI @afp (aI @afq (aI @afr (aI @Int.natCast_one (aI @au (aI @List.length_cons.{0} (aI @List.length_nil.{0} (aI @List.cons_append.{0} (aI @List.nil_append.{0} (aI @List.append_eq.{0} @ai))))))))))))))) (aI f1 aaL) ?_
   exact bE (0+1) [0,5] [] ((by omega))
   all_goals exact aW rfl rfl
  ·refine wS (aI @hs (aI @hg0 (aI @hg1 (aI @hg2 (aI @afo (aI @afp (aI @afq (aI @afr (aI @Int.natCast_one (aI @au (aI @List.length_cons.{0} (aI @List.length_nil.{0} (aI @List.cons_append.{0} (aI @List.nil_append.{0} (aI @List.append_eq.{0} @ai))))))))))))))) f2 ?_
   exact bE (1+1) [0,1] [] ((by omega))
   all_goals exact aW rfl rfl
  ·refine wS (aI @hs (aI @hg0 (aI @hg1 (aI @hg2 (aI @afo (aI @afp (aI @afq (aI @afr (aI @Int.natCast_one (aI @au (aI @List.length_cons.{0} (aI @List.length_nil.{0} (aI @List.cons_append.{0} (aI @List.nil_append.{0} (aI @List.append_eq.{0} @ai))))))))))))))) (aI f3 aaM) ?_
   exact bE (2+1) [0,1] [] ((by omega))
   all_goals exact aW rfl rfl
  ·exact wR (aI @hs (aI @hg0 (aI @hg1 (aI @hg2 (aI @afo (aI @afp (aI @afq (aI @afr (aI @Int.natCast_one (aI @au (aI @List.length_cons.{0} (aI @List.length_nil.{0} (aI @List.cons_append.{0} (aI @List.nil_append.{0} (aI @List.append_eq.{0} @ai))))))))))))))) trivial (ids [1])
theorem kc1:(⟨#[105,110,115,101,114,116,32,97,32,45,32,120,32,51]⟩:ByteArray)=sB [105,110,115,101,114,116,32,97,32,45,32,120,32,51]:=rfl
theorem kc2:(⟨#[112,105,99,107,32,49,10,35,32,110,111,116,104,105,110,103,10,99,97,108,108,32,48,32,108,105,115,116]⟩:ByteArray)=sB kT:=rfl
theorem kc3:(⟨#[101,114,114,111,114,32,49,52]⟩:ByteArray)=sB [101,114,114,111,114,32,49,52]:=rfl
theorem kc4:(⟨#[101,114,114,111,114,32]⟩:ByteArray)=sB [101,114,114,111,114,32]:=rfl
theorem ka1:(⟨#[97]⟩:ByteArray)=sB [97]:=rfl
theorem ka2:(⟨#[120]⟩:ByteArray)=sB [120]:=rfl
theorem ajw:ak 3=[51]:=by rw[uQ,if_neg (by decide)];exact RD 3 (by decide)
theorem afs:ak 14=[49,52]:=by
 rw[uQ,if_neg (by decide)]
 show dd 14=_
 rw[ahb 14 (by decide),RD (14 / 10) (by decide)]
 rfl
theorem anP:kw [120]=[120]:=by decide
def O6:O:=⟨6,[97],[],[],0,0,0,0,[([120],3)],[],0,0,0,0,0,0,0,[],0,0,0,[]⟩
theorem ajx:O6.Oct:=⟨jI _ rfl,dV,(fun _ h=>by cases h),(fun x h=>by simp [O6] at h;rw[h];exact jI _ rfl),dV,dV,dV⟩
theorem alS:vop O6=0:=by decide
theorem ajy:jn (qU O6)=[105,110,115,101,114,116,32,97,32,45,32,120,32,51]:=by
 have:qU O6=[[105,110,115,101,114,116],[97],[45],kw [120],ak 3]:=rfl
 rw[this,anP,ajw]
 rfl
theorem ajz:Gxx 13 [.agg [vi 6,vs [97],vs [],nls,vi 0,vi 0,vi 0,vu 0,fzt [([120],3)],nls,vi 0,vi 0,vi 0,vi 0,vi 0,vi 0,vi 0,vs [],vi 0,vi 0,vi 0,nls]] (.tup [vs [105,110,115,101,114,116,32,97,32,45,32,120,32,51],vi 0]):=by
 have h:=La O6 ajx rfl alS (by decide) (by decide) (by decide) (fun x hx=>by simp [O6] at hx;rw[hx];exact⟨by decide,by decide⟩)
 rw[ajy] at h
 refine h.wk ⟨.inr ⟨_,_,rfl,rfl, ?_⟩,trivial⟩
 (repeat' (first|exact trivial|refine iV (.inl rfl) ?_|refine iV (oq _ _) ?_))
abbrev rsC(e c v h:Int)(nm:V)(a b:Int)(k:List Nat)(nu en:V)(st:Bool)(da:V):List V:=[vi e,vi c,vi v,vi h,nm,vi a,vi b,vs k,nu,en,vb st,da]
theorem Vt(e c v h:Int)(nm:V)(a b:Int)(k:List Nat)(nu en:V)(st:Bool)(da:V)(he:Wt e)(h0:e≠0)(hnm:nm.erase=nm)(hnu:nu.erase=nu)(hen:en.erase=en)(hda:da.erase=da) :
  Gxx 23 [.agg (rsC e c v h nm a b k nu en st da)] (vs ([101,114,114,111,114,32]++ak e)):=by
 have hi:=jv e he.1 he.2
 have hl:=vX e he.1 he.2
 have hs:([101,114,114,111,114,32]:List Nat).length+(ak e).length≤9223372036854775807:=by show 6+_≤_;omega
 refine gI oW Tryz.func23 Tryz.results23 ?_
 (repeat' (first|(simp (disch:=first|exact dqz|fail) only[pgz,simprocAttr,Tryz.f23,h0,kc4,adW _ _ _ _ hs])|((with_reducible show gU _ _ _ _ _ _);first|refine cU hi ?_)|((with_reducible first|apply di|apply bK|apply eX)<;>intro hc<;>(try simp only[hc])<;>(try simp only[pgd] at hc))|(with_reducible refine cK ?_)))
 exact rE []
theorem aaQ:Gxx 23 [.agg (rsC 14 0 0 0 nls 0 0 [] nls nls false nls)] (vs [101,114,114,111,114,32,49,52]):=by
 have h:=Vt 14 0 0 0 nls 0 0 [] nls nls false nls ⟨by decide,by decide⟩ (by decide) rfl rfl rfl rfl
 rw[afs] at h
 exact h
theorem aft:Gxx 10 [] (vb true):=by
 have h1:=ajz
 have h2:=aaP
 have h3:=aaQ
 refine gI oW Tryz.func10 Tryz.results10 ?_
 exact wR (aI @kc1 (aI @kc2 (aI @kc3 (aI @ka1 (aI @ka2 (aI @ai (aI @DY (aI @List.length_cons.{0} (aI @List.length_nil.{0} (aI @List.cons_append.{0} (aI @List.nil_append.{0} @List.append_eq.{0}))))))))))) (aI h1 (aI h2 h3)) ah
end Go.Proofs.YtjiolbcdfgclaaaGreatDoor
