/-
  Texts of this claim, merged; own names are short.
-/
import Derived.Test.YtiohdbjggmmjcaaGreatWAY
import Derived.Test.YtiohdbjggmmjcaaGreatWBC
import Derived.Test.YtiohdbjggmmjcaaGreatWBA
import Derived.Test.YtiohdbjggmmjcaaGreatWAW
import Derived.Test.YtiohdbjggmmjcaaGreatWAT
import Derived.Test.YtiohdbjggmmjcaaGreatWBF
set_option linter.unusedVariables false
set_option linter.unusedSimpArgs false
set_option linter.unusedSectionVars false
set_option linter.defProp false
set_option maxRecDepth 100000
set_option maxHeartbeats 8000000
namespace Go.Proofs.YtiohdbjggmmjcaaGreat
open Go Go.Pg
theorem qC(e:Nat→V)(bx:Nat→Option (TypeId × List V))(n:Nat)(h:Nat→V)(b:Nat)(a c:Int)(z t lo:Int)(en:V)(sa:Bool)(ha:W64 a)(hc:W64 c)(hb:bx b=some (36,[vi z,vi t,vi lo,en,vb sa])) :
  GoodZ Tryz.prog 82 [.ref b 0,vi a,vi c] ⟨e,bx,n,h⟩ ⟨e,upd bx b (some (36,[vi z,vi t,vi lo,en,vb (sa||(aO a c).2)])),n,h⟩ (vi (aO a c).1):=by
 have k1:Pg.Good Tryz.prog 72 [vi a,vi c,vi 1099511627776] (.tup [vi (aO a c).1,vb (aO a c).2]):=BV a c 1099511627776 (by decide) ha hc
 generalize aO a c=r at *
 obtain⟨r1,r2⟩:=r
 simp only at k1 ⊢
 cases sa<;>cases r2
 all_goals
  refine gZ oW Tryz.func82 Tryz.results82 ?_
  (repeat' (first|(simp (disch:=first|exact dqz|fail) only[pgz,simprocAttr,oq,jK,gU,hb])|((with_reducible show bU _ _ _ _ _ _);refine cU k1 ?_)|(refine tS ?_ ?_<;>intro hc)|(with_reducible refine cK ?_)))
  refine Fz (aW _ _ _) ?_
  rw[jk,jl]
theorem Eh(l:List En)(d:Int)(hl:cin l)(h0:∀y∈l,y.2.2=0)(hd:1≤d∧d≤1099511627776)(hn:l.length≤1000000):Pg.Good Tryz.prog 84 [fzv l,vi d] (.sl (.own 0 119) 3 (ev (iU d l))):=by
 have hel:=aG l
 refine gI oW Tryz.func84 Tryz.results84 ?_
 (repeat' (first|(simp (disch:=first|exact dqz|fail) only[pgz,simprocAttr,hel])|(refine tS ?_ ?_<;>intro hc)|(with_reducible refine cK ?_)))
 refine df (fun s:Nat × List En=>mkA [(1,vi d),(5,.sl (.own 0 119) 3 (ev s.2)),(8,fzv l),(9,vi l.length),(10,vi s.1)] [] 1 (fun _ => .top)) (fun s=>s.1≤l.length∧s.2.length≤s.1∧s.2++iU d (l.drop s.1)=iU d l) (fun s=>l.length-s.1) (0,[]) [] [] ?_ ⟨Nat.zero_le _,Nat.le_refl _,rfl⟩ ?_
 ·(refine dN ?_ ?_ (gu _ _ _) (by decide) (by decide) (by decide) (by decide);(repeat' (first|exact trivial|refine dI _ _ rfl rfl ?_ ?_));all_goals (try simp only[pgs,pgl,pgx,pgf,pgw,di,dL,dm,dM,fA,iO,fO,pgn,simprocAttr]);all_goals (try (repeat' (first|apply aI)));all_goals (try (first|exact trivial|exact dE (by omega)|exact eH rfl|exact bP rfl rfl|exact jq rfl)))
  all_goals first|exact gG rfl|skip
 ·rintro⟨i,o⟩ ⟨hi,ho1,ho⟩
  simp only at hi ho1 ho
  have hol:=aG o
  rcases Nat.lt_or_ge i l.length with hlt|hge
  ·rw[iR l i ([],0,0) hlt] at ho
   have hg:=eY l i hlt
   have hc:=OT hl hlt
   have hz:(l.getD i ([],0,0)).2.2=0:=by
    rw[List.getD_eq_getElem?_getD,List.getElem?_eq_getElem hlt];exact h0 _ (List.getElem_mem hlt)
   have hlt2:((i:Int)<(l.length:Int))=True:=eq_true (by omega)
   generalize l.getD i ([],0,0)=y at *
   obtain⟨yk,yc,ye⟩:=y
   simp only at hg hc hz
   subst hz
   rw[pU] at ho
   simp only at ho
   have s1:=mr o yk (yc-d) 0
   by_cases hy:yc > d
   ·rw[if_pos hy] at ho
    have hy':(yc > d)=True:=eq_true hy
    (repeat' (first|(simp (disch:=first|exact dqz|fail) only[pgz,simprocAttr,aG,hel,hlt2,hg,s1,hy'])|(refine tS ?_ ?_<;>intro hc)|(with_reducible refine cK ?_)))
    (refine dh ((i+1,o++[(yk,yc-d,0)])) [0] [] (⟨hlt,by simp only[List.length_append,List.length_cons,List.length_nil];omega,by rw[←ho];simp⟩) (by first|omega|(simp only[List.length_cons];omega)) ?_;(refine dN ?_ ?_ (gu _ _ _) (by decide) (by decide) (by decide) (by decide);(repeat' (first|exact trivial|refine dI _ _ rfl rfl ?_ ?_));all_goals (try simp only[pgs,pgl,pgx,pgf,pgw,di,dL,dm,dM,fA,iO,fO,pgn,simprocAttr]);all_goals (try (repeat' (first|apply aI)));all_goals (try (first|exact trivial|exact dE (by omega)|exact eH rfl|exact bP rfl rfl|exact jq rfl))))
   ·rw[if_neg hy] at ho
    have hy':(yc > d)=False:=eq_false hy
    (repeat' (first|(simp (disch:=first|exact dqz|fail) only[pgz,simprocAttr,aG,hel,hlt2,hg,hy'])|(refine tS ?_ ?_<;>intro hc)|(with_reducible refine cK ?_)))
    (refine dh ((i+1,o)) [0] [] (⟨hlt,by simp only;omega,ho⟩) (by first|omega|(simp only[List.length_cons];omega)) ?_;(refine dN ?_ ?_ (gu _ _ _) (by decide) (by decide) (by decide) (by decide);(repeat' (first|exact trivial|refine dI _ _ rfl rfl ?_ ?_));all_goals (try simp only[pgs,pgl,pgx,pgf,pgw,di,dL,dm,dM,fA,iO,fO,pgn,simprocAttr]);all_goals (try (repeat' (first|apply aI)));all_goals (try (first|exact trivial|exact dE (by omega)|exact eH rfl|exact bP rfl rfl|exact jq rfl))))
  ·have:i=l.length:=by omega
   subst this
   rw[List.drop_length] at ho
   have ho:o=iU d l:=by rw[←ho];simp [iU]
   subst ho
   (repeat' (first|(simp (disch:=first|exact dqz|fail) only[pgz,simprocAttr,hel])|(refine tS ?_ ?_<;>intro hc)|(with_reducible refine cK ?_)))
   (refine rT [0] ?_;first|rfl|simp only[pgo,simprocAttr]|skip)
theorem afp{a b:List Nat}(ha:oct a)(hb:oct b)(h:u8 a=u8 b):a=b:=by
 refine EZ ha hb ?_
 have:∀x:List Nat,(⟨(u8 x).toArray⟩:ByteArray)=sB x:=fun x=>by
  show (⟨(sB x).data.toList.toArray⟩:ByteArray)=sB x
  rw[Array.toArray_toList]
 rw[←this a,←this b,h]
theorem adc{a b:List Nat}(ha:oct a)(hb:oct b)(hne:a≠b):kl a b = !kl b a:=by
 rw[Cb,Cb]
 by_cases h:u8 b<u8 a
 ·have h2:¬u8 a<u8 b:=fun k=>List.lt_irrefl _ (List.lt_trans h k)
  simp [h,h2]
 ·have h2:u8 a<u8 b:=Classical.byContradiction fun k=>hne (afp ha hb (List.le_antisymm (List.not_lt.1 h) (List.not_lt.1 k)))
  simp [h,h2]
theorem CS(k:List Nat):∀(l:List En) (i:Nat),0≤jd k i l→∃z∈l,z.1=k
 | [],i,h=>by unfold jd at h;omega
 | y::l,i,h=>by
  by_cases hy:y.1=k
  ·exact⟨y,List.mem_cons_self ..,hy⟩
  ·have e:jd k i (y::l)=jd k (i+1) l:=if_neg hy
   rw[e] at h
   obtain⟨z,hz,hk⟩:=CS k l (i+1) h
   exact⟨z,List.mem_cons_of_mem _ hz,hk⟩
theorem aeO(k:List Nat):∀(l:List En) (i:Nat),0≤jd k i l→(l.getD ((jd k i l).toNat-i) eD).1=k
 | [],i,h=>by unfold jd at h;omega
 | y::l,i,h=>by
  by_cases hy:y.1=k
  ·have e:jd k i (y::l)=i:=if_pos hy
   rw[e]
   have:((i:Int).toNat-i)=0:=by omega
   rw[this];exact hy
  ·have e:jd k i (y::l)=jd k (i+1) l:=if_neg hy
   rw[e] at h ⊢
   have h1:=aeO k l (i+1) h
   have h2:=Jg k l (i+1)
   have h3:(jd k (i+1) l).toNat-i=((jd k (i+1) l).toNat-(i+1))+1:=by omega
   rw[h3]
   exact h1
theorem afq(a:List Nat):kl a a=false:=by
 rw[Cb];simp [List.lt_irrefl]
theorem agY{a b c:List Nat}(h1:kl a b=true)(h2:kl b c=true):kl a c=true:=by
 rw[Cb,decide_eq_true_eq] at *
 exact List.lt_trans h1 h2
theorem mV{x:Fq}(ho:octE x.e)(h:vFq x=0):x.e.Pairwise fun a b=>kl a.1 b.1=true:=by
 have adj:∀i,i+1<x.e.length→kl (x.e.getD i eD).1 (x.e.getD (i+1) eD).1=true:=fun i hi=>by
  have h1:=(jW h).2.2.2.2 (i+1) hi
  unfold oC at h1
  split at h1
  ·cases h1
  ·split at h1
   ·cases h1
   ·split at h1
    ·cases h1
    ·rename_i h3
     have h4:¬leK (x.e.getD (i+1) eD).1 (x.e.getD i eD).1=true:=fun k=>h3 ⟨by omega,k⟩
     unfold leK at h4
     rw[Bool.or_eq_true,decide_eq_true_eq] at h4
     rw[adc (fV ho i) (fV ho (i+1)) (fun k=>h4 (.inr k.symm))]
     cases hk:kl (x.e.getD (i+1) eD).1 (x.e.getD i eD).1
     ·rfl
     ·exact absurd (.inl hk) h4
 have all:∀d i,i+d+1<x.e.length→kl (x.e.getD i eD).1 (x.e.getD (i+d+1) eD).1=true:=by
  intro d
  induction d with
  | zero=>intro i hi;exact adj i hi
  | succ d ih=>intro i hi;exact agY (ih i (by omega)) (adj (i+d+1) (by omega))
 rw[List.pairwise_iff_getElem]
 intro i j hi hj hij
 have:=all (j-i-1) i (by omega)
 rw[show i+(j-i-1)+1=j by omega] at this
 simpa [List.getD,hi,hj] using this
end Go.Proofs.YtiohdbjggmmjcaaGreat
