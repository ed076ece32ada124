/-
  StagingCompares: for every input the law returns true and the input reads as it did. No condition.
-/
import Derived.Test.YtopbmdnbdpjheaaGreatWAO
set_option linter.all false
set_option linter.unusedVariables false
set_option linter.unusedSimpArgs false
set_option linter.unusedSectionVars false
set_option linter.defProp false
set_option maxRecDepth 100000
set_option maxHeartbeats 8000000
namespace Go.Proofs.YtopbmdnbdpjheaaGreat
open Go Go.ChangeShapes Go.WideShapes Go.ChangeAt Go.RowKit
theorem ak1(os:Os)(started:os.Started)(H:Type)(enc:TypeId × Value->H) :
  ReturnsInHanded {} Tryz.checked os 3 .any (Rows.stagingComparesSpec.pre6 enc Tryz.prog Tryz.f3 Rows.stagingComparesRow.domain false) (Rows.stagingComparesSpec.post enc Tryz.prog Tryz.f3 false true false false):=by
 refine returnsInHanded_of_change (C:=Tryz.checked) own started (by kernel_rfl) Tryz.func3
  (ChangeSpec.witness6 (enc:=enc) (C:=Tryz.checked) false ⟨#[],#[.int .i64 0,.slice none 0 0,.slice none 0 0,.int .i64 0],[]⟩ 8 (by kernel_rfl) (by kernel_rfl) (by kernel_rfl) (by kernel_rfl)) ?_
 intro W base args ds gs before hval0 hW _ _
 have hval:∀(j:Nat) t v,Tryz.f3.params[j]?=some t->args[j]?=some v->Value.okWide Tryz.prog W .any base t v:=hval0
 have hW':=hW
 obtain⟨p,q,hA0,hV,rfl,_,_⟩:=hW
 have hA:DataW.TrodAll enc Tryz.prog W 0 (fun _=>true) true Tryz.f3.params.toList args.toList ds p:=hA0
 rw[Tryz.params3] at hA hval
 obtain⟨v0,v1,v2,v3,d0,d1,d2,d3,p0,p1,p2,p3,rfl,rfl,rfl,h0,h1,h2,h3⟩:=trodAll_four hA
 obtain⟨rfl,rfl⟩:=trodVars_none hV
 obtain⟨a0,len0,cap0,hv0⟩:=okWide_slice Tryz.underlying22 (hval 1 22 v1 rfl rfl)
 obtain⟨a1,len1,cap1,hv1⟩:=okWide_slice Tryz.underlying22 (hval 2 22 v2 rfl rfl)
 obtain⟨n,rfl,rfl,rfl,wn⟩:=open_int Tryz.underlying3 (hval 0 3 v0 rfl rfl) h0
 obtain⟨m,rfl,rfl,rfl,wm⟩:=open_int Tryz.underlying3 (hval 3 3 v3 rfl rfl) h3
 clear hA0 hval0
 simp only[gV] at hW'
 have hlt:∀x∈p1,x.block<W.heap.size:=fun x hx=>by simpa using hW'.lt x (by simp [hx])
 have hlt1:∀x∈p2,x.block<W.heap.size:=fun x hx=>by simpa using hW'.lt x (by simp [hx])
 have h1':=h1
 obtain⟨fuel0,hf0⟩:=h1'
 obtain⟨l,hll,hr0⟩:=Xq hv0 hf0
 have h2':=h2
 obtain⟨fuel1,hf1⟩:=h2'
 obtain⟨k,hkl,hr1⟩:=Xq hv1 hf1
 refine ((aiG n l k m hll hkl).2 (fun g=>g<W.heap.size) W [.int .i64 n,v1,v2,.int .i64 m] ae (fun g h=>h) ⟨_,_,rfl,rfl,_,_,rfl,hr0,_,_,rfl,hr1,_,_,rfl,rfl,rfl⟩).mono ?_
 rintro e W' ⟨u,L,rfl,hu,hk,_⟩
 have hu':u = .bool true:=hu
 subst hu'
 have hb:=akQ hk
 have harg0:DataW.Trod enc Tryz.prog W' 0 (fun b=>decide (b<W.heap.size)) true 22 v1 d1 p1 :=
  Below.trod Wi (by kernel_rfl) (of_decide_eq_true (by kernel_rfl)) h1 hb hlt
 have harg1:DataW.Trod enc Tryz.prog W' 0 (fun b=>decide (b<W.heap.size)) true 22 v2 d2 p2 :=
  Below.trod Wi (by kernel_rfl) (of_decide_eq_true (by kernel_rfl)) h2 hb hlt1
 refine⟨_,rfl,_,_,_,[],_,_,hW', ?_,trodAll_mk4 (shut_int Tryz.underlying3 wn) harg0 harg1 (shut_int Tryz.underlying3 wm),rfl,hb.frame _,fun h=>by cases h⟩
 exact trodAll_mk1 (shut_bool Tryz.underlying4 _)
theorem akK:(Rows.stagingComparesRow.inPlace == Tryz.prog.inPlace 3)=true:=by kernel_rfl
theorem akL:(Rows.stagingComparesRow.unfollowed == Tryz.prog.unfollowed 3)=true:=by kernel_rfl
theorem akM:(Rows.stagingComparesRow.recurses == Tryz.prog.recurses 3)=true:=by kernel_rfl
theorem akN:(Rows.stagingComparesRow.named == Tryz.prog.varsNamed 3)=true:=by kernel_rfl
theorem js:joinedFacts Tryz.prog 3 Tryz.f3 Rows.stagingComparesSpec Rows.stagingComparesRow=true:=by
 unfold joinedFacts
 rw[akK,akL,akM,akN]
 kernel_rfl
theorem law_holds:Rows.StagingComparesSaid :=
 OpenClaim.holds_of_wide 3 Tryz.f3 rfl rfl rfl rfl rfl rfl rfl ⟨rfl,rfl,rfl,rfl,rfl⟩ rfl rfl rfl rfl rfl (by kernel_rfl) Tryz.func3 js
  (of_decide_eq_true (by kernel_rfl)) (by unfold Func.isWrapper;first|(rw[ah (by decide +kernel)];kernel_rfl)|(rw[ag (by decide +kernel)];exact⟨rfl,rfl⟩))
  (fun os started H enc _=>ak1 os started H enc)
end Go.Proofs.YtopbmdnbdpjheaaGreat
