/-
  SketchUnion: for every input the law returns true and the input reads as it did. No condition.
-/
import Derived.Test.YtiohdbjggmmjcaaGreatWBW
import Derived.Test.YtiohdbjggmmjcaaGreatWBJ
set_option linter.unusedVariables false
set_option linter.unusedSimpArgs false
set_option linter.unusedSectionVars false
set_option linter.defProp false
set_option maxRecDepth 100000
set_option maxHeartbeats 8000000
namespace Go.Proofs.YtiohdbjggmmjcaaGreat
open Go Go.ChangeShapes Go.WideShapes Go.ChangeAt Go.RowKit
theorem NV(os:Os)(started:os.Started)(H:Type)(enc:TypeId × Value→H) :
  ReturnsInHanded {} Tryz.checked os 5 .any (Rows.sketchUnionSpec.pre6 enc Tryz.prog Tryz.f5 Rows.sketchUnionRow.domain false) (Rows.sketchUnionSpec.post enc Tryz.prog Tryz.f5 false true false false):=by
 refine returnsInHanded_of_change (C:=Tryz.checked) own started (by kernel_rfl) Tryz.func5
  (ChangeSpec.witness6 (enc:=enc) (C:=Tryz.checked) false ⟨#[],#[.slice none 0 0,.slice none 0 0,.int .i64 0],[]⟩ 8 (by kernel_rfl) (by kernel_rfl) (by kernel_rfl) (by kernel_rfl)) ?_
 intro W base args ds gs before hval0 hW _ _
 have hval:∀(j:Nat) t v,Tryz.f5.params[j]?=some t→args[j]?=some v→Value.okWide Tryz.prog W .any base t v:=hval0
 have hW':=hW
 obtain⟨p,q,hA0,hV,rfl,_,_⟩:=hW
 have hA:DataW.TrodAll enc Tryz.prog W 0 (fun _=>true) true Tryz.f5.params.toList args.toList ds p:=hA0
 rw[Tryz.params5] at hA hval
 obtain⟨v0,v1,v2,d0,d1,d2,p0,p1,p2,rfl,rfl,rfl,h0,h1,h2⟩:=trodAll_three hA
 obtain⟨rfl,rfl⟩:=trodVars_none hV
 obtain⟨a0,len0,cap0,hv0⟩:=okWide_slice Tryz.underlying22 (hval 0 22 v0 rfl rfl)
 obtain⟨a1,len1,cap1,hv1⟩:=okWide_slice Tryz.underlying22 (hval 1 22 v1 rfl rfl)
 obtain⟨n,rfl,rfl,rfl,wn⟩:=open_int Tryz.underlying3 (hval 2 3 v2 rfl rfl) h2
 clear hA0 hval0
 simp only[List.append_nil] at hW'
 have hlt:∀x∈p0++p1,x.block<W.heap.size:=fun x hx=>by simpa using hW'.lt x (by simpa using hx)
 have h0':=h0
 obtain⟨fuel0,hf0⟩:=h0'
 obtain⟨l,hll,hr0⟩:=TU hv0 hf0
 have h1':=h1
 obtain⟨fuel1,hf1⟩:=h1'
 obtain⟨m,hml,hr1⟩:=TU hv1 hf1
 refine ((Zg l m n hll hml).2 (fun g=>g<W.heap.size) W [v0,v1,.int .i64 n] trivial (fun g h=>h) ⟨_,_,rfl,hr0,_,_,rfl,hr1,_,_,rfl,rfl,rfl⟩).mono ?_
 rintro e W' ⟨u,L,rfl,hu,hk,_⟩
 have hu':u = .bool true:=hu
 subst hu'
 have hb:=ag0 hk
 have harg0:DataW.Trod enc Tryz.prog W' 0 (fun b=>decide (b<W.heap.size)) true 22 v0 d0 p0 :=
  Below.trod acS (by kernel_rfl) (of_decide_eq_true (by kernel_rfl)) h0 hb (fun x hx=>hlt x (List.mem_append_left _ hx))
 have harg1:DataW.Trod enc Tryz.prog W' 0 (fun b=>decide (b<W.heap.size)) true 22 v1 d1 p1 :=
  Below.trod acS (by kernel_rfl) (of_decide_eq_true (by kernel_rfl)) h1 hb (fun x hx=>hlt x (List.mem_append_right _ hx))
 refine⟨_,rfl,_,_,_,[],_,_,hW', ?_,trodAll_mk3 harg0 harg1 (shut_int Tryz.underlying3 wn),rfl,hb.frame _,fun h=>by cases h⟩
 exact trodAll_mk1 (shut_bool Tryz.underlying4 _)
theorem alX:(Rows.sketchUnionRow.inPlace == Tryz.prog.inPlace 5)=true:=by kernel_rfl
theorem alY:(Rows.sketchUnionRow.unfollowed == Tryz.prog.unfollowed 5)=true:=by kernel_rfl
theorem alZ:(Rows.sketchUnionRow.recurses == Tryz.prog.recurses 5)=true:=by kernel_rfl
theorem al0:(Rows.sketchUnionRow.named == Tryz.prog.varsNamed 5)=true:=by kernel_rfl
theorem ju:joinedFacts Tryz.prog 5 Tryz.f5 Rows.sketchUnionSpec Rows.sketchUnionRow=true:=by
 unfold joinedFacts
 rw[alX,alY,alZ,al0]
 kernel_rfl
theorem law_holds:Rows.SketchUnionSaid :=
 OpenClaim.holds_of_wide 5 Tryz.f5 rfl rfl rfl rfl rfl rfl rfl ⟨rfl,rfl,rfl,rfl,rfl⟩ rfl rfl rfl rfl rfl (by kernel_rfl) Tryz.func5 ju
  (of_decide_eq_true (by kernel_rfl)) (by unfold Func.isWrapper;first|(rw[if_pos (by decide +kernel)];kernel_rfl)|(rw[if_neg (by decide +kernel)];exact⟨rfl,rfl⟩))
  (fun os started H enc _=>NV os started H enc)
end Go.Proofs.YtiohdbjggmmjcaaGreat
