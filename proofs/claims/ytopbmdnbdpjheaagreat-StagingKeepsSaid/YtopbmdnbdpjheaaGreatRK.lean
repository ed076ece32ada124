/-
  StagingKeeps: for every input the law returns true and the input reads as it did. No condition.
-/
import Derived.Test.YtopbmdnbdpjheaaGreatKAG
set_option linter.all false
set_option linter.unusedVariables false
set_option linter.unusedSimpArgs false
set_option linter.unusedSectionVars false
set_option linter.defProp false
set_option maxRecDepth 100000
set_option maxHeartbeats 8000000
namespace Go.Proofs.YtopbmdnbdpjheaaGreat
open Go Go.ChangeShapes Go.WideShapes Go.ChangeAt Go.RowKit
theorem ak1(os:Os)(s:os.Started)(H:Type)(enc:TypeId×Value->H) :
  ReturnsInHanded {} Tryz.checked os 4 .any (Rows.stagingKeepsSpec.pre6 enc Tryz.prog Tryz.f4 Rows.stagingKeepsRow.domain false) (Rows.stagingKeepsSpec.post enc Tryz.prog Tryz.f4 false true false false):=by
 refine returnsInHanded_of_change (C:=Tryz.checked) own s (by kernel_rfl) Tryz.func4
  (ChangeSpec.witness6 (enc:=enc) (C:=Tryz.checked) false ⟨#[],#[.int .i64 0,.slice none 0 0,.slice none 0 0,.int .i64 0],[]⟩ 8 (by kernel_rfl) (by kernel_rfl) (by kernel_rfl) (by kernel_rfl)) ?_
 intro W base args ds gs A c hW _ _
 have a:∀(j:Nat) t v,Tryz.f4.params[j]?=some t->args[j]?=some v->Value.okWide Tryz.prog W .any base t v:=c
 have d:=hW
 obtain⟨p,q,r,hV,rfl,_,_⟩:=hW
 have hA:DataW.TrodAll enc Tryz.prog W 0 (fun _=>true) true Tryz.f4.params.toList args.toList ds p:=r
 rw[Tryz.params4]at hA a
 obtain⟨v0,v1,X,v3,d0,d1,d2,d3,p0,p1,p2,p3,rfl,rfl,rfl,h0,h1,h2,h3⟩:=trodAll_four hA
 obtain⟨rfl,rfl⟩:=trodVars_none hV
 obtain⟨a0,len0,Z,T⟩:=okWide_slice Tryz.underlying22 (a 1 22 v1 rfl rfl)
 obtain⟨a1,len1,cap1,U⟩:=okWide_slice Tryz.underlying22 (a 2 22 X rfl rfl)
 obtain⟨n,rfl,rfl,rfl,wn⟩:=open_int Tryz.underlying3 (a 0 3 v0 rfl rfl) h0
 obtain⟨m,rfl,rfl,rfl,wm⟩:=open_int Tryz.underlying3 (a 3 3 v3 rfl rfl) h3
 clear r c
 simp only[gV]at d
 have P:∀x∈p1,x.block<W.heap.size:=fun x hx=>by simpa using d.lt x (by simp[hx])
 have y:∀x∈p2,x.block<W.heap.size:=fun x hx=>by simpa using d.lt x (by simp[hx])
 have G:=h1
 obtain⟨E,J⟩:=G
 obtain⟨l,N,Q⟩:=Xq T J
 have I:=h2
 obtain⟨F,K⟩:=I
 obtain⟨k,M,R⟩:=Xq U K
 refine((ayp n l k m N M).2 (fun g=>g<W.heap.size) W [.int .i64 n,v1,X,.int .i64 m] ae (fun g h=>h) ⟨_,_,rfl,rfl,_,_,rfl,Q,_,_,rfl,R,_,_,rfl,rfl,rfl⟩).mono ?_
 rintro e Y ⟨u,L,rfl,hu,hk,_⟩
 have S:u = .bool true:=hu
 subst S
 have hb:=akQ hk
 have f:DataW.Trod enc Tryz.prog Y 0 (fun b=>decide (b<W.heap.size)) true 22 v1 d1 p1 :=
  Below.trod Wi (by kernel_rfl) (of_decide_eq_true (by kernel_rfl)) h1 hb P
 have i:DataW.Trod enc Tryz.prog Y 0 (fun b=>decide (b<W.heap.size)) true 22 X d2 p2 :=
  Below.trod Wi (by kernel_rfl) (of_decide_eq_true (by kernel_rfl)) h2 hb y
 refine⟨_,rfl,_,_,_,[],_,_,d,?_,trodAll_mk4 (shut_int Tryz.underlying3 wn) f i (shut_int Tryz.underlying3 wm),rfl,hb.frame _,fun h=>by cases h⟩
 exact trodAll_mk1 (shut_bool Tryz.underlying4 _)
theorem akK:(Rows.stagingKeepsRow.inPlace == Tryz.prog.inPlace 4)=true:=by kernel_rfl
theorem akL:(Rows.stagingKeepsRow.unfollowed == Tryz.prog.unfollowed 4)=true:=by kernel_rfl
theorem akM:(Rows.stagingKeepsRow.recurses == Tryz.prog.recurses 4)=true:=by kernel_rfl
theorem akN:(Rows.stagingKeepsRow.named == Tryz.prog.varsNamed 4)=true:=by kernel_rfl
theorem js:joinedFacts Tryz.prog 4 Tryz.f4 Rows.stagingKeepsSpec Rows.stagingKeepsRow=true:=by unfold joinedFacts;rw[akK,akL,akM,akN];kernel_rfl
theorem law_holds:Rows.StagingKeepsSaid :=
 OpenClaim.holds_of_wide 4 Tryz.f4 rfl rfl rfl rfl rfl rfl rfl ⟨rfl,rfl,rfl,rfl,rfl⟩ rfl rfl rfl rfl rfl (by kernel_rfl) Tryz.func4 js
  (of_decide_eq_true (by kernel_rfl)) (by unfold Func.isWrapper;first|(rw[ah (by decide +kernel)];kernel_rfl)|(rw[ag (by decide +kernel)];exact⟨rfl,rfl⟩))
  (fun os s H enc _=>ak1 os s H enc)
end Go.Proofs.YtopbmdnbdpjheaaGreat
