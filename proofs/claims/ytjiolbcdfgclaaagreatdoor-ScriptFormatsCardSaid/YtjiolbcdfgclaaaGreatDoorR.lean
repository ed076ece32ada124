/-
  ScriptFormats: for every input the law returns true and the input reads as it did: the row and its card.
-/
import Derived.Lay
import Derived.Test.YtjiolbcdfgclaaaGreatDoorWAX
import Derived.Test.YtjiolbcdfgclaaaGreatDoorWAY
set_option linter.unusedVariables false
set_option linter.unusedSimpArgs false
set_option linter.unusedSectionVars false
set_option linter.defProp false
set_option maxRecDepth 100000
set_option maxHeartbeats 8000000
namespace Go.Proofs.YtjiolbcdfgclaaaGreatDoor
open Go Go.ChangeShapes Go.WideShapes Go.ChangeAt Go.RowKit
theorem anV(os:Os)(args:Array Value):laidMetH Tryz.prog Rows.scriptFormatsRow.laid ((World.laidAll Tryz.prog os Rows.scriptFormatsRow.laid).forCall (fun _ _=>0) ⟨#[],args,[]⟩).memory:=by
 rw[MakeChecks.laidMetH_plain _ _ _ (by kernel_rfl)]
 exact laidMet_laidAll _ (by kernel_rfl) (by kernel_rfl)
theorem apB(os:Os)(started:os.Started)(H:Type)(enc:TypeId × Value→H) :
  ReturnsInHanded {} Tryz.checked os 8 .any (fun w args=>(Rows.scriptFormatsSpec.pre enc Tryz.prog Tryz.f8 [] false w args∧laidMetH Tryz.prog Rows.scriptFormatsRow.laid w)∧sizedMet enc Tryz.prog Tryz.f8 (OpenSpec.ofChange Rows.scriptFormatsSpec) false w args)
   (Rows.scriptFormatsSpec.post enc Tryz.prog Tryz.f8 false true false false):=by
 refine aoA (C:=Tryz.checked) (X:=fun w _=>laidMetH Tryz.prog Rows.scriptFormatsRow.laid w) (fun _ _ _ hh h=>h.of_heap hh) own started (by kernel_rfl) Tryz.func8
  (ChangeSpec.witness_shaped (enc:=enc) (C:=Tryz.checked) (os:=os) (X:=fun w _=>laidMetH Tryz.prog Rows.scriptFormatsRow.laid w) false (World.laidAll Tryz.prog os Rows.scriptFormatsRow.laid) #[.slice none 0 0,.int .i64 0,.int .i64 0] 8 rfl (World.shaped_of_ZipB (by kernel_rfl) (by kernel_rfl)) (by kernel_rfl) (by kernel_rfl) (by kernel_rfl) (anV os _)) ?_
 intro W base args ds gs before hval0 hW hL hsh
 have hval:∀(j:Nat) t v,Tryz.f8.params[j]?=some t→args[j]?=some v→Value.okWide Tryz.prog W .any base t v:=hval0
 have hW':=hW
 obtain⟨p,q,hA0,hV,rfl,_,_⟩:=hW
 have hA:DataW.TrodAll enc Tryz.prog W 0 (fun _=>true) true Tryz.f8.params.toList args.toList ds p:=hA0
 rw[Tryz.params8] at hA hval
 obtain⟨v0,v1,v2,d0,d1,d2,p0,p1,p2,rfl,rfl,rfl,h0,h1,h2⟩:=trodAll_three hA
 obtain⟨rfl,rfl⟩:=trodVars_none hV
 obtain⟨sa,len,cap,hv0⟩:=okWide_slice Tryz.underlying22 (hval 0 22 v0 rfl rfl)
 obtain⟨n,rfl,rfl,rfl,wn⟩:=open_int Tryz.underlying3 (hval 1 3 v1 rfl rfl) h1
 obtain⟨k,rfl,rfl,rfl,wk⟩:=open_int Tryz.underlying3 (hval 2 3 v2 rfl rfl) h2
 clear hA0 hval0
 rw[MakeChecks.laidMetH_plain _ _ _ (by kernel_rfl)] at hL
 have hT:Pg.Tb.T Tryz.prog W:=aoE hL hsh
 simp only[List.append_nil] at hW'
 have hlt:∀x∈p0,x.block<W.heap.size:=fun x hx=>by simpa using hW'.lt x (by simpa using hx)
 have h0':=h0
 obtain⟨fuel0,hf0⟩:=h0'
 obtain⟨l,hll,hr0⟩:=aoS hv0 hf0
 refine ((ap1 l hll n k).2 (fun g=>g<W.heap.size) W [v0,.int .i64 n,.int .i64 k] hT (fun g h=>h) ⟨_,_,rfl,hr0,_,_,rfl,rfl,_,_,rfl,rfl,rfl⟩).mono ?_
 rintro e W' ⟨u,L,rfl,hu,hk,_⟩
 have hu':u = .bool true:=hu
 subst hu'
 have hb:=ao6 hk
 have harg0:DataW.Trod enc Tryz.prog W' 0 (fun b=>decide (b<W.heap.size)) true 22 v0 d0 p0 :=
  Below.trod aoO (by kernel_rfl) (of_decide_eq_true (by kernel_rfl)) h0 hb (fun x hx=>hlt x hx)
 refine⟨_,rfl,_,_,_,[],_,_,hW', ?_,trodAll_mk3 harg0 (shut_int Tryz.underlying3 wn) (shut_int Tryz.underlying3 wk),rfl,hb.frame _,fun h=>by cases h⟩
 exact trodAll_mk1 (shut_bool Tryz.underlying4 _)
theorem apg:(Rows.scriptFormatsRow.inPlace == Tryz.prog.inPlace 8)=true:=by kernel_rfl
theorem aph:(Rows.scriptFormatsRow.unfollowed == Tryz.prog.unfollowed 8)=true:=by kernel_rfl
theorem api:(Rows.scriptFormatsRow.recurses == Tryz.prog.recurses 8)=true:=by kernel_rfl
theorem apj:(Rows.scriptFormatsRow.named == Tryz.prog.varsNamed 8)=true:=by kernel_rfl
theorem jf:joinedFacts Tryz.prog 8 Tryz.f8 Rows.scriptFormatsSpec Rows.scriptFormatsRow=true:=by
 unfold joinedFacts
 rw[apg,aph,api,apj]
 kernel_rfl
theorem law_holds:Rows.ScriptFormatsSaid :=
 OpenClaim.holds_of_wide 8 Tryz.f8 rfl rfl rfl rfl rfl rfl rfl ⟨rfl,rfl,rfl,rfl,rfl⟩ rfl rfl rfl rfl rfl (by kernel_rfl) Tryz.func8 jf
  (of_decide_eq_true (by kernel_rfl)) (by unfold Func.isWrapper;first|(rw[if_pos (by decide +kernel)];kernel_rfl)|(rw[if_neg (by decide +kernel)];exact⟨rfl,rfl⟩))
  (fun os started H enc _=>apB os started H enc)
theorem card_holds:Rows.ScriptFormatsCardSaid :=
 Claim7.holds_tied_plain_at .later [] [.data,.data,.data,.data,.sentinel,.sentinel,.pinned] true (true,Rows.scriptFormatsCard.stood.harness.2) true
  law_holds (fun _ h=>by cases h) (by kernel_rfl) (fun _ h=>by cases h) scriptFormats_row_tie rfl ⟨rfl,rfl⟩ (by kernel_rfl) rfl
  (fun f fn hf hfn=>by
   obtain rfl:f=8:=Option.some.inj ((show Tryz.prog.funcNamed Rows.scriptFormatsRow.func=some 8 by kernel_rfl).symm.trans hf) |>.symm
   obtain rfl:fn=Tryz.f8:=(Option.some.inj (Tryz.func8.symm.trans hfn)).symm
   exact⟨by kernel_rfl,fun j t ht=>by
    rw[Tryz.params8] at ht
    have hm:t∈[22,3,3]:=by simpa using Array.mem_of_getElem? ht
    have hall:([22,3,3].all fun u => !Tryz.prog.wantsStandIn u)=true:=by kernel_rfl
    exact (show Tryz.prog.wantsStandIn t=false by simpa using List.all_eq_true.1 hall t hm)⟩)
  (by kernel_rfl)
end Go.Proofs.YtjiolbcdfgclaaaGreatDoor
