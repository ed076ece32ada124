/-
  ScriptWords: for every input the law returns true and the input reads as it did: the row and its card.
-/
import Derived.Lay
import Derived.Test.YtjiolbcdfgclaaaGreatDoorWAW
import Derived.Test.YtjiolbcdfgclaaaGreatDoorWBF
set_option linter.unusedVariables false
set_option linter.unusedSimpArgs false
set_option linter.unusedSectionVars false
set_option linter.defProp false
set_option maxRecDepth 100000
set_option maxHeartbeats 8000000
namespace Go.Proofs.YtjiolbcdfgclaaaGreatDoor
open Go Go.ChangeShapes Go.WideShapes Go.ChangeAt Go.RowKit
open Go.ChangeMaps (open_string shut_string)
theorem anV(os:Os)(args:Array Value):laidMetH Tryz.prog Rows.scriptWordsRow.laid ((World.laidAll Tryz.prog os Rows.scriptWordsRow.laid).forCall (fun _ _=>0) ⟨#[],args,[]⟩).memory:=by
 rw[MakeChecks.laidMetH_plain _ _ _ (by kernel_rfl)]
 exact laidMet_laidAll _ (by kernel_rfl) (by kernel_rfl)
theorem apB(os:Os)(started:os.Started)(H:Type)(enc:TypeId × Value→H) :
  ReturnsInHanded {} Tryz.checked os 4 .any (fun w args=>(Rows.scriptWordsSpec.pre enc Tryz.prog Tryz.f4 [] false w args∧laidMetH Tryz.prog Rows.scriptWordsRow.laid w)∧sizedMet enc Tryz.prog Tryz.f4 (OpenSpec.ofChange Rows.scriptWordsSpec) false w args)
   (Rows.scriptWordsSpec.post enc Tryz.prog Tryz.f4 false true false false):=by
 refine aoA (C:=Tryz.checked) (X:=fun w _=>laidMetH Tryz.prog Rows.scriptWordsRow.laid w) (fun _ _ _ hh h=>h.of_heap hh) own started (by kernel_rfl) Tryz.func4
  (ChangeSpec.witness_shaped (enc:=enc) (C:=Tryz.checked) (os:=os) (X:=fun w _=>laidMetH Tryz.prog Rows.scriptWordsRow.laid w) false (World.laidAll Tryz.prog os Rows.scriptWordsRow.laid) #[.slice none 0 0,.int .i64 0,.int .i64 0,.string .empty] 8 rfl (World.shaped_of_ZipB (by kernel_rfl) (by kernel_rfl)) (by kernel_rfl) (by kernel_rfl) (by kernel_rfl) (anV os _)) ?_
 intro W base args ds gs before hval0 hW hL hsh
 have hval:∀(j:Nat) t v,Tryz.f4.params[j]?=some t→args[j]?=some v→Value.okWide Tryz.prog W .any base t v:=hval0
 have hW':=hW
 obtain⟨p,q,hA0,hV,rfl,_,_⟩:=hW
 have hA:DataW.TrodAll enc Tryz.prog W 0 (fun _=>true) true Tryz.f4.params.toList args.toList ds p:=hA0
 rw[Tryz.params4] at hA hval
 obtain⟨v0,v1,v2,v3,d0,d1,d2,d3,p0,p1,p2,p3,rfl,rfl,rfl,h0,h1,h2,h3⟩:=trodAll_four hA
 obtain⟨rfl,rfl⟩:=trodVars_none hV
 obtain⟨sa,len,cap,hv0⟩:=okWide_slice Tryz.underlying22 (hval 0 22 v0 rfl rfl)
 obtain⟨n,rfl,rfl,rfl,wn⟩:=open_int Tryz.underlying3 (hval 1 3 v1 rfl rfl) h1
 obtain⟨k,rfl,rfl,rfl,wk⟩:=open_int Tryz.underlying3 (hval 2 3 v2 rfl rfl) h2
 obtain⟨z,rfl,rfl,rfl,wz⟩:=open_string Tryz.underlying9 (hval 3 9 v3 rfl rfl) h3
 clear hA0 hval0
 rw[MakeChecks.laidMetH_plain _ _ _ (by kernel_rfl)] at hL
 have hT:Pg.Tb.T Tryz.prog W:=aoE hL hsh
 simp only[List.append_nil] at hW'
 have hlt:∀x∈p0,x.block<W.heap.size:=fun x hx=>by simpa using hW'.lt x (by simpa using hx)
 have h0':=h0
 obtain⟨fuel0,hf0⟩:=h0'
 obtain⟨l,hll,hr0⟩:=aoS hv0 hf0
 obtain⟨b,ho,rfl⟩:=Pg.aq8 z
 refine ((arC l hll n k b ho).2 (fun g=>g<W.heap.size) W [v0,.int .i64 n,.int .i64 k,.string (Pg.sB b)] hT (fun g h=>h) ⟨_,_,rfl,hr0,_,_,rfl,rfl,_,_,rfl,rfl,_,_,rfl,rfl,rfl⟩).mono ?_
 rintro e W' ⟨u,L,rfl,hu,hk,_⟩
 have hu':u = .bool true:=hu
 subst hu'
 have hb:=ao6 hk
 have harg0:DataW.Trod enc Tryz.prog W' 0 (fun b=>decide (b<W.heap.size)) true 22 v0 d0 p0 :=
  Below.trod aoO (by kernel_rfl) (of_decide_eq_true (by kernel_rfl)) h0 hb (fun x hx=>hlt x hx)
 have harg3:DataW.Trod enc Tryz.prog W' 0 (fun b=>decide (b<W.heap.size)) true 9 (.string (Pg.sB b)) _ [] :=
  Below.trod aoO (by kernel_rfl) (of_decide_eq_true (by kernel_rfl)) h3 hb (fun x hx=>by cases hx)
 refine⟨_,rfl,_,_,_,[],_,_,hW', ?_,trodAll_mk4 harg0 (shut_int Tryz.underlying3 wn) (shut_int Tryz.underlying3 wk) harg3,rfl,hb.frame _,fun h=>by cases h⟩
 exact trodAll_mk1 (shut_bool Tryz.underlying4 _)
theorem apg:(Rows.scriptWordsRow.inPlace == Tryz.prog.inPlace 4)=true:=by kernel_rfl
theorem aph:(Rows.scriptWordsRow.unfollowed == Tryz.prog.unfollowed 4)=true:=by kernel_rfl
theorem api:(Rows.scriptWordsRow.recurses == Tryz.prog.recurses 4)=true:=by kernel_rfl
theorem apj:(Rows.scriptWordsRow.named == Tryz.prog.varsNamed 4)=true:=by kernel_rfl
theorem jf:joinedFacts Tryz.prog 4 Tryz.f4 Rows.scriptWordsSpec Rows.scriptWordsRow=true:=by
 unfold joinedFacts
 rw[apg,aph,api,apj]
 kernel_rfl
theorem law_holds:Rows.ScriptWordsSaid :=
 OpenClaim.holds_of_wide 4 Tryz.f4 rfl rfl rfl rfl rfl rfl rfl ⟨rfl,rfl,rfl,rfl,rfl⟩ rfl rfl rfl rfl rfl (by kernel_rfl) Tryz.func4 jf
  (of_decide_eq_true (by kernel_rfl)) (by unfold Func.isWrapper;first|(rw[if_pos (by decide +kernel)];kernel_rfl)|(rw[if_neg (by decide +kernel)];exact⟨rfl,rfl⟩))
  (fun os started H enc _=>apB os started H enc)
theorem card_holds:Rows.ScriptWordsCardSaid :=
 Claim7.holds_tied_plain_at .later [] [.data,.data,.data,.data,.sentinel,.sentinel,.pinned] true (true,Rows.scriptWordsCard.stood.harness.2) true
  law_holds (fun _ h=>by cases h) (by kernel_rfl) (fun _ h=>by cases h) scriptWords_row_tie rfl ⟨rfl,rfl⟩ (by kernel_rfl) rfl
  (fun f fn hf hfn=>by
   obtain rfl:f=4:=Option.some.inj ((show Tryz.prog.funcNamed Rows.scriptWordsRow.func=some 4 by kernel_rfl).symm.trans hf) |>.symm
   obtain rfl:fn=Tryz.f4:=(Option.some.inj (Tryz.func4.symm.trans hfn)).symm
   exact⟨by kernel_rfl,fun j t ht=>by
    rw[Tryz.params4] at ht
    have hm:t∈[22,3,3,9]:=by simpa using Array.mem_of_getElem? ht
    have hall:([22,3,3,9].all fun u => !Tryz.prog.wantsStandIn u)=true:=by kernel_rfl
    exact (show Tryz.prog.wantsStandIn t=false by simpa using List.all_eq_true.1 hall t hm)⟩)
  (by kernel_rfl)
end Go.Proofs.YtjiolbcdfgclaaaGreatDoor
