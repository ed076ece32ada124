/-
  ScriptParses: for every input the law returns true and the input reads as it did: the row and its card.
-/
import Derived.Lay
import Derived.Test.YtjiolbcdfgclaaaGreatDoorWAW
import Derived.Test.YtjiolbcdfgclaaaGreatDoorWBD
set_option linter.unusedVariables false
set_option linter.unusedSimpArgs false
set_option linter.unusedSectionVars false
set_option linter.defProp false
set_option maxRecDepth 100000
set_option maxHeartbeats 8000000
namespace Go.Proofs.YtjiolbcdfgclaaaGreatDoor
open Go Go.ChangeShapes Go.WideShapes Go.ChangeAt Go.RowKit
open Go.ChangeMaps (open_string shut_string)
theorem anV(os:Os)(args:Array Value):laidMetH Tryz.prog Rows.scriptParsesRow.laid ((World.laidAll Tryz.prog os Rows.scriptParsesRow.laid).forCall (fun _ _=>0) ⟨#[],args,[]⟩).memory:=by
 rw[MakeChecks.laidMetH_plain _ _ _ (by kernel_rfl)]
 exact laidMet_laidAll _ (by kernel_rfl) (by kernel_rfl)
theorem apB(os:Os)(started:os.Started)(H:Type)(enc:TypeId × Value→H) :
  ReturnsInHanded {} Tryz.checked os 5 .any (fun w args=>(Rows.scriptParsesSpec.pre enc Tryz.prog Tryz.f5 [] false w args∧laidMetH Tryz.prog Rows.scriptParsesRow.laid w)∧sizedMet enc Tryz.prog Tryz.f5 (OpenSpec.ofChange Rows.scriptParsesSpec) false w args)
   (Rows.scriptParsesSpec.post enc Tryz.prog Tryz.f5 false true false false):=by
 refine aoA (C:=Tryz.checked) (X:=fun w _=>laidMetH Tryz.prog Rows.scriptParsesRow.laid w) (fun _ _ _ hh h=>h.of_heap hh) own started (by kernel_rfl) Tryz.func5
  (ChangeSpec.witness_shaped (enc:=enc) (C:=Tryz.checked) (os:=os) (X:=fun w _=>laidMetH Tryz.prog Rows.scriptParsesRow.laid w) false (World.laidAll Tryz.prog os Rows.scriptParsesRow.laid) #[.string .empty,.slice none 0 0,.int .i64 0,.int .i64 0,.int .u8 0] 8 rfl (World.shaped_of_ZipB (by kernel_rfl) (by kernel_rfl)) (by kernel_rfl) (by kernel_rfl) (by kernel_rfl) (anV os _)) ?_
 intro W base args ds gs before hval0 hW hL hsh
 have hval:∀(j:Nat) t v,Tryz.f5.params[j]?=some t→args[j]?=some v→Value.okWide Tryz.prog W .any base t v:=hval0
 have hW':=hW
 obtain⟨p,q,hA0,hV,rfl,_,_⟩:=hW
 have hA:DataW.TrodAll enc Tryz.prog W 0 (fun _=>true) true Tryz.f5.params.toList args.toList ds p:=hA0
 rw[Tryz.params5] at hA hval
 obtain⟨v0,vs1,d0,ds1,p0,q0,ha0,rfl,rfl,h0,hA1⟩:=trodAll_cons hA
 obtain⟨v1,vs2,d1,ds2,p1,q1,rfl,rfl,rfl,h1,hA2⟩:=trodAll_cons hA1
 obtain⟨v2,v3,v4,d2,d3,d4,p2,p3,p4,ha3,rfl,rfl,h2,h3,h4⟩:=trodAll_three (args:=vs2.toArray) hA2
 obtain rfl:vs2=[v2,v3,v4]:=by simpa using congrArg Array.toList ha3
 obtain rfl:args=#[v0,v1,v2,v3,v4]:=Array.toList_inj.1 ha0
 clear ha0 ha3 hA1 hA2
 obtain⟨rfl,rfl⟩:=trodVars_none hV
 obtain⟨z,rfl,rfl,rfl,wz⟩:=open_string Tryz.underlying9 (hval 0 9 v0 rfl rfl) h0
 obtain⟨sa,len,cap,hv1⟩:=okWide_slice Tryz.underlying22 (hval 1 22 v1 rfl rfl)
 obtain⟨n,rfl,rfl,rfl,wn⟩:=open_int Tryz.underlying3 (hval 2 3 v2 rfl rfl) h2
 obtain⟨k,rfl,rfl,rfl,wk⟩:=open_int Tryz.underlying3 (hval 3 3 v3 rfl rfl) h3
 obtain⟨c',rfl,rfl,rfl,wc⟩:=open_int Tryz.underlying5 (hval 4 5 v4 rfl rfl) h4
 clear hA0 hval0
 rw[MakeChecks.laidMetH_plain _ _ _ (by kernel_rfl)] at hL
 have hT:Pg.Tb.T Tryz.prog W:=aoE hL hsh
 simp only[List.append_nil,List.nil_append] at hW'
 have hlt:∀x∈p1,x.block<W.heap.size:=fun x hx=>by simpa using hW'.lt x (by simpa using hx)
 have h1':=h1
 obtain⟨fuel1,hf1⟩:=h1'
 obtain⟨l,hll,hr1⟩:=aoS hv1 hf1
 obtain⟨b,ho,rfl⟩:=Pg.aq8 z
 have hc:=bounds_u8 wc
 obtain⟨c,rfl⟩:∃c:Nat,c'=c:=⟨c'.toNat,by omega⟩
 refine ((aq7 b ho l hll n k c (by omega)).2 (fun g=>g<W.heap.size) W [.string (Pg.sB b),v1,.int .i64 n,.int .i64 k,.int .u8 (c:Int)] hT (fun g h=>h) ⟨_,_,rfl,rfl,_,_,rfl,hr1,_,_,rfl,rfl,_,_,rfl,rfl,_,_,rfl,rfl,rfl⟩).mono ?_
 rintro e W' ⟨u,L,rfl,hu,hk,_⟩
 have hu':u = .bool true:=hu
 subst hu'
 have hb:=ao6 hk
 have harg1:DataW.Trod enc Tryz.prog W' 0 (fun b=>decide (b<W.heap.size)) true 22 v1 d1 p1 :=
  Below.trod aoO (by kernel_rfl) (of_decide_eq_true (by kernel_rfl)) h1 hb (fun x hx=>hlt x hx)
 have harg0:DataW.Trod enc Tryz.prog W' 0 (fun b=>decide (b<W.heap.size)) true 9 (.string (Pg.sB b)) _ [] :=
  Below.trod aoO (by kernel_rfl) (of_decide_eq_true (by kernel_rfl)) h0 hb (fun x hx=>by cases hx)
 refine⟨_,rfl,_,_,_,[],_,_,hW', ?_,trodAll_cons_mk harg0 (trodAll_cons_mk harg1 (trodAll_mk3 (shut_int Tryz.underlying3 wn) (shut_int Tryz.underlying3 wk) (shut_int Tryz.underlying5 wc))),rfl,hb.frame _,fun h=>by cases h⟩
 exact trodAll_mk1 (shut_bool Tryz.underlying4 _)
theorem apg:(Rows.scriptParsesRow.inPlace == Tryz.prog.inPlace 5)=true:=by kernel_rfl
theorem aph:(Rows.scriptParsesRow.unfollowed == Tryz.prog.unfollowed 5)=true:=by kernel_rfl
theorem api:(Rows.scriptParsesRow.recurses == Tryz.prog.recurses 5)=true:=by kernel_rfl
theorem apj:(Rows.scriptParsesRow.named == Tryz.prog.varsNamed 5)=true:=by kernel_rfl
theorem jf:joinedFacts Tryz.prog 5 Tryz.f5 Rows.scriptParsesSpec Rows.scriptParsesRow=true:=by
 unfold joinedFacts
 rw[apg,aph,api,apj]
 kernel_rfl
theorem law_holds:Rows.ScriptParsesSaid :=
 OpenClaim.holds_of_wide 5 Tryz.f5 rfl rfl rfl rfl rfl rfl rfl ⟨rfl,rfl,rfl,rfl,rfl⟩ rfl rfl rfl rfl rfl (by kernel_rfl) Tryz.func5 jf
  (of_decide_eq_true (by kernel_rfl)) (by unfold Func.isWrapper;first|(rw[if_pos (by decide +kernel)];kernel_rfl)|(rw[if_neg (by decide +kernel)];exact⟨rfl,rfl⟩))
  (fun os started H enc _=>apB os started H enc)
theorem card_holds:Rows.ScriptParsesCardSaid :=
 Claim7.holds_tied_plain_at .later [] [.data,.data,.data,.data,.sentinel,.sentinel,.pinned] true (true,Rows.scriptParsesCard.stood.harness.2) true
  law_holds (fun _ h=>by cases h) (by kernel_rfl) (fun _ h=>by cases h) scriptParses_row_tie rfl ⟨rfl,rfl⟩ (by kernel_rfl) rfl
  (fun f fn hf hfn=>by
   obtain rfl:f=5:=Option.some.inj ((show Tryz.prog.funcNamed Rows.scriptParsesRow.func=some 5 by kernel_rfl).symm.trans hf) |>.symm
   obtain rfl:fn=Tryz.f5:=(Option.some.inj (Tryz.func5.symm.trans hfn)).symm
   exact⟨by kernel_rfl,fun j t ht=>by
    rw[Tryz.params5] at ht
    have hm:t∈[9,22,3,3,5]:=by simpa using Array.mem_of_getElem? ht
    have hall:([9,22,3,3,5].all fun u => !Tryz.prog.wantsStandIn u)=true:=by kernel_rfl
    exact (show Tryz.prog.wantsStandIn t=false by simpa using List.all_eq_true.1 hall t hm)⟩)
  (by kernel_rfl)
end Go.Proofs.YtjiolbcdfgclaaaGreatDoor
