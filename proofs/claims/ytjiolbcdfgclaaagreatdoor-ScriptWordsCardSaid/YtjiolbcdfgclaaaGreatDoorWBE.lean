/-
  Texts of this claim, merged; own names are short.
-/
import Derived.Test.YtjiolbcdfgclaaaGreatDoorWAY
set_option linter.unusedVariables false
set_option linter.unusedSimpArgs false
set_option linter.unusedSectionVars false
set_option linter.defProp false
set_option maxRecDepth 100000
set_option maxHeartbeats 8000000
section
namespace Go.Pg
open Go
def aq9(t ti:TypeId)(pos:String)(f i d0 d1 d2 d3 d4 d5 d6 d7:Nat):List Oper :=
  [⟨some d0,.move (.tmp f),t,pos,#[],none⟩,⟨some d1,.move (.tmp i),ti,pos,#[],none⟩,
   ⟨some d2,.slice t (.tmp d0) none (some (.tmp d1)) none,t,pos,#[⟨0,.data⟩,⟨1,.data⟩],none⟩,
   ⟨some d3,.move (.tmp f),t,pos,#[],none⟩,⟨some d4,.move (.tmp i),ti,pos,#[],none⟩,
   ⟨some d5,.binOp .add ti (.tmp d4) (.const (.int .i64 1)) ti,ti,pos,#[⟨4,.data⟩],none⟩,
   ⟨some d6,.slice t (.tmp d3) (some (.tmp d5)) none none,t,pos,#[⟨3,.data⟩,⟨5,.data⟩],none⟩,
   ⟨some d7,.call { callee := .builtin .append,args:=#[.tmp d2,.tmp d6],argTypes:=#[t,t] },t,pos,#[⟨2,.data⟩,⟨6,.data⟩],none⟩,
   ⟨some f,.assign (.tmp d7),t,pos,#[⟨7,.data⟩,⟨7,.chain⟩,⟨0,.phase⟩,⟨1,.phase⟩,⟨2,.phase⟩,⟨3,.phase⟩,⟨4,.phase⟩,⟨5,.phase⟩,⟨6,.phase⟩,⟨7,.phase⟩],none⟩]
section
variable {P:Program} [Tb P] {C:Cx} {s:St} {L:Lay} {a:Act} {w:World}
def ard(ad:Addr)(m cap:Nat):Value := .slice (some ad) m cap
def arc(k:Nat)(ad:Addr)(len m cap:Nat):Value := .slice (if cap=m+1 then some ad else some (ad.add ((m+1)*k))) (len-(m+1)) (cap-(m+1))
theorem arn{t e:TypeId}{k len m cap:Nat}{ad:Addr}(he:elemT P t=some e)(hk:tsz P e=some k)(hm:m≤len)(hc:len≤cap)(h0:ad.add 0=ad) :
  (Instr.sliceAt t (.slice (some ad) len cap) none (some (.int .i64 m)) none).run P w = .ok (ard ad m cap) w:=by
 have hb:=rZ (P:=P) (w:=w) (isS:=true) hc (.inl ⟨rfl,rfl⟩) (.inr ⟨.i64,rfl⟩) (lo:=none) (hi:=some (.int .i64 m)) (l:=((0:Nat):Int)) (h:=(m:Int)) (by omega) (by omega) (by omega)
 simp [Instr.sliceAt,Instr.slice,run_underlying (dY he),hb,jE hk,ard,h0]
theorem aro{t e:TypeId}{k len m cap:Nat}{ad:Addr}(he:elemT P t=some e)(hk:tsz P e=some k)(hm:m<len)(hc:len≤cap) :
  (Instr.sliceAt t (.slice (some ad) len cap) (some (.int .i64 ((m+1:Nat):Int))) none none).run P w = .ok (arc k ad len m cap) w:=by
 have hb:=rZ (P:=P) (w:=w) (isS:=true) hc (.inr ⟨.i64,rfl⟩) (.inl ⟨rfl,rfl⟩) (lo:=some (.int .i64 ((m+1:Nat):Int))) (hi:=none) (l:=((m+1:Nat):Int)) (h:=(len:Int)) (by omega) (by omega) (by omega)
 have e1:((m+1:Nat):Int).toNat=m+1:=rfl
 have e2:((len:Nat):Int).toNat=len:=rfl
 rw[e1,e2] at hb
 simp only[Instr.sliceAt,Instr.slice,run_underlying (dY he),hb,jE hk,arc,Sem.run_bind,Result.andThen_ok]
 split<;>simp
theorem arl{t ty e:TypeId}{k bytes id m:Nat}{xs:List V}{ux:Value}(he:elemT P t=some e)(hk:tapp P e=some (k,bytes))(S:Sim C s L a w)(hx:Rep L w (.sl (.own id e) k xs) ux)(hm:m<xs.length) :
  ∃ad cap,ux = .slice (some ad) xs.length cap∧xs.length≤cap∧ad.add 0=ad∧∃u w',(Builtin.append_ #[t,t] ty #[ard ad m cap,arc k ad xs.length m cap]).run P w = .ok u w' ∧
   Sim C { s.mapV (aJ id) with nid:=max s.nid (id+1) } L a w'∧Rep L w' (.sl (.own id e) k (xs.take m++xs.drop (m+1))) u:=by
 obtain⟨i,z,hi,hz,hzs,rfl,rfl,hpos⟩:=vK hk
 have hu:=dY he
 obtain⟨ad,cap,cells,rfl,hxe,hmem⟩:=hx
 have hxl:=hxe.length
 rcases hmem with ⟨h1,_,_⟩|⟨g,arr,h1,rfl,h3,h4,h5,h6,h7⟩
 ·omega
 refine⟨_,cap,rfl,h4,by rw[kU], ?_⟩
 have hnl:((cells.drop ((m+1)*i.size))).length=(xs.drop (m+1)).length*i.size:=by
  rw[List.length_drop,List.length_drop,hxl,Nat.sub_mul]
 have hyl:(xs.drop (m+1)).length=xs.length-(m+1):=List.length_drop
 have hrow:Row w g 0 cells:=⟨arr,e,(0,0),h3,by rw[hxl];simpa using h7⟩
 have hcl:∀{c:Value},c∈cells.drop ((m+1)*i.size)→c.oneCell'=true:=fun h=>hxe.one _ (List.mem_of_mem_drop h)
 have hsrc:Src P i.size t (arc i.size ⟨g,0,none⟩ xs.length m cap) (xs.length-(m+1)) (cells.drop ((m+1)*i.size)) w:=by
  unfold arc
  split
  ·rename_i hcap
   refine Src.ofSlice w hu _ _ _ _ (by rw[hnl,hyl]) ?_ (fun u h=>hcl h)
   intro j v hj
   have:cells.drop ((m+1)*i.size)=[]:=by
    apply List.eq_nil_of_length_eq_zero
    rw[hnl,hyl]
    have:xs.length-(m+1)=0:=by omega
    rw[this,Nat.zero_mul]
   rw[this] at hj
   cases hj
  ·refine Src.ofSlice w hu _ _ _ _ (by rw[hnl,hyl]) ?_ (fun u h=>hcl h)
   intro j v hj
   rw[kU,kU]
   rw[List.getElem?_drop] at hj
   have:=hrow.cell hj
   simpa [Nat.add_assoc] using this
 have hfit:m*i.size+(cells.drop ((m+1)*i.size)).length≤arr.size:=by
  rw[hnl,h6,hyl,←Nat.add_mul]
  exact Nat.mul_le_mul_right _ (by omega)
 have hrun:=ww (P:=P) (ty:=ty) hu hi h3 (n:=m) (cap:=cap) hsrc (by omega) hfit
 have K:Trans (Tag.is id) (fun _=>false) _root_.id _root_.id L L w (w.setRow g (arr.toList.take (m*i.size)++cells.drop ((m+1)*i.size)++arr.toList.drop (m*i.size+(cells.drop ((m+1)*i.size)).length)).toArray) :=
  ⟨rfl,fun g' h=>⟨h,.of (setRow_other w g g' _ (fun e=>by subst e;exact (S.wf.own id _ h1).2.2 h))⟩,
   fun j e hj g' h=>⟨⟨rfl,h⟩,setRow_other w g g' _ (fun e=>by subst e;have:=S.wf.injO j id _ h h1;simp [Tag.is,this] at hj)⟩,fun _ _ _ h=>h⟩
 have hre:RepE L w i.size (xs.take m++xs.drop (m+1)) (cells.take (m*i.size)++cells.drop ((m+1)*i.size)):=(hxe.take m).append (hxe.drop (m+1))
 have hlen:(xs.take m++xs.drop (m+1)).length=m+(xs.length-(m+1)):=by simp;omega
 have htk:arr.toList.take (m*i.size)=cells.take (m*i.size):=by
  rw[←h7,List.take_take,Nat.min_eq_left (Nat.mul_le_mul_right _ (by omega))]
 refine⟨_,_,hrun,S.mapV (fun v u h=>su K h) (fun b g' h=>⟨h,setRow_other w g g' _ (fun e=>by subst e;exact S.wf.dis id b _ h1 h)⟩) (S.wf.mono (by omega) (by simp)) (Kp.setRow _ (S.wf.own id g h1).2.1), ?_⟩
 refine⟨some ⟨g,0,none⟩,cap,cells.take (m*i.size)++cells.drop ((m+1)*i.size),by rw[hlen],hre.trans (p:=Tag.is id) (q:=fun _=>false) rfl K,.inr ⟨g,_,h1,rfl,setRow_heap w g arr _ e _ h3,by rw[hlen];omega,h5, ?_, ?_⟩⟩
 ·have hml:m*i.size≤arr.size:=by omega
  simp only[List.size_toArray,List.length_append,List.length_take,List.length_drop,Array.length_toList]
  simp only[List.length_drop] at hfit
  omega
 ·have:(xs.take m++xs.drop (m+1)).length*i.size=(cells.take (m*i.size)++cells.drop ((m+1)*i.size)).length:=(hre.length).symm
  rw[this,htk]
  exact List.take_left
theorem arf{a:Act}{d:Nat}{u:Value}(hd:d<a.tmps.size)(x:Nat):(a.put (some d) u).eval (.tmp x)=if x=d then u else a.eval (.tmp x):=by
 simp only[Act.put,Act.eval]
 by_cases hx:x=d
 ·subst hx
  simp [Array.getD,hd]
 ·rw[if_neg hx]
  simp [Array.getD_eq_getD_getElem?,Array.getElem?_setIfInBounds,Ne.symm hx]
theorem arq(e:Nat→V)(S:Nat→Bool):∀(T:List (Nat × V)) (k:Nat),(∀j,k≤j→j<k+T.length→S j=true)→PX T k S e=PX T k (fun _=>true) e:=by
 intro T
 induction T with
 | nil=>intro k _;rfl
 | cons x r ih =>
  intro k h
  obtain⟨d,v⟩:=x
  funext t
  rw[iw,iw,ih (k+1) (fun j h1 h2=>h j (by omega) (by simp only[List.length_cons];omega)),h k (Nat.le_refl _) (by simp only[List.length_cons];omega)]
def delT(d0 d1 d2 d3 d4 d5 d6:Nat)(x:V)(m:Nat):List (Nat × V):=[(d0,x),(d1,.c (.int .i64 (m:Int))),(d2,.top),(d3,x),(d4,.c (.int .i64 (m:Int))),(d5,.c (.int .i64 ((m+1:Nat):Int))),(d6,.top)]
structure DelA (C:Cx) (s:St) (L:Lay) (w:World) (f d0 d1 d2 d3 d4 d5 d6:Nat) (x:V) (m:Nat) (vf vl vh:Value) (S:Nat→Bool) (a:Act):Prop where
 sim:Sim C { s with env:=PX (delT d0 d1 d2 d3 d4 d5 d6 x m) 0 S s.env } L a w
 f:a.eval (.tmp f)=vf
 e0:S 0=true→a.eval (.tmp d0)=vf
 e2:S 2=true→a.eval (.tmp d2)=vl
 e3:S 3=true→a.eval (.tmp d3)=vf
 e6:S 6=true→a.eval (.tmp d6)=vh
theorem DelA.step{f d0 d1 d2 d3 d4 d5 d6:Nat}{x:V}{m:Nat}{vf vl vh:Value}{S:Nat→Bool}(h:DelA C s L w f d0 d1 d2 d3 d4 d5 d6 x m vf vl vh S a)(hnd:[f,d0,d1,d2,d3,d4,d5,d6].Nodup)(j:Nat){d:Nat}{v:V}{u:Value}
  (hT:(delT d0 d1 d2 d3 d4 d5 d6 x m)[j]?=some (d,v)) (hd:d<C.n) (hr:Rep L w v u) (h0:j=0→u=vf) (h2:j=2→u=vl) (h3:j=3→u=vf) (h6:j=6→u=vh):DelA C s L w f d0 d1 d2 d3 d4 d5 d6 x m vf vl vh (ins S j) (a.put (some d) u):=by
 have hsz:d<a.tmps.size:=by rw[h.sim.size];exact hd
 have hj:j<7:=(List.getElem?_eq_some_iff.1 hT).1
 have hnd2:((delT d0 d1 d2 d3 d4 d5 d6 x m).map (·.1)).Nodup:=(List.nodup_cons.1 hnd).2
 have hs:=h.sim.put hr (d:=some d) (fun t ht=>by cases ht;exact hd)
 have hput:(St.put { s with env:=PX (delT d0 d1 d2 d3 d4 d5 d6 x m) 0 S s.env } (some d) v)={ s with env:=PX (delT d0 d1 d2 d3 d4 d5 d6 x m) 0 (ins S j) s.env }:=by
  simp only[St.put]
  rw[acv j S s.env _ 0 d v (Nat.zero_le _) (by simpa using hT) hnd2]
 rw[hput] at hs
 simp only[List.nodup_cons,List.mem_cons,List.not_mem_nil,or_false,not_or] at hnd
 obtain⟨⟨a1,a2,a3,a4,a5,a6,a7⟩,⟨b1,b2,b3,b4,b5,b6⟩,⟨c1,c2,c3,c4,c5⟩,⟨e1,e2,e3,e4⟩,⟨k1,k2,k3⟩,⟨l1,l2⟩,l3,_⟩:=hnd
 have fin:∀k dk val,(k=j→u=val)→(k≠j→dk≠d)→(k=j→dk=d)→(S k=true→a.eval (.tmp dk)=val)→ins S j k=true→(a.put (some d) u).eval (.tmp dk)=val:=by
  intro k dk val h1 h2 h3 h4 hk
  rw[arf hsz]
  by_cases e:k=j
  ·rw[if_pos (h3 e)];exact h1 e
  ·rw[if_neg (h2 e)];rw[Gj e] at hk;exact h4 hk
 have hf:f≠d→(a.put (some d) u).eval (.tmp f)=vf:=fun e=>by rw[arf hsz,if_neg e];exact h.f
 have g0:=h.e0
 have g2:=h.e2
 have g3:=h.e3
 have g6:=h.e6
 clear hput hnd2 h hr
 rcases (by omega:j=0∨j=1∨j=2∨j=3∨j=4∨j=5∨j=6) with rfl|rfl|rfl|rfl|rfl|rfl|rfl
 all_goals
  simp only[delT,List.getElem?_cons_zero,List.getElem?_cons_succ,Option.some.injEq,Prod.mk.injEq] at hT
  obtain⟨rfl,rfl⟩:=hT
  exact⟨hs,hf (by first|assumption|exact Ne.symm (by assumption)),fin 0 d0 vf (fun e=>h0 e.symm) (fun _=>by first|assumption|exact Ne.symm (by assumption)|contradiction) (fun e=>by first|rfl|cases e) g0,fin 2 d2 vl (fun e=>h2 e.symm) (fun _=>by first|assumption|exact Ne.symm (by assumption)|contradiction) (fun e=>by first|rfl|cases e) g2,fin 3 d3 vf (fun e=>h3 e.symm) (fun _=>by first|assumption|exact Ne.symm (by assumption)|contradiction) (fun e=>by first|rfl|cases e) g3,fin 6 d6 vh (fun e=>h6 e.symm) (fun _=>by first|assumption|exact Ne.symm (by assumption)|contradiction) (fun e=>by first|rfl|cases e) g6⟩
def arx(s:St)(f d0 d1 d2 d3 d4 d5 d6 d7 id:Nat)(e:TypeId)(k:Nat)(xs:List V)(m:Nat):St :=
 (({ ({ s with env:=PX (delT d0 d1 d2 d3 d4 d5 d6 (.sl (.own id e) k xs) m) 0 (fun _=>true) s.env }:St).mapV (aJ id) with nid:=max s.nid (id+1) }:St).put (some d7) (.sl (.own id e) k (xs.take m++xs.drop (m+1)))).put (some f) (.sl (.own id e) k (xs.take m++xs.drop (m+1)))
theorem ari(hm:P.follows .mixedOrders=true){t ti:TypeId}{pos:String}{f i d0 d1 d2 d3 d4 d5 d6 d7 rid:Nat}{Q:Exit→St→Prop}{s:St}{id k bytes m:Nat}{e:TypeId}{xs:List V}
  (hf:s.env f = .sl (.own id e) k xs) (hi:s.env i = .c (.int .i64 (m:Int))) (hmx:m<xs.length) (he:elemT P t=some e) (hk:tapp P e=some (k,bytes)) (hnd:[f,d0,d1,d2,d3,d4,d5,d6].Nodup) (hfi:∀d∈[d0,d1,d2,d3,d4,d5,d6],i≠d)
  (hadd:eu P .add ti (.c (.int .i64 (m:Int))) (.c (.int .i64 1))=some (.c (.int .i64 ((m+1:Nat):Int))))
  (hQ:Q .normal (arx s f d0 d1 d2 d3 d4 d5 d6 d7 id e k xs m)):wpS dT P (.region rid (aq9 t ti pos f i d0 d1 d2 d3 d4 d5 d6 d7).toArray true) Q s:=by
 refine .inr fun rid C Q' L a w hT hfit hQK S0 => ?_
 have hx0:Rep L w (.sl (.own id e) k xs) (a.eval (.tmp f)):=hf ▸ S0.ev (.tmp f)
 obtain⟨ad,cap,hvf,hcap,had,_⟩:=arl (t:=t) (ty:=t) he hk S0 hx0 hmx
 have hts:tsz P e=some k:=by
  obtain⟨i,z,h1,h2,h3,h4,h5,h6⟩:=vK hk
  simp only[tsz,h1,Option.map_some,h4]
 have hall:=pI hfit
 have hdn:∀o∈aq9 t ti pos f i d0 d1 d2 d3 d4 d5 d6 d7,∀d,o.dst=some d→d<C.n:=fun o ho=>hall o (by simpa using ho)
 obtain⟨W,hW⟩:∃W:World,W={ w with drawn:=w.drawn+1 }:=⟨_,rfl⟩
 have hS1:=acr S0
 rw[←hW] at hS1
 have hrf:Rep L W (.sl (.own id e) k xs) (.slice (some ad) xs.length cap):=by
  have h:=hS1.ev (.tmp f)
  change Rep L W (s.env f) _ at h
  rw[hf,hvf] at h
  exact h
 have hclos:∀{S:Nat→Bool},Ok (aq9 t ti pos f i d0 d1 d2 d3 d4 d5 d6 d7).toArray S→S 7=true→∀j,j<7→S j=true:=by
  intro S hok h7
  have s2:=hok.cl 7 _ rfl h7 2 (List.mem_cons_self ..)
  have s6:=hok.cl 7 _ rfl h7 6 (List.mem_cons_of_mem _ (List.mem_cons_self ..))
  have s0:=hok.cl 2 _ rfl s2 0 (List.mem_cons_self ..)
  have s1:=hok.cl 2 _ rfl s2 1 (List.mem_cons_of_mem _ (List.mem_cons_self ..))
  have s3:=hok.cl 6 _ rfl s6 3 (List.mem_cons_self ..)
  have s5:=hok.cl 6 _ rfl s6 5 (List.mem_cons_of_mem _ (List.mem_cons_self ..))
  have s4:=hok.cl 5 _ rfl s5 4 (List.mem_cons_self ..)
  intro j hj
  rcases (by omega:j=0∨j=1∨j=2∨j=3∨j=4∨j=5∨j=6) with rfl|rfl|rfl|rfl|rfl|rfl|rfl<;>assumption
 refine aqe hm (fun S a w=>(S 7=false∧S 8=false∧w=W∧DelA C s L W f d0 d1 d2 d3 d4 d5 d6 (.sl (.own id e) k xs) m (.slice (some ad) xs.length cap) (ard ad m cap) (arc k ad xs.length m cap) S a) ∨
  (S 7=true∧S 8=false∧∃L',Sim C (({ ({ s with env:=PX (delT d0 d1 d2 d3 d4 d5 d6 (.sl (.own id e) k xs) m) 0 (fun _=>true) s.env }:St).mapV (aJ id) with nid:=max s.nid (id+1) }:St).put (some d7) (.sl (.own id e) k (xs.take m++xs.drop (m+1)))) L' a w) ∨
  (S 8=true∧∃L',Sim C (arx s f d0 d1 d2 d3 d4 d5 d6 d7 id e k xs m) L' a w)) ?_ ?_ ?_ ?_
 ·intro i o ho e he
  rcases Nat.lt_or_ge i 9 with hi|hi
  ·rcases (by omega:i=0∨i=1∨i=2∨i=3∨i=4∨i=5∨i=6∨i=7∨i=8) with rfl|rfl|rfl|rfl|rfl|rfl|rfl|rfl|rfl
   all_goals
    simp only[aq9,List.getElem?_toArray,List.getElem?_cons_zero,List.getElem?_cons_succ,Option.some.injEq] at ho
    subst ho
    simp only[edgesOf,Region.binds,List.filter,List.map,List.mem_cons,List.not_mem_nil,or_false] at he<;>omega
  ·rw[List.getElem?_toArray,List.getElem?_eq_none (show (aq9 t ti pos f _ d0 d1 d2 d3 d4 d5 d6 d7).length≤i from hi)] at ho
   cases ho
 ·intro S j o a w ho hSj hed hok hI
  have hdo:∀d,o.dst=some d→d<C.n:=hdn o (by simpa using Array.mem_of_getElem? ho)
  have hj9:j<9:=by
   rcases Nat.lt_or_ge j 9 with h|h
   ·exact h
   ·rw[List.getElem?_toArray,List.getElem?_eq_none (show (aq9 t ti pos f i d0 d1 d2 d3 d4 d5 d6 d7).length≤j from h)] at ho
    cases ho
  have go:∀{u:Value} {w':World} {K:Act→World→Prop},o.guard=none→Does P o a w u w'→K (a.put o.dst u) w'→wpOp P (aq9 t ti pos f i d0 d1 d2 d3 d4 d5 d6 d7).toArray (aht C Q') j K a w:=by
   intro u w' K hg h1 h2
   unfold wpOp
   rw[ho]
   simp only
   rw[if_pos (by simp [Region.wanted,hg])]
   exact .inl (h1.wp h2)
  rcases Nat.lt_or_ge j 7 with h7|h7
  ·rcases hI with ⟨s7,s8,hw,hA⟩|⟨s7,_⟩|⟨s8,_⟩
   ·have hw':=hw.symm
    subst hw'
    have key:wpOp P (aq9 t ti pos f i d0 d1 d2 d3 d4 d5 d6 d7).toArray (aht C Q') j (fun a w=>w=W∧DelA C s L W f d0 d1 d2 d3 d4 d5 d6 (.sl (.own id e) k xs) m (.slice (some ad) xs.length cap) (ard ad m cap) (arc k ad xs.length m cap) (ins S j) a) a W:=by
     have hvi:PX (delT d0 d1 d2 d3 d4 d5 d6 (.sl (.own id e) k xs) m) 0 S s.env i = .c (.int .i64 (m:Int)):=by
      simp only[delT,iw,pO]
      simp only[List.mem_cons,List.not_mem_nil,or_false,forall_eq_or_imp,forall_eq] at hfi
      obtain⟨i0,i1,i2,i3,i4,i5,i6⟩:=hfi
      rw[if_neg i0,if_neg i1,if_neg i2,if_neg i3,if_neg i4,if_neg i5,if_neg i6,hi]
     have hei:a.eval (.tmp i) = .int .i64 (m:Int):=by
      have h:=hA.sim.ev (.tmp i)
      change Rep L W (PX _ 0 S s.env i) _ at h
      rw[hvi] at h
      exact h
     have hnd':=hnd
     simp only[List.nodup_cons,List.mem_cons,List.not_mem_nil,or_false,not_or] at hnd'
     have ev1:S 1=true→a.eval (.tmp d1) = .int .i64 (m:Int):=fun h1=>by
      have h:=hA.sim.ev (.tmp d1)
      change Rep L W (PX _ 0 S s.env d1) _ at h
      simp only[delT,iw,pO] at h
      rw[if_neg (by omega),if_pos trivial,h1] at h
      exact h
     have ev5:S 5=true→a.eval (.tmp d5) = .int .i64 ((m+1:Nat):Int):=fun h1=>by
      have h:=hA.sim.ev (.tmp d5)
      change Rep L W (PX _ 0 S s.env d5) _ at h
      simp only[delT,iw,pO] at h
      rw[if_neg (by omega),if_neg (by omega),if_neg (by omega),if_neg (by omega),if_neg (by omega),if_pos trivial,h1] at h
      exact h
     have ev4:S 4=true→PX (delT d0 d1 d2 d3 d4 d5 d6 (.sl (.own id e) k xs) m) 0 S s.env d4 = .c (.int .i64 (m:Int)):=fun h1=>by
      simp only[delT,iw,pO]
      rw[if_neg (by omega),if_neg (by omega),if_neg (by omega),if_neg (by omega),if_pos trivial,h1]
      rfl
     clear hnd'
     rcases (by omega:j=0∨j=1∨j=2∨j=3∨j=4∨j=5∨j=6) with rfl|rfl|rfl|rfl|rfl|rfl|rfl
     all_goals (simp only[aq9,List.getElem?_toArray,List.getElem?_cons_zero,List.getElem?_cons_succ,Option.some.injEq] at ho;subst ho)
     ·exact go rfl (.inl rfl) ⟨rfl,hA.step hnd 0 rfl (hdo _ rfl) (by rw[hA.f];exact hrf) (fun _=>hA.f) (fun h=>by cases h) (fun h=>by cases h) (fun h=>by cases h)⟩
     ·exact go rfl (.inl rfl) ⟨rfl,hA.step hnd 1 rfl (hdo _ rfl) (by rw[hei];rfl) (fun h=>by cases h) (fun h=>by cases h) (fun h=>by cases h) (fun h=>by cases h)⟩
     ·have h0:=hA.e0 (hed 0 (List.mem_cons_self ..))
      have h1:=ev1 (hed 1 (List.mem_cons_of_mem _ (List.mem_cons_self ..)))
      have hr:=arn (P:=P) (w:=W) (t:=t) (ad:=ad) he hts (Nat.le_of_lt hmx) hcap had
      refine go (u:=ard ad m cap) (w':=W) rfl (.inl ?_) ⟨rfl,hA.step hnd 2 rfl (hdo _ rfl) trivial (fun h=>by cases h) (fun _=>rfl) (fun h=>by cases h) (fun h=>by cases h)⟩
      simp only[execOp,Sem.run_bind,Option.map_none,Option.map_some,h0,h1,hr,Result.andThen_ok,Sem.run_pure]
     ·exact go rfl (.inl rfl) ⟨rfl,hA.step hnd 3 rfl (hdo _ rfl) (by rw[hA.f];exact hrf) (fun h=>by cases h) (fun h=>by cases h) (fun _=>hA.f) (fun h=>by cases h)⟩
     ·exact go rfl (.inl rfl) ⟨rfl,hA.step hnd 4 rfl (hdo _ rfl) (by rw[hei];rfl) (fun h=>by cases h) (fun h=>by cases h) (fun h=>by cases h) (fun h=>by cases h)⟩
     ·have h4:=ev4 (hed 4 (List.mem_cons_self ..))
      have hq:qv P { s with env:=PX (delT d0 d1 d2 d3 d4 d5 d6 (.sl (.own id e) k xs) m) 0 S s.env } (.binOp .add ti (.tmp d4) (.const (.int .i64 1)) ti)=some (.c (.int .i64 ((m+1:Nat):Int))):=by
       show zB P .add ti (PX _ 0 S s.env d4) (.c (.int .i64 1)) (.const (.int .i64 1))=_
       rw[h4]
       exact hadd
      obtain⟨u,hd,hr⟩:=QD (o:=⟨some d5,.binOp .add ti (.tmp d4) (.const (.int .i64 1)) ti,ti,pos,#[⟨4,.data⟩],none⟩) hq hA.sim
      exact go rfl hd ⟨rfl,hA.step hnd 5 rfl (hdo _ rfl) hr (fun h=>by cases h) (fun h=>by cases h) (fun h=>by cases h) (fun h=>by cases h)⟩
     ·have h3:=hA.e3 (hed 3 (List.mem_cons_self ..))
      have h5:=ev5 (hed 5 (List.mem_cons_of_mem _ (List.mem_cons_self ..)))
      have hr:=aro (P:=P) (w:=W) (t:=t) (ad:=ad) he hts hmx hcap
      refine go (u:=arc k ad xs.length m cap) (w':=W) rfl (.inl ?_) ⟨rfl,hA.step hnd 6 rfl (hdo _ rfl) trivial (fun h=>by cases h) (fun h=>by cases h) (fun h=>by cases h) (fun _=>rfl)⟩
      simp only[execOp,Sem.run_bind,Option.map_none,Option.map_some,h3,h5,hr,Result.andThen_ok,Sem.run_pure]
    exact wpOp_mono (fun a w h => .inl ⟨by rw[Gj (by omega)];exact s7,by rw[Gj (by omega)];exact s8,h.1,h.2⟩) key
   ·have:=hclos hok s7 j h7;rw[hSj] at this;cases this
   ·have s7:=hok.cl 8 _ rfl s8 7 (List.mem_cons_self ..)
    have:=hclos hok s7 j h7;rw[hSj] at this;cases this
  ·rcases (by omega:j=7∨j=8) with rfl|rfl
   ·rcases hI with ⟨s7,s8,hw,hA⟩|⟨s7,_⟩|⟨s8,_⟩
    ·have hw':=hw.symm
     subst hw'
     simp only[aq9,List.getElem?_toArray,List.getElem?_cons_zero,List.getElem?_cons_succ,Option.some.injEq] at ho
     subst ho
     have h2:=hA.e2 (hed 2 (List.mem_cons_self ..))
     have h6:=hA.e6 (hed 6 (List.mem_cons_of_mem _ (List.mem_cons_self ..)))
     have hsim:=hA.sim
     have s2:=hed 2 (List.mem_cons_self ..)
     have s6:=hed 6 (List.mem_cons_of_mem _ (List.mem_cons_self ..))
     have s0:=hok.cl 2 _ rfl s2 0 (List.mem_cons_self ..)
     have s1:=hok.cl 2 _ rfl s2 1 (List.mem_cons_of_mem _ (List.mem_cons_self ..))
     have s3:=hok.cl 6 _ rfl s6 3 (List.mem_cons_self ..)
     have s5:=hok.cl 6 _ rfl s6 5 (List.mem_cons_of_mem _ (List.mem_cons_self ..))
     have s4:=hok.cl 5 _ rfl s5 4 (List.mem_cons_self ..)
     rw[arq s.env S _ 0 (fun j _ hj=>by
      have hj:j<7:=by simpa [delT] using hj
      rcases (by omega:j=0∨j=1∨j=2∨j=3∨j=4∨j=5∨j=6) with rfl|rfl|rfl|rfl|rfl|rfl|rfl<;>assumption)] at hsim
     obtain⟨ad',cap',hv',_,_,u,w',hrun,hsim',hrep⟩:=arl (t:=t) (ty:=t) he hk hsim hrf hmx
     simp only[Value.slice.injEq,Option.some.injEq,true_and] at hv'
     obtain⟨rfl,rfl⟩:=hv'
     refine go (u:=u) (w':=w') rfl (.inl ?_) (.inr (.inl ⟨P8 _ _,by rw[Gj (by decide)];exact s8,L,hsim'.put hrep (fun t ht=>hdo t ht)⟩))
     simp only[execOp,resolve,Sem.run_bind,Sem.run_pure,Result.andThen_ok,invoke,builtin,List.map_toArray,List.map_cons,List.map_nil,h2,h6]
     rw[hrun];rfl
    ·rw[hSj] at s7;cases s7
    ·have s7:=hok.cl 8 _ rfl s8 7 (List.mem_cons_self ..)
     rw[hSj] at s7;cases s7
   ·rcases hI with ⟨s7,_⟩|⟨s7,s8,L',hS⟩|⟨s8,_⟩
    ·have:=hed 7 (by
      simp only[aq9,List.getElem?_toArray,List.getElem?_cons_zero,List.getElem?_cons_succ,Option.some.injEq] at ho
      subst ho
      exact List.mem_cons_self ..)
     rw[s7] at this;cases this
    ·simp only[aq9,List.getElem?_toArray,List.getElem?_cons_zero,List.getElem?_cons_succ,Option.some.injEq] at ho
     subst ho
     refine go (u:=a.eval (.tmp d7)) (w':=w) rfl (.inl rfl) (.inr (.inr ⟨P8 _ _,L',hS.put ?_ (fun t ht=>hdo t ht)⟩))
     have h:=hS.ev (.tmp d7)
     change Rep L' w (upd _ d7 _ d7) _ at h
     rw[abr] at h
     exact h
    ·rw[hSj] at s8;cases s8
 ·rintro S a w hall hok (⟨_,h8,_⟩|⟨_,h8,_⟩|⟨_,L',h⟩)
  ·have:=hall 8 (show (8:Nat)<9 from by decide);rw[h8] at this;cases this
  ·have:=hall 8 (show (8:Nat)<9 from by decide);rw[h8] at this;cases this
  ·exact⟨_,L',by rw[hQK];exact hQ,h⟩
 ·refine .inl ⟨rfl,rfl,hW.symm, ?_⟩
  refine⟨?_,hvf,fun h=>(by cases h),fun h=>(by cases h),fun h=>(by cases h),fun h=>(by cases h)⟩
  rw[acu]
  exact hS1
end
end Go.Pg
end
