/-
  Texts of this claim, merged; own names are short.
-/
import Derived.Test.YtjiolbcdfgclaaaGreatDoorWAT
import Derived.Test.YtjiolbcdfgclaaaGreatDoorWAR
import Derived.Test.YtjiolbcdfgclaaaGreatDoorWAQ
set_option linter.unusedVariables false
set_option linter.unusedSimpArgs false
set_option linter.unusedSectionVars false
set_option linter.defProp false
set_option maxRecDepth 100000
set_option maxHeartbeats 8000000
namespace Go.Proofs.YtjiolbcdfgclaaaGreatDoor
open Go Go.Pg
def bQ(l:List Int):Sk:=(qj (iO (atN l 0)) (fE (l.drop (min l.length 2)) (atN l 1%8)) (df (atN l 9)) (atN l 1%8)).1
theorem xn(l:List Int)(n:Nat):∀x∈fE l n,oct x.1:=by
 intro x hx
 obtain⟨i,_,rfl⟩:=List.mem_map.1 hx
 exact (II _).1
theorem EH(l:List Int):(bQ l).Ok:=MH _ (PS _) (SG _) _ (xn _ _) _ _
theorem dh(l:List Int)(n:Nat):(iv l).drop n=iv (l.drop n):=by simp [iv,List.map_drop]
theorem min2(a:Nat):(min (a:Int) 2).toNat=min a 2:=by omega
theorem kX(a b:Nat):(min (a:Int) (b:Int)).toNat=min a b:=by omega
theorem VL(l:List Int)(hl:l.length≤9223372036854775807):Gxx 37 [fzi l] (.agg (skF (bQ l))):=by
 have a0:=jT l 0 hl (by omega)
 have a1:=jT l 1 hl (by omega)
 have a9:=jT l 9 hl (by omega)
 have b0:=dU l 0
 have b1:=dU l 1
 have b9:=dU l 9
 have h1:=gQ (atN l 0) (by omega)
 have h2:=SE (l.drop (min l.length 2)) (atN l 1%8) (by rw[List.length_drop];omega) (by omega)
 have h3:=iZ ((atN l 9:Nat):Int)
 have h4:=ajP (iO (atN l 0)) (PS _) (SG _) (fE (l.drop (min l.length 2)) (atN l 1%8)) (by rw[tN];omega) (xn _ _) (df (atN l 9)) (Gv _).1
 rw[tN] at h4
 have e:(qj (iO (atN l 0)) (fE (l.drop (min l.length 2)) (atN l 1%8)) (df (atN l 9)) (atN l 1%8)).1=bQ l:=rfl
 rw[e] at h4
 have hil:=bP l
 have hdr:=dh l (min l.length 2)
 have hmn:=min2 l.length
 generalize bQ l=S at *
 generalize iO (atN l 0)=p at *
 generalize fE (l.drop (min l.length 2)) (atN l 1%8)=its at *
 generalize df (atN l 9)=co at *
 generalize atN l 0=n0 at *
 generalize atN l 1=n1 at *
 generalize atN l 9=n9 at *
 clear e
 obtain⟨⟨pk,pz,pd,ps⟩,⟨t1,t2,t3⟩,⟨c1,c2,c3,c4,c5⟩,⟨l1,l2,l3⟩,⟨e1,e2,e3,e4⟩,⟨f1,f2,f3,f4,f5⟩,⟨r1,r2,r3,r4,r5⟩⟩:=S
 obtain⟨qk,qz,qd,qs⟩:=p
 refine gI oW Tryz.func37 Tryz.results37 ?_
 exact wR (aI @pgv (aI @mmF (aI @hil (aI @hmn (aI @hdr @anB))))) (aI a0 (aI a1 (aI a9 (aI h1 (aI h2 (aI h3 h4)))))) ah
theorem fF(o:O){a b c d:V}(ha:orN a (fzs o.names))(hb:orN b (fzt o.items))(hc:orN c (fzb o.coins))(hd:orN d (fzb o.data)):wkV (.agg (opC o a b c d)) (.agg (opF o)):=by
 refine .inr ⟨_,_,rfl,rfl, ?_⟩
 (repeat' (first|exact trivial|refine iV (.inl rfl) ?_|refine iV (tK ha) ?_|refine iV (tK hb) ?_|refine iV (tK hc) ?_|refine iV (tK hd) ?_))
def opN(n m:Nat)(its:List (List Nat × Int))(da:List Nat):O :=
 if n%20=0∨n%20=1 then ⟨1,ae (n / 32),[],[],(iO m).k,(iO m).z,(iO m).d,(iO m).s,[],[],0,0,0,0,0,0,0,[],0,0,0,[]⟩
 else if n%20=2 then ⟨2,ae (n / 32),[],[],0,0,0,0,[],[],0,0,0,0,0,0,0,[],0,0,0,[]⟩
 else if n%20=3 then ⟨3,ae (n / 32),ae (n / 128),[],0,0,0,0,[],[],0,0,0,0,0,0,0,[],0,0,0,[]⟩
 else if n%20=4 then ⟨4,[],[],[],0,0,0,0,[],[],0,0,0,0,0,0,0,[],0,0,0,[]⟩
 else if n%20=5 then ⟨5,ae (n / 32),[],[],0,0,0,0,[],[],0,0,0,0,0,0,(dA m).1,(dA m).2.1,(dA m).2.2.1,(dA m).2.2.2.1,(dA m).2.2.2.2,[]⟩
 else if n%20=6∨n%20=7∨n%20=8 then ⟨6,ae (n / 32),[],[],0,0,0,0,its,df (m:Int),0,0,0,0,0,0,0,[],0,0,0,[]⟩
 else if n%20=9 then ⟨7,ae (n / 32),ae (n / 128),[],0,0,0,0,[],df (m:Int),0,0,0,0,0,0,0,[],0,0,0,[]⟩
 else if n%20=10 then ⟨8,ae (n / 32),ae (n / 128),[],0,0,0,0,[],df (m:Int),1+((m%8:Nat):Int),1+((m / 8%8:Nat):Int),0,0,0,0,0,[],0,0,0,[]⟩
 else if n%20=11∨n%20=12 then ⟨9,[],[],[ae (n / 32),ae (n / 128),ae (n / 256)].take (1+n / 1024%2+n / 2048%2),0,0,0,0,[],[],0,0,0,0,0,0,0,[],0,0,0,[]⟩
 else if n%20=13 then ⟨10,[],[],[],0,0,0,0,[],[],0,0,((n / 32%2:Nat):Int),((n / 64%2:Nat):Int),0,0,(dA m).1,(dA m).2.1,(dA m).2.2.1,(dA m).2.2.2.1,(dA m).2.2.2.2,[]⟩
 else if n%20=14 then ⟨11,[],[],[],0,0,0,0,[],[],0,0,((n / 32%2:Nat):Int),0,0,0,0,[],0,0,0,[]⟩
 else if n%20=15 then ⟨12,[],[],[],0,0,0,0,[],[],0,0,((n / 32%2:Nat):Int),((n / 64%2:Nat):Int),0,0,0,[],0,0,0,[]⟩
 else if n%20=16 then ⟨13,[],[],[],0,0,0,0,[],[],0,0,0,0,((n / 32%2:Nat):Int),((n / 64%4:Nat):Int),0,[],0,0,0,[]⟩
 else if n%20=17 then ⟨14,[],[],[],0,0,0,0,[],[],0,0,0,0,((n / 32%2:Nat):Int),0,0,[],0,0,0,[]⟩
 else if n%20=18∧n / 32%2=1 then ⟨15,[],[],[],0,0,0,0,[],[],0,0,((n / 64%2:Nat):Int),((n / 128%2:Nat):Int),0,0,0,[],0,0,0,[]⟩
 else if n%20=18∧n / 32%2=0 then ⟨16,ae (n / 64),[],[],0,0,0,0,[],[],0,0,0,0,0,0,0,[],0,0,0,da⟩
 else ⟨17,[],[],[],0,0,0,0,[],[],0,0,0,0,0,0,0,[],0,0,0,[]⟩
theorem oN{p:Prop}(h:p:=by unfold opN;(repeat' (first|rw[if_pos (by omega)]|rw[if_neg (by omega)]))):p:=h
theorem vH(n:Nat):Int.tmod (n:Int) 20=((n%20:Nat):Int):=rfl
theorem tm5(n:Nat):Int.tmod (n:Int) 5=((n%5:Nat):Int):=rfl
theorem jg(a b c:List Nat)(k:Nat):(sv [a,b,c]).take k=sv ([a,b,c].take k):=by simp [sv,List.map_take]
theorem nY(a b c:List Nat):[vs a,vs b,vs c]=sv [a,b,c]:=rfl
theorem kQ(a b c:List Nat):V.idsL (sv [a,b,c])=[]:=rfl
theorem kR(a b c:List Nat):(sv [a,b,c]).length=3:=rfl
def jl(l:List Int)(i:Nat):O:=opN (atN l i) (atN l (i+7)) (fE (l.drop (min l.length (i%5))) (1+atN l i / 128%8)) (qm (bQ (l.drop (min l.length (i%7)))))
theorem aoo(l:List Int)(i:Nat)(hl:l.length≤9223372036854775807)(hi:i≤1000):Gxx 12 [fzi l,vi i] (.agg (opF (jl l i))):=by
 have a0:=jT l i hl (by omega)
 have a7:=jT l (i+7) hl (by omega)
 have b0:=dU l i
 have b7:=dU l (i+7)
 have hI:=SE (l.drop (min l.length (i%5))) (1+atN l i / 128%8) (by rw[List.length_drop];omega) (by omega)
 have hS:=VL (l.drop (min l.length (i%7))) (by rw[List.length_drop];omega)
 have hE:=abQ (bQ (l.drop (min l.length (i%7)))) (EH _)
 unfold jl
 generalize hits:fE (l.drop (min l.length (i%5))) (1+atN l i / 128%8)=its at *
 generalize hda:qm (bQ (l.drop (min l.length (i%7))))=da at *
 generalize bQ (l.drop (min l.length (i%7)))=S at *
 generalize atN l i=n at *
 generalize atN l (i+7)=m at *
 have e:=vH n
 have hil:=bP l
 have e5:=tm5 i
 have e7:=tm7 i
 have d5:=dh l (min l.length (i%5))
 have d7:=dh l (min l.length (i%7))
 have m5:=kX l.length (i%5)
 have m7:=kX l.length (i%7)
 have nm:=fun d=>aQ (n / d) (by have:=Nat.div_le_self n d;omega)
 have n5:=nm 32
 have n6:=nm 64
 have n7:=nm 128
 have n8:=nm 256
 have hp:=gQ m (by omega)
 have hq:=ja m (by omega)
 have hco:=iZ (m:Int)
 have t3:=jg (ae (n / 32)) (ae (n / 128)) (ae (n / 256))
 have s3:=nY (ae (n / 32)) (ae (n / 128)) (ae (n / 256))
 have l3:=kR (ae (n / 32)) (ae (n / 128)) (ae (n / 256))
 have i3:=kQ (ae (n / 32)) (ae (n / 128)) (ae (n / 256))
 have K:∀{o:O} {r:V},opN n m its da=o→Gxx 12 [fzi l,vi i] r→r.noRef=true→wkV (r.map (fun _ => .fz) id) (.agg (opF o))→Gxx 12 [fzi l,vi i] (.agg (opF (opN n m its da))):=fun e g h w=>by rw[e];exact Good.fzr g h w
 have z:=aj
 have y:=cu
 rcases (show n%20=0∨n%20=1∨n%20=2∨n%20=3∨n%20=4∨n%20=5∨n%20=6∨n%20=7∨n%20=8∨n%20=9∨n%20=10∨n%20=11∨n%20=12∨n%20=13∨n%20=14∨n%20=15∨n%20=16∨n%20=17∨n%20=18∨n%20=19 by omega) with hc|hc|hc|hc|hc|hc|hc|hc|hc|hc|hc|hc|hc|hc|hc|hc|hc|hc|hc|hc<;>simp only[hc] at e
 ·refine K (o:=⟨1,ae (n / 32),[],[],(iO m).k,(iO m).z,(iO m).d,(iO m).s,[],[],0,0,0,0,0,0,0,[],0,0,0,[]⟩) (r := .agg (opC ⟨1,ae (n / 32),[],[],(iO m).k,(iO m).z,(iO m).d,(iO m).s,[],[],0,0,0,0,0,0,0,[],0,0,0,[]⟩ nls nls nls nls)) oN ?_ rfl (fF _ (z _) (z _) (z _) (z _))
  refine gI oW Tryz.func12 Tryz.results12 ?_
  exact wR (aI @pgv (aI @mmF (aI @hil (aI @e (aI @shB (aI @anB @ai)))))) (aI a0 (aI a7 (aI n5 hp))) ah
 ·refine K (o:=⟨1,ae (n / 32),[],[],(iO m).k,(iO m).z,(iO m).d,(iO m).s,[],[],0,0,0,0,0,0,0,[],0,0,0,[]⟩) (r := .agg (opC ⟨1,ae (n / 32),[],[],(iO m).k,(iO m).z,(iO m).d,(iO m).s,[],[],0,0,0,0,0,0,0,[],0,0,0,[]⟩ nls nls nls nls)) oN ?_ rfl (fF _ (z _) (z _) (z _) (z _))
  refine gI oW Tryz.func12 Tryz.results12 ?_
  exact wR (aI @pgv (aI @mmF (aI @hil (aI @e (aI @shB (aI @anB @ai)))))) (aI a0 (aI a7 (aI n5 hp))) ah
 ·refine K (o:=⟨2,ae (n / 32),[],[],0,0,0,0,[],[],0,0,0,0,0,0,0,[],0,0,0,[]⟩) (r := .agg (opC ⟨2,ae (n / 32),[],[],0,0,0,0,[],[],0,0,0,0,0,0,0,[],0,0,0,[]⟩ nls nls nls nls)) oN ?_ rfl (fF _ (z _) (z _) (z _) (z _))
  refine gI oW Tryz.func12 Tryz.results12 ?_
  exact wR (aI @pgv (aI @mmF (aI @hil (aI @e (aI @shB (aI @anB @ai)))))) (aI a0 (aI a7 n5)) ah
 ·refine K (o:=⟨3,ae (n / 32),ae (n / 128),[],0,0,0,0,[],[],0,0,0,0,0,0,0,[],0,0,0,[]⟩) (r := .agg (opC ⟨3,ae (n / 32),ae (n / 128),[],0,0,0,0,[],[],0,0,0,0,0,0,0,[],0,0,0,[]⟩ nls nls nls nls)) oN ?_ rfl (fF _ (z _) (z _) (z _) (z _))
  refine gI oW Tryz.func12 Tryz.results12 ?_
  exact wR (aI @pgv (aI @mmF (aI @hil (aI @e (aI @shB (aI @anB @ai)))))) (aI a0 (aI a7 (aI n5 n7))) ah
 ·refine K (o:=⟨4,[],[],[],0,0,0,0,[],[],0,0,0,0,0,0,0,[],0,0,0,[]⟩) (r := .agg (opC ⟨4,[],[],[],0,0,0,0,[],[],0,0,0,0,0,0,0,[],0,0,0,[]⟩ nls nls nls nls)) oN ?_ rfl (fF _ (z _) (z _) (z _) (z _))
  refine gI oW Tryz.func12 Tryz.results12 ?_
  exact wR (aI @pgv (aI @mmF (aI @hil (aI @e (aI @shB (aI @anB @ai)))))) (aI a0 a7) ah
 ·refine K (o:=⟨5,ae (n / 32),[],[],0,0,0,0,[],[],0,0,0,0,0,0,(dA m).1,(dA m).2.1,(dA m).2.2.1,(dA m).2.2.2.1,(dA m).2.2.2.2,[]⟩) (r := .agg (opC ⟨5,ae (n / 32),[],[],0,0,0,0,[],[],0,0,0,0,0,0,(dA m).1,(dA m).2.1,(dA m).2.2.1,(dA m).2.2.2.1,(dA m).2.2.2.2,[]⟩ nls nls nls nls)) oN ?_ rfl (fF _ (z _) (z _) (z _) (z _))
  refine gI oW Tryz.func12 Tryz.results12 ?_
  exact wR (aI @pgv (aI @mmF (aI @hil (aI @e (aI @shB (aI @anB @ai)))))) (aI a0 (aI a7 (aI n5 hq))) ah
 ·refine K (o:=⟨6,ae (n / 32),[],[],0,0,0,0,its,df (m:Int),0,0,0,0,0,0,0,[],0,0,0,[]⟩) (r := .agg (opC ⟨6,ae (n / 32),[],[],0,0,0,0,its,df (m:Int),0,0,0,0,0,0,0,[],0,0,0,[]⟩ nls (fzt _) (fzb _) nls)) oN ?_ rfl (fF _ (z _) (y _) (y _) (z _))
  refine gI oW Tryz.func12 Tryz.results12 ?_
  exact wR (aI @pgv (aI @mmF (aI @hil (aI @e (aI @shB (aI @anB (aI @ai (aI @e5 (aI @d5 @m5))))))))) (aI a0 (aI a7 (aI n5 (aI hI hco)))) ah
 ·refine K (o:=⟨6,ae (n / 32),[],[],0,0,0,0,its,df (m:Int),0,0,0,0,0,0,0,[],0,0,0,[]⟩) (r := .agg (opC ⟨6,ae (n / 32),[],[],0,0,0,0,its,df (m:Int),0,0,0,0,0,0,0,[],0,0,0,[]⟩ nls (fzt _) (fzb _) nls)) oN ?_ rfl (fF _ (z _) (y _) (y _) (z _))
  refine gI oW Tryz.func12 Tryz.results12 ?_
  exact wR (aI @pgv (aI @mmF (aI @hil (aI @e (aI @shB (aI @anB (aI @ai (aI @e5 (aI @d5 @m5))))))))) (aI a0 (aI a7 (aI n5 (aI hI hco)))) ah
 ·refine K (o:=⟨6,ae (n / 32),[],[],0,0,0,0,its,df (m:Int),0,0,0,0,0,0,0,[],0,0,0,[]⟩) (r := .agg (opC ⟨6,ae (n / 32),[],[],0,0,0,0,its,df (m:Int),0,0,0,0,0,0,0,[],0,0,0,[]⟩ nls (fzt _) (fzb _) nls)) oN ?_ rfl (fF _ (z _) (y _) (y _) (z _))
  refine gI oW Tryz.func12 Tryz.results12 ?_
  exact wR (aI @pgv (aI @mmF (aI @hil (aI @e (aI @shB (aI @anB (aI @ai (aI @e5 (aI @d5 @m5))))))))) (aI a0 (aI a7 (aI n5 (aI hI hco)))) ah
 ·refine K (o:=⟨7,ae (n / 32),ae (n / 128),[],0,0,0,0,[],df (m:Int),0,0,0,0,0,0,0,[],0,0,0,[]⟩) (r := .agg (opC ⟨7,ae (n / 32),ae (n / 128),[],0,0,0,0,[],df (m:Int),0,0,0,0,0,0,0,[],0,0,0,[]⟩ nls nls (fzb _) nls)) oN ?_ rfl (fF _ (z _) (z _) (y _) (z _))
  refine gI oW Tryz.func12 Tryz.results12 ?_
  exact wR (aI @pgv (aI @mmF (aI @hil (aI @e (aI @shB (aI @anB @ai)))))) (aI a0 (aI a7 (aI n5 (aI n7 hco)))) ah
 ·refine K (o:=⟨8,ae (n / 32),ae (n / 128),[],0,0,0,0,[],df (m:Int),1+((m%8:Nat):Int),1+((m / 8%8:Nat):Int),0,0,0,0,0,[],0,0,0,[]⟩) (r := .agg (opC ⟨8,ae (n / 32),ae (n / 128),[],0,0,0,0,[],df (m:Int),1+((m%8:Nat):Int),1+((m / 8%8:Nat):Int),0,0,0,0,0,[],0,0,0,[]⟩ nls nls (fzb _) nls)) oN ?_ rfl (fF _ (z _) (z _) (y _) (z _))
  refine gI oW Tryz.func12 Tryz.results12 ?_
  exact wR (aI @pgv (aI @mmF (aI @hil (aI @e (aI @shB (aI @anB @ai)))))) (aI a0 (aI a7 (aI n5 (aI n7 hco)))) ah
 ·refine K (o:=⟨9,[],[],[ae (n / 32),ae (n / 128),ae (n / 256)].take (1+n / 1024%2+n / 2048%2),0,0,0,0,[],[],0,0,0,0,0,0,0,[],0,0,0,[]⟩) (r := .agg (opC ⟨9,[],[],[ae (n / 32),ae (n / 128),ae (n / 256)].take (1+n / 1024%2+n / 2048%2),0,0,0,0,[],[],0,0,0,0,0,0,0,[],0,0,0,[]⟩ (fzs _) nls nls nls)) oN ?_ rfl (fF _ (y _) (z _) (z _) (z _))
  refine gI oW Tryz.func12 Tryz.results12 ?_
  exact wR (aI @pgv (aI @mmF (aI @hil (aI @e (aI @shB (aI @anB (aI @ai (aI @t3 (aI @s3 (aI @l3 (aI @i3 @id_eq.{1}))))))))))) (aI a0 (aI a7 (aI n5 (aI n7 n8)))) ah
 ·refine K (o:=⟨9,[],[],[ae (n / 32),ae (n / 128),ae (n / 256)].take (1+n / 1024%2+n / 2048%2),0,0,0,0,[],[],0,0,0,0,0,0,0,[],0,0,0,[]⟩) (r := .agg (opC ⟨9,[],[],[ae (n / 32),ae (n / 128),ae (n / 256)].take (1+n / 1024%2+n / 2048%2),0,0,0,0,[],[],0,0,0,0,0,0,0,[],0,0,0,[]⟩ (fzs _) nls nls nls)) oN ?_ rfl (fF _ (y _) (z _) (z _) (z _))
  refine gI oW Tryz.func12 Tryz.results12 ?_
  exact wR (aI @pgv (aI @mmF (aI @hil (aI @e (aI @shB (aI @anB (aI @ai (aI @t3 (aI @s3 (aI @l3 (aI @i3 @id_eq.{1}))))))))))) (aI a0 (aI a7 (aI n5 (aI n7 n8)))) ah
 ·refine K (o:=⟨10,[],[],[],0,0,0,0,[],[],0,0,((n / 32%2:Nat):Int),((n / 64%2:Nat):Int),0,0,(dA m).1,(dA m).2.1,(dA m).2.2.1,(dA m).2.2.2.1,(dA m).2.2.2.2,[]⟩) (r := .agg (opC ⟨10,[],[],[],0,0,0,0,[],[],0,0,((n / 32%2:Nat):Int),((n / 64%2:Nat):Int),0,0,(dA m).1,(dA m).2.1,(dA m).2.2.1,(dA m).2.2.2.1,(dA m).2.2.2.2,[]⟩ nls nls nls nls)) oN ?_ rfl (fF _ (z _) (z _) (z _) (z _))
  refine gI oW Tryz.func12 Tryz.results12 ?_
  exact wR (aI @pgv (aI @mmF (aI @hil (aI @e (aI @shB (aI @anB @ai)))))) (aI a0 (aI a7 hq)) ah
 ·refine K (o:=⟨11,[],[],[],0,0,0,0,[],[],0,0,((n / 32%2:Nat):Int),0,0,0,0,[],0,0,0,[]⟩) (r := .agg (opC ⟨11,[],[],[],0,0,0,0,[],[],0,0,((n / 32%2:Nat):Int),0,0,0,0,[],0,0,0,[]⟩ nls nls nls nls)) oN ?_ rfl (fF _ (z _) (z _) (z _) (z _))
  refine gI oW Tryz.func12 Tryz.results12 ?_
  exact wR (aI @pgv (aI @mmF (aI @hil (aI @e (aI @shB (aI @anB @ai)))))) (aI a0 a7) ah
 ·refine K (o:=⟨12,[],[],[],0,0,0,0,[],[],0,0,((n / 32%2:Nat):Int),((n / 64%2:Nat):Int),0,0,0,[],0,0,0,[]⟩) (r := .agg (opC ⟨12,[],[],[],0,0,0,0,[],[],0,0,((n / 32%2:Nat):Int),((n / 64%2:Nat):Int),0,0,0,[],0,0,0,[]⟩ nls nls nls nls)) oN ?_ rfl (fF _ (z _) (z _) (z _) (z _))
  refine gI oW Tryz.func12 Tryz.results12 ?_
  exact wR (aI @pgv (aI @mmF (aI @hil (aI @e (aI @shB (aI @anB @ai)))))) (aI a0 a7) ah
 ·refine K (o:=⟨13,[],[],[],0,0,0,0,[],[],0,0,0,0,((n / 32%2:Nat):Int),((n / 64%4:Nat):Int),0,[],0,0,0,[]⟩) (r := .agg (opC ⟨13,[],[],[],0,0,0,0,[],[],0,0,0,0,((n / 32%2:Nat):Int),((n / 64%4:Nat):Int),0,[],0,0,0,[]⟩ nls nls nls nls)) oN ?_ rfl (fF _ (z _) (z _) (z _) (z _))
  refine gI oW Tryz.func12 Tryz.results12 ?_
  exact wR (aI @pgv (aI @mmF (aI @hil (aI @e (aI @shB (aI @anB @ai)))))) (aI a0 a7) ah
 ·refine K (o:=⟨14,[],[],[],0,0,0,0,[],[],0,0,0,0,((n / 32%2:Nat):Int),0,0,[],0,0,0,[]⟩) (r := .agg (opC ⟨14,[],[],[],0,0,0,0,[],[],0,0,0,0,((n / 32%2:Nat):Int),0,0,[],0,0,0,[]⟩ nls nls nls nls)) oN ?_ rfl (fF _ (z _) (z _) (z _) (z _))
  refine gI oW Tryz.func12 Tryz.results12 ?_
  exact wR (aI @pgv (aI @mmF (aI @hil (aI @e (aI @shB (aI @anB @ai)))))) (aI a0 a7) ah
 ·rcases (show n / 32%2=1∨n / 32%2=0 by omega) with hx|hx
  ·refine K (o:=⟨15,[],[],[],0,0,0,0,[],[],0,0,((n / 64%2:Nat):Int),((n / 128%2:Nat):Int),0,0,0,[],0,0,0,[]⟩) (r := .agg (opC ⟨15,[],[],[],0,0,0,0,[],[],0,0,((n / 64%2:Nat):Int),((n / 128%2:Nat):Int),0,0,0,[],0,0,0,[]⟩ nls nls nls nls)) oN ?_ rfl (fF _ (z _) (z _) (z _) (z _))
   refine gI oW Tryz.func12 Tryz.results12 ?_
   exact wR (aI @pgv (aI @mmF (aI @hil (aI @e (aI @shB (aI @anB @ai)))))) (aI a0 a7) ah
  ·refine K (o:=⟨16,ae (n / 64),[],[],0,0,0,0,[],[],0,0,0,0,0,0,0,[],0,0,0,da⟩) (r := .agg (opC ⟨16,ae (n / 64),[],[],0,0,0,0,[],[],0,0,0,0,0,0,0,[],0,0,0,da⟩ nls nls nls (fzb _))) oN ?_ rfl (fF _ (z _) (z _) (z _) (y _))
   refine gI oW Tryz.func12 Tryz.results12 ?_
   exact wR (aI @pgv (aI @mmF (aI @hil (aI @e (aI @shB (aI @anB (aI @ai (aI @e7 (aI @d7 @m7))))))))) (aI a0 (aI a7 (aI n6 (aI hS hE)))) ah
 ·refine K (o:=⟨17,[],[],[],0,0,0,0,[],[],0,0,0,0,0,0,0,[],0,0,0,[]⟩) (r := .agg (opC ⟨17,[],[],[],0,0,0,0,[],[],0,0,0,0,0,0,0,[],0,0,0,[]⟩ nls nls nls nls)) oN ?_ rfl (fF _ (z _) (z _) (z _) (z _))
  refine gI oW Tryz.func12 Tryz.results12 ?_
  exact wR (aI @pgv (aI @mmF (aI @hil (aI @e (aI @shB (aI @anB @ai)))))) (aI a0 a7) ah
def okw(c:Nat):Bool:=decide (33≤c)&&decide (c≤126)&&decide (c≠35)
theorem afU{c:Nat}:okw c=true↔33≤c∧c≤126∧c≠35:=by unfold okw;simp only[Bool.and_eq_true,decide_eq_true_eq,and_assoc]
def Wd(x:List Nat):Prop:=oct x∧x.length≤1000000∧x≠[]∧∀c∈x,okw c=true
def WdL(l:List (List Nat)):Prop:=∀x∈l,Wd x
theorem Wd.no{x:List Nat}(h:Wd x):∀c∈x,c≠32:=fun c hc=>by have:=afU.1 (h.2.2.2 c hc);omega
theorem jK:WdL []:=fun x h=>by cases h
theorem aC{x:List Nat}{l:List (List Nat)}(h:Wd x)(hl:WdL l):WdL (x::l):=fun y hy=>by
 rcases List.mem_cons.1 hy with rfl|hy
 ·exact h
 ·exact hl y hy
theorem af1{x:List Nat}(hl:x.length≤1000000)(hn:x≠[])(h:∀c∈x,okw c=true):Wd x:=⟨fun c hc=>by have:=afU.1 (h c hc);omega,hl,hn,h⟩
theorem jL(x:List Nat)(h:(x.all okw)=true)(hl:x.length≤1000000)(hn:x≠[]:=by decide):Wd x:=af1 hl hn (fun c hc=>List.all_eq_true.1 h c hc)
theorem apU{c:Nat}(h:nmC c=true):okw c=true:=by
 rw[afU]
 unfold nmC bt at h
 simp only[Bool.or_eq_true,Bool.and_eq_true,decide_eq_true_eq,beq_iff_eq] at h
 omega
theorem apV{c:Nat}(h:plC c=true):okw c=true:=by
 rw[afU]
 unfold plC bt mk5 at h
 simp only[Bool.or_eq_true,Bool.and_eq_true,decide_eq_true_eq,Bool.not_eq_true',Bool.and_eq_false_iff,bne_eq_false_iff_eq] at h
 omega
theorem apF{d:Nat}(h:d<16):okw (hx d)=true:=by
 rw[afU]
 rcases yK d h with h|h<;>omega
theorem apW(u:Nat):∀x∈dd u,okw x=true:=by
 intro x hx
 have h:=zV (List.all_eq_true.1 (Gi (u+1) u (by omega)).1 x hx)
 rw[afU];omega
theorem lH{x:List Nat}(ho:oct x)(h:jW x=true):Wd x:=by
 unfold jW at h
 simp only[Bool.and_eq_true,decide_eq_true_eq] at h
 exact af1 (by omega) (by rintro rfl;exact absurd h.1.1.1 (by decide)) (fun c hc=>apU (List.all_eq_true.1 h.2 c hc))
theorem apX(u:Nat):dd u≠[]:=by
 unfold dd Lib.decDigits
 split<;>simp
theorem jb{n:Int}(h:Wt n):Wd (ak n):=by
 refine af1 (by have:=dS h;omega) ?_ ?_
 ·rw[uQ];split
  ·simp
  ·exact apX _
 ·intro c hc
  rw[uQ] at hc
  split at hc
  ·rcases List.mem_cons.1 hc with rfl|hc
   ·decide
   ·exact apW _ c hc
  ·exact apW _ c hc
theorem apG(u i:Nat):∀x∈o8 u i,okw x=true:=by
 induction i with
 | zero=>intro x hx;cases hx
 | succ i ih =>
  intro x hx'
  rcases List.mem_cons.1 hx' with rfl|h
  ·exact apF (Nat.mod_lt _ (by omega))
  ·exact ih x h
theorem apH(u:Nat):1≤nd u:=by rw[nd];split<;>omega
theorem af9(u:Nat)(hu:u<18446744073709551616):Wd (jy u):=af1 (by have:=IK u hu;omega) (by intro h;have h1:=DW u (nd u);have h2:=apH u;unfold jy at h;rw[h] at h1;simp at h1;omega) (apG u _)
theorem aoM(l:List Nat)(ho:oct l):∀x∈jh l,okw x=true:=by
 intro x hx'
 obtain⟨c,hc,h⟩:=List.mem_flatMap.1 hx'
 have hc':=ho c hc
 simp only[List.mem_cons,List.not_mem_nil,or_false] at h
 rcases h with rfl|rfl
 ·exact apF (by omega)
 ·exact apF (by omega)
theorem ahm{k:List Nat}(ho:oct k)(h:fH k=true):Wd (kw k):=by
 obtain⟨h0,hf⟩:=afH h
 have h2:kw k=(fk k).1:=if_pos h0
 refine af1 (by have:=zZ k;omega) ?_ ?_<;>rw[h2]<;>rcases hf with ⟨hf,hp⟩|hf<;>rw[hf]
 ·have:=BP h;intro hk;simp only at hk;rw[hk] at this;exact absurd this.1 (by decide)
 ·simp
 ·intro c hc;exact apV (List.all_eq_true.1 hp c hc)
 ·intro c hc
  rcases List.mem_cons.1 hc with rfl|hc
  ·decide
  ·exact aoM k ho c hc
theorem ajX:fb []=[45]:=rfl
theorem SH{l:List Nat}(ho:oct l)(hl:l.length≤65536):Wd (fb l):=by
 by_cases h:l=[]
 ·rw[h,ajX];exact jL _ (by decide) (by decide)
 ·have hf:fb l=jh l:=if_neg (by intro h1;exact h (List.eq_nil_of_length_eq_zero h1))
  have h3:=lq l
  refine af1 (by have:=uT l;omega) ?_ (by rw[hf];exact aoM l ho)
  rw[hf];intro h4;rw[h4] at h3
  exact h (List.eq_nil_of_length_eq_zero (by simp at h3;omega))
theorem aga(k z d s:Int)(hz:Wt z)(hd:Wt d)(hs:0≤s∧s<18446744073709551616):WdL (qX k z d s):=by
 have h1:=jb hz
 have h2:=jb hd
 have h3:=af9 s.toNat (by omega)
 unfold qX
 (repeat' split)<;>repeat' (first|exact jK|refine aC (jL _ (by decide) (by decide)) ?_|refine aC h1 ?_|refine aC h2 ?_|refine aC h3 ?_)
theorem SI(k:Int)(key:List Nat)(c n d:Int)(ho:oct key)(h:vq k key c n d=0)(hc:Wt c)(hn:Wt n)(hd:Wt d):WdL (lY k key c n d):=by
 have h1:=jb hc
 have h2:=jb hn
 have h3:=jb hd
 have h4:=fun hk=>ahm ho (Ai h hk)
 unfold lY
 (repeat' split)<;>repeat' (first|exact jK|refine aC (jL _ (by decide) (by decide)) ?_|refine aC h1 ?_|refine aC h2 ?_|refine aC h3 ?_|refine aC (h4 (by omega)) ?_)
theorem agb(l:List (List Nat × Int))(h:∀x∈l,oct x.1∧fH x.1=true∧Wt x.2):WdL (lL l):=by
 induction l with
 | nil=>exact jK
 | cons x l ih =>
  have hx:=h x (by simp)
  exact aC (ahm hx.1 hx.2.1) (aC (jb hx.2.2) (ih fun y hy=>h y (by simp [hy])))
theorem Cc{x:List Nat}(h:jW x=true):x.length≤16:=by
 unfold jW at h
 simp only[Bool.and_eq_true,decide_eq_true_eq] at h
 omega
theorem mQ{n a b:Int}(h:bwE n a b=0):a≤n∧n≤b:=by unfold bwE at h;split at h;cases h;omega
theorem oL{l:List Nat}(h:nmE l=0):jW l=true:=by unfold nmE at h;split at h;assumption;cases h
theorem Qn{l:List Nat}{m:Int}(h:shE l m=0):(l.length:Int)≤m:=by unfold shE at h;split at h;cases h;omega
theorem oJ{α:Type}{l:List α}(h:decide (l.length=0)=true):l=[]:=List.eq_nil_of_length_eq_zero (of_decide_eq_true h)
theorem agc(o:O)(hk:o.kind=6):opW o=qU o:=by simp [opW,hk]
theorem xu(o:O)(hk:o.kind=1):opW o=[99,114,101,97,116,101]::o.name::qX o.pk o.pz o.pd o.ps:=by simp [opW,hk]
theorem agd(o:O)(ok:o.Ok)(hk:o.kind=1)(hv:vop o=0):WdL (opW o):=by
 have c0:chk o 0=0:=(bW hv).2.1 0 (by omega) (by rw[hk];decide)
 have c3:chk o 3=0:=(bW hv).2.1 3 (by omega) (by rw[hk];decide)
 replace c0:=oL c0
 replace c3:vp o.pk o.pz o.pd o.ps=0:=c3
 rw[xu o hk]
 exact aC (jL _ (by decide) (by decide)) (aC (lH ok.oct.1 c0) (aga _ _ _ _ ok.pz ok.pd ok.ps))
theorem abU(o:O)(hk:o.kind=2):opW o=[100,114,111,112]::o.name::[]:=by simp [opW,hk]
theorem age(o:O)(ok:o.Ok)(hk:o.kind=2)(hv:vop o=0):WdL (opW o):=by
 have c0:chk o 0=0:=(bW hv).2.1 0 (by omega) (by rw[hk];decide)
 replace c0:=oL c0
 rw[abU o hk]
 exact aC (jL _ (by decide) (by decide)) (aC (lH ok.oct.1 c0) (jK))
theorem abV(o:O)(hk:o.kind=3):opW o=[114,101,110,97,109,101]::o.name::o.other::[]:=by simp [opW,hk]
theorem agf(o:O)(ok:o.Ok)(hk:o.kind=3)(hv:vop o=0):WdL (opW o):=by
 have c0:chk o 0=0:=(bW hv).2.1 0 (by omega) (by rw[hk];decide)
 have c1:chk o 1=0:=(bW hv).2.1 1 (by omega) (by rw[hk];decide)
 replace c0:=oL c0
 replace c1:=oL c1
 rw[abV o hk]
 exact aC (jL _ (by decide) (by decide)) (aC (lH ok.oct.1 c0) (aC (lH ok.oct.2.1 c1) (jK)))
theorem abW(o:O)(hk:o.kind=4):opW o=[108,105,115,116]::[]:=by simp [opW,hk]
theorem agh(o:O)(ok:o.Ok)(hk:o.kind=4)(hv:vop o=0):WdL (opW o):=by
 rw[abW o hk]
 exact aC (jL _ (by decide) (by decide)) (jK)
theorem vI(o:O)(hk:o.kind=5):opW o=[113,117,101,114,121]::o.name::lY o.qk o.qkey o.qc o.qn o.qd:=by simp [opW,hk]
theorem agi(o:O)(ok:o.Ok)(hk:o.kind=5)(hv:vop o=0):WdL (opW o):=by
 have c0:chk o 0=0:=(bW hv).2.1 0 (by omega) (by rw[hk];decide)
 have c12:chk o 12=0:=(bW hv).2.1 12 (by omega) (by rw[hk];decide)
 replace c0:=oL c0
 replace c12:vq o.qk o.qkey o.qc o.qn o.qd=0:=c12
 rw[vI o hk]
 exact aC (jL _ (by decide) (by decide)) (aC (lH ok.oct.1 c0) (SI _ _ _ _ _ ok.qkey c12 ok.qc ok.qn ok.qd))
theorem abX(o:O)(hk:o.kind=6):opW o=[105,110,115,101,114,116]::o.name::fb o.coins::lL o.items:=by rw[agc o hk];rfl
theorem agj(o:O)(ok:o.Ok)(hk:o.kind=6)(hv:vop o=0):WdL (opW o):=by
 have c0:chk o 0=0:=(bW hv).2.1 0 (by omega) (by rw[hk];decide)
 have c4:chk o 4=0:=(bW hv).2.1 4 (by omega) (by rw[hk];decide)
 have c5:chk o 5=0:=(bW hv).2.1 5 (by omega) (by rw[hk];decide)
 replace c0:=oL c0
 have d4:=IL hk hv
 replace c5:=Qn c5
 rw[abX o hk]
 exact aC (jL _ (by decide) (by decide)) (aC (lH ok.oct.1 c0) (aC (SH ok.oct.2.2.2.2.1 (by omega)) (agb _ (fun x hx=>⟨ok.oct.2.2.2.1 x hx,(d4.2 x hx).1,ok.wts x hx⟩))))
theorem abY(o:O)(hk:o.kind=7):opW o=[109,101,114,103,101]::o.name::o.other::fb o.coins::[]:=by simp [opW,hk]
theorem agk(o:O)(ok:o.Ok)(hk:o.kind=7)(hv:vop o=0):WdL (opW o):=by
 have c0:chk o 0=0:=(bW hv).2.1 0 (by omega) (by rw[hk];decide)
 have c1:chk o 1=0:=(bW hv).2.1 1 (by omega) (by rw[hk];decide)
 have c5:chk o 5=0:=(bW hv).2.1 5 (by omega) (by rw[hk];decide)
 replace c0:=oL c0
 replace c1:=oL c1
 replace c5:=Qn c5
 rw[abY o hk]
 exact aC (jL _ (by decide) (by decide)) (aC (lH ok.oct.1 c0) (aC (lH ok.oct.2.1 c1) (aC (SH ok.oct.2.2.2.2.1 (by omega)) (jK))))
theorem abZ(o:O)(hk:o.kind=8):opW o=[99,111,109,112,97,114,101]::o.name::o.other::fb o.coins::ak o.exp::ak o.src::[]:=by simp [opW,hk]
theorem agl(o:O)(ok:o.Ok)(hk:o.kind=8)(hv:vop o=0):WdL (opW o):=by
 have c0:chk o 0=0:=(bW hv).2.1 0 (by omega) (by rw[hk];decide)
 have c1:chk o 1=0:=(bW hv).2.1 1 (by omega) (by rw[hk];decide)
 have c5:chk o 5=0:=(bW hv).2.1 5 (by omega) (by rw[hk];decide)
 have c6:chk o 6=0:=(bW hv).2.1 6 (by omega) (by rw[hk];decide)
 have c7:chk o 7=0:=(bW hv).2.1 7 (by omega) (by rw[hk];decide)
 replace c0:=oL c0
 replace c1:=oL c1
 replace c5:=Qn c5
 replace c6:=mQ c6
 replace c7:=mQ c7
 rw[abZ o hk]
 exact aC (jL _ (by decide) (by decide)) (aC (lH ok.oct.1 c0) (aC (lH ok.oct.2.1 c1) (aC (SH ok.oct.2.2.2.2.1 (by omega)) (aC (jb ok.exp) (aC (jb ok.src) (jK))))))
theorem ab1(o:O)(hk:o.kind=9):opW o=[111,112,101,110]::o.names:=by simp [opW,hk]
theorem agm(o:O)(ok:o.Ok)(hk:o.kind=9)(hv:vop o=0):WdL (opW o):=by
 have c2:chk o 2=0:=(bW hv).2.1 2 (by omega) (by rw[hk];decide)
 have c2:=(Sl hk hv).2
 rw[ab1 o hk]
 exact aC (jL _ (by decide) (by decide)) ((fun x hx=>lH (ok.oct.2.2.1 x hx) (c2 x hx)))
theorem agq(o:O)(hk:o.kind=10):opW o=[114,101,97,100]::ak o.hnd::ak o.idx::lY o.qk o.qkey o.qc o.qn o.qd:=by simp [opW,hk]
theorem ab2(o:O)(ok:o.Ok)(hk:o.kind=10)(hv:vop o=0):WdL (opW o):=by
 have c8:chk o 8=0:=(bW hv).2.1 8 (by omega) (by rw[hk];decide)
 have c9:chk o 9=0:=(bW hv).2.1 9 (by omega) (by rw[hk];decide)
 have c12:chk o 12=0:=(bW hv).2.1 12 (by omega) (by rw[hk];decide)
 replace c8:=mQ c8
 replace c9:=mQ c9
 replace c12:vq o.qk o.qkey o.qc o.qn o.qd=0:=c12
 rw[agq o hk]
 exact aC (jL _ (by decide) (by decide)) (aC (jb ok.hnd) (aC (jb ok.idx) (SI _ _ _ _ _ ok.qkey c12 ok.qc ok.qn ok.qd)))
theorem SL(o:O)(hk:o.kind=11):opW o=[99,108,111,115,101]::ak o.hnd::[]:=by simp [opW,hk]
theorem ab3(o:O)(ok:o.Ok)(hk:o.kind=11)(hv:vop o=0):WdL (opW o):=by
 have c8:chk o 8=0:=(bW hv).2.1 8 (by omega) (by rw[hk];decide)
 replace c8:=mQ c8
 rw[SL o hk]
 exact aC (jL _ (by decide) (by decide)) (aC (jb ok.hnd) (jK))
theorem SN(o:O)(hk:o.kind=12):opW o=[99,117,114,115,111,114]::ak o.hnd::ak o.idx::[]:=by simp [opW,hk]
theorem ab4(o:O)(ok:o.Ok)(hk:o.kind=12)(hv:vop o=0):WdL (opW o):=by
 have c8:chk o 8=0:=(bW hv).2.1 8 (by omega) (by rw[hk];decide)
 have c9:chk o 9=0:=(bW hv).2.1 9 (by omega) (by rw[hk];decide)
 replace c8:=mQ c8
 replace c9:=mQ c9
 rw[SN o hk]
 exact aC (jL _ (by decide) (by decide)) (aC (jb ok.hnd) (aC (jb ok.idx) (jK)))
theorem SQ(o:O)(hk:o.kind=13):opW o=[110,101,120,116]::ak o.cur::ak o.cnt::[]:=by simp [opW,hk]
theorem ab5(o:O)(ok:o.Ok)(hk:o.kind=13)(hv:vop o=0):WdL (opW o):=by
 have c10:chk o 10=0:=(bW hv).2.1 10 (by omega) (by rw[hk];decide)
 have c11:chk o 11=0:=(bW hv).2.1 11 (by omega) (by rw[hk];decide)
 replace c10:=mQ c10
 replace c11:=mQ c11
 rw[SQ o hk]
 exact aC (jL _ (by decide) (by decide)) (aC (jb ok.cur) (aC (jb ok.cnt) (jK)))
theorem SS(o:O)(hk:o.kind=14):opW o=[101,110,100]::ak o.cur::[]:=by simp [opW,hk]
theorem ab6(o:O)(ok:o.Ok)(hk:o.kind=14)(hv:vop o=0):WdL (opW o):=by
 have c10:chk o 10=0:=(bW hv).2.1 10 (by omega) (by rw[hk];decide)
 replace c10:=mQ c10
 rw[SS o hk]
 exact aC (jL _ (by decide) (by decide)) (aC (jb ok.cur) (jK))
theorem SV(o:O)(hk:o.kind=15):opW o=[101,120,112,111,114,116]::ak o.hnd::ak o.idx::[]:=by simp [opW,hk]
theorem ab7(o:O)(ok:o.Ok)(hk:o.kind=15)(hv:vop o=0):WdL (opW o):=by
 have c8:chk o 8=0:=(bW hv).2.1 8 (by omega) (by rw[hk];decide)
 have c9:chk o 9=0:=(bW hv).2.1 9 (by omega) (by rw[hk];decide)
 replace c8:=mQ c8
 replace c9:=mQ c9
 rw[SV o hk]
 exact aC (jL _ (by decide) (by decide)) (aC (jb ok.hnd) (aC (jb ok.idx) (jK)))
theorem SX(o:O)(hk:o.kind=16):opW o=[105,109,112,111,114,116]::o.name::fb o.data::[]:=by simp [opW,hk]
theorem ab8(o:O)(ok:o.Ok)(hk:o.kind=16)(hv:vop o=0):WdL (opW o):=by
 have c0:chk o 0=0:=(bW hv).2.1 0 (by omega) (by rw[hk];decide)
 have c13:chk o 13=0:=(bW hv).2.1 13 (by omega) (by rw[hk];decide)
 replace c0:=oL c0
 replace c13:=Qn c13
 rw[SX o hk]
 exact aC (jL _ (by decide) (by decide)) (aC (lH ok.oct.1 c0) (aC (SH ok.oct.2.2.2.2.2.2 (by omega)) (jK)))
theorem SY(o:O)(hk:o.kind=17):opW o=[99,111,108,108,101,99,116]::[]:=by simp [opW,hk]
theorem ab9(o:O)(ok:o.Ok)(hk:o.kind=17)(hv:vop o=0):WdL (opW o):=by
 rw[SY o hk]
 exact aC (jL _ (by decide) (by decide)) (jK)
theorem dX(o:O)(ok:o.Ok)(hv:vop o=0):WdL (opW o):=by
 rcases nU (k:=o.kind) (by have:=(bW hv).1;omega) with h|h|h|h|h|h|h|h|h|h|h|h|h|h|h|h|h
 ·exact agd o ok h hv
 ·exact age o ok h hv
 ·exact agf o ok h hv
 ·exact agh o ok h hv
 ·exact agi o ok h hv
 ·exact agj o ok h hv
 ·exact agk o ok h hv
 ·exact agl o ok h hv
 ·exact agm o ok h hv
 ·exact ab2 o ok h hv
 ·exact ab3 o ok h hv
 ·exact ab4 o ok h hv
 ·exact ab5 o ok h hv
 ·exact ab6 o ok h hv
 ·exact ab7 o ok h hv
 ·exact ab8 o ok h hv
 ·exact ab9 o ok h hv
theorem amj{p:Prop}[Decidable p]{a b:List (List Nat)}(h1:a≠[])(h2:b≠[]):(if p then a else b)≠[]:=by split<;>assumption
theorem ajZ(o:O):opW o≠[]:=by unfold opW qU;(repeat' refine amj ?_ ?_)<;>simp
theorem aqT(o:O)(ok:o.Ok)(hv:vop o=0):spl 32 (jn (opW o))=opW o:=aiH (ajZ o) fun w hw=>(dX o ok hv w hw).no
end Go.Proofs.YtjiolbcdfgclaaaGreatDoor
section
namespace Go.Proofs.YtjiolbcdfgclaaaGreatDoor
open Go Go.Pg
variable {e:Nat→V} {bx:Nat→Option (TypeId × List V)} {n:Nat} {h:Nat→V}
theorem zt{l:List (List Nat)}(h:∀x∈l,x.length≤1000000):(hdW l).length≤1000000:=by
 cases l with
 | nil=>simp [hdW]
 | cons x r=>have:=h x (by simp);simp only[hdW,List.headD_cons];omega
theorem aj0:∀x∈gu,oct x:=by
 intro x hx
 have:∀x∈gu,(x.all fun b=>decide (b<256))=true:=by decide
 intro b hb
 simpa using List.all_eq_true.1 (this x hx) b hb
theorem hQ{p:Prop}(h:p:=by (try simp only[upd]);(repeat' (first|rw[if_neg (by omega)]|rw[if_pos rfl]|rw[if_pos trivial]));first|done|exact hb|exact hcx|exact rfl):p:=h
theorem nb{b:Nat}(h:b<n):(¬n=b)∧(¬b=n)∧(¬n=n+1+1)∧(¬n+1+1=n)∧(¬n+1+1=b)∧¬b=n+1+1:=by omega
def fG:=aI @iQ (aI @dm (aI @bI (aI @ai (aI @List.tail_cons.{0} (aI @Bool.false_or (aI @aa8 (aI @wu @au)))))))
def fg{b:Nat}{v:Option (TypeId × List V)}(h:bx b=v)(hn:b<n):=aI fG (aI h (nb hn))
def fh{b c:Nat}{v w:Option (TypeId × List V)}(h:bx b=v)(h2:bx c=w)(hn:c≠b):=aI fG (aI h (aI h2 (aI hn hn.symm)))
theorem gG{f:FuncId}{fn:Func}{c:Code}{rs:List ResultVar}{args:List V}{r:V}{bx' bx2:Nat→Option (TypeId × List V)}{n' n2:Nat}(hf:Tryz.prog.funcs[f]?=some fn)(hrs:fn.results=rs.toArray)(hb:fn.body=some c)(hw:wpS (dC []) Tryz.prog c (XC Tryz.prog rs ⟨e,bx',n',h⟩ r) (XB args ⟨e,bx,n,h⟩))
  (hn:(fn.name == "runtime.NumGoroutine")=false:=by kernel_rfl) (hfit:xK fn.ntmps c=true:=by kernel_rfl) (hlen:args.length≤fn.ntmps:=by exact Nat.le_of_ble_eq_true (by kernel_rfl)) (hN:n'≤n2:=by omega)
  (hx:∀c,bx2 c=bx' c∨bx2 c=none∨(n≤c∧bx2 c=bx c):=by first|exact pw (fun c hc=>by simp only[upd];first|((repeat' split)<;>first|rfl|omega)|(rcases Classical.em (c=b) with hq|hq<;>(repeat (first|rw[if_pos hq]|rw[if_neg (by omega)]))<;>rfl)) (fun c hc=>by simp only[upd];(repeat rw[if_neg (by omega)]);first|done|rfl)|(intro d;simp only[upd];first|exact .inl trivial|((repeat' split)<;>first|exact .inl rfl|exact .inl trivial|(exfalso;omega)))):Gxz f args ⟨e,bx,n,h⟩ ⟨e,bx2,n2,h⟩ r :=
 (AV oW hf hb hrs hn hfit hlen hw).le hN hx
theorem iA{F:Prop}{rs:List ResultVar}{s':St}{r:V}{b:Nat→Option (TypeId × List V)}(fx:F)(h1:F→pJ Tryz.prog ⟨e,b,n,h⟩ rs=some r:=by intro fx;first|exact vN _ _|exact aG _ _ _|exact jq _ _ _ _|(simp (disch:=first|exact dqz|fail) only[pgr,pgo,tyf,simprocAttr,fx];done)|(simp (disch:=first|exact dqz|fail) only[pgr,pgo,tyf,simprocAttr,fx];rfl))(h2:(⟨unE h,b,n,unH h⟩:St)=s':=by rw[dJ,dK]):Nv Tryz.prog rs s' r ⟨e,b,n,h⟩:=⟨h1 fx,by subst h2;exact⟨rfl,rfl,rfl,Nat.le_refl _⟩⟩
theorem tlo{p:List Nat→Prop}{l:List (List Nat)}(h:∀x∈l,p x):∀x∈l.tail,p x:=fun x hx=>h x (List.mem_of_mem_tail hx)
theorem hO{p:Prop}(h:p:=by first|exact vZ ho|exact vZ (tlo ho)|exact vZ (tlo (tlo ho))|exact vZ (tlo (tlo (tlo ho)))|exact vZ (tlo (tlo (tlo (tlo ho))))|assumption):p:=h
theorem hL{p:Prop}(h:p:=by first|exact zt hw|exact zt (tlo hw)|exact zt (tlo (tlo hw))|exact zt (tlo (tlo (tlo hw)))|exact zt (tlo (tlo (tlo (tlo hw))))|(show _≤_;simp only[hdW,List.headD_cons];omega)):p:=h
theorem hT{p:Prop}(h:p:=by first|exact Nat.le_of_ble_eq_true rfl|assumption|skip;(try simp only[List.length_tail,List.length_cons]);omega):p:=h
def zw(b:Nat){l:List (List Nat)}{bad:Bool}(hb:bx b=some (108,rdC l bad):=by exact hQ)(hl:l.length≤1000000:=by exact hT):=Ec e bx n h b l bad hb hl
def zn(b:Nat){l:List (List Nat)}{bad:Bool}(hb:bx b=some (108,rdC l bad):=by exact hQ)(hl:l.length≤1000000:=by exact hT)(ho:oct (hdW l):=by exact hO)(hw:(hdW l).length≤1000000:=by exact hL):=Ed e bx n h b l bad hb hl ho hw
def zk(b:Nat){l:List (List Nat)}{bad:Bool}(hb:bx b=some (108,rdC l bad):=by exact hQ)(hl:l.length≤1000000:=by exact hT)(ho:oct (hdW l):=by exact hO)(hw:(hdW l).length≤1000000:=by exact hL):=aa5 e bx n h b l bad hb hl ho hw
def zb(b:Nat){l:List (List Nat)}{bad:Bool}(hb:bx b=some (108,rdC l bad):=by exact hQ)(hbn:b<n:=by omega)(hl:l.length≤1000000:=by exact hT)(ho:oct (hdW l):=by exact hO)(hw:(hdW l).length≤1000000:=by exact hL):=RU e bx n h b l bad hb hbn hl ho hw
def zW(b:Nat){w:List Nat}{l:List (List Nat)}{bad:Bool}(hb:bx b=some (108,rdC (w::l) bad):=by exact hQ)(hl:l.length≤1000000000:=by exact hT):=vY e bx n h b w l bad hb hl
def zN(b:Nat){w:List Nat}{l:List (List Nat)}(hb:bx b=some (108,rdC (w::l) false):=by exact hQ)(hl:l.length≤1000000000:=by exact hT)(ho:oct w:=by first|exact hoh|exact hoi)(hw:w.length≤1000000:=by omega)(hp:(aZ w).2=0:=by first|exact hph|exact hpi):=Aa e bx n h b w l hb hl ho hw hp
def zs(b:Nat){u:Nat}{l:List (List Nat)}{bad:Bool}(hb:bx b=some (108,rdC (jy u::l) bad):=by exact hQ)(hl:l.length≤100000:=by exact hT)(hu:u<18446744073709551616:=by assumption):=afx e bx n h b u hu l bad hb hl
theorem zEz{F C p:Prop}(fx:F)(cx:C)(h:F→C→p:=by intro fx cx;(repeat' first|refine wP fx trivial ?_|refine cZ (zW b) ?_|refine cZ (zw b) ?_|refine cZ (zN b) ?_|refine cZ (zn b) ?_|refine cZ (zk b) ?_|refine cZ (zs b) ?_|refine cZ (zb b) ?_|refine cZ (cx b) ?_|refine cZ (cx b (n+1+1)) ?_|fail);exact iA fx):p:=h fx cx
abbrev oZ(k:Int):O:=⟨k,[],[],[],0,0,0,0,[],[],0,0,0,0,0,0,0,[],0,0,0,[]⟩
abbrev oC(o:O):List V:=opC o nls nls nls nls
end Go.Proofs.YtjiolbcdfgclaaaGreatDoor
end
section
namespace Go.Proofs.YtjiolbcdfgclaaaGreatDoor
open Go Go.Pg
variable {e:Nat→V} {bx:Nat→Option (TypeId × List V)} {n:Nat} {h:Nat→V}
end Go.Proofs.YtjiolbcdfgclaaaGreatDoor
end
namespace Go.Proofs.YtjiolbcdfgclaaaGreatDoor
open Go Go.Pg
def MO:List (List Nat):=[[],[65],[97,45,49,46,120],[48,49,50,51,52,53,54,55,56,57,48,49,50,51,52,53,54]]
theorem akf(e:Nat→V)(b:Nat→Option (TypeId × List V))(n:Nat)(h:Nat→V):bV Tryz.prog ⟨e,b,n,h⟩ 23 4 [(0,V.c (.string (sB []))),(1,V.c (.string ⟨#[65]⟩)),(2,V.c (.string ⟨#[97,45,49,46,120]⟩)),(3,V.c (.string ⟨#[48,49,50,51,52,53,54,55,56,57,48,49,50,51,52,53,54]⟩))]=some (.sl (.own n 9) 1 (sv MO),⟨e,b,n+1,h⟩):=by
 rw[eG,qQ,Option.bind_some,x8,Option.bind_some,xZ,Option.bind_some]
 rfl
def MP:List (List Nat):=[[],[98],[98,32,98],[99]]
theorem akg(e:Nat→V)(b:Nat→Option (TypeId × List V))(n:Nat)(h:Nat→V):bV Tryz.prog ⟨e,b,n,h⟩ 23 4 [(0,V.c (.string (sB []))),(1,V.c (.string ⟨#[98]⟩)),(2,V.c (.string ⟨#[98,32,98]⟩)),(3,V.c (.string ⟨#[99]⟩))]=some (.sl (.own n 9) 1 (sv MP),⟨e,b,n+1,h⟩):=by
 rw[eG,qQ,Option.bind_some,x8,Option.bind_some,xZ,Option.bind_some]
 rfl
def xw:List (List Nat):=[[],[97],[63]]
theorem akh:mvS Tryz.prog 23 3 [(0,V.c (.string (sB []))),(1,V.c (.string ⟨#[97]⟩)),(2,V.c (.string ⟨#[63]⟩))]=some (.sl .fz 1 (sv xw)):=by
 rw[ag6,qQ,Option.bind_some,x8,Option.bind_some,xZ,Option.bind_some]
 rfl
def uk:List Int:=[0,1,1048576,1048577]
theorem iv4:[V.c (.int .i64 0),V.c (.int .i64 1),V.c (.int .i64 1048576),V.c (.int .i64 1048577)]=iv uk:=rfl
theorem Tc:V.idsL (iv uk)=[]:=rfl
def spK(n:Int):Nat:=(n.fdiv 32%16777216).toNat
theorem jw(n:Int):spK n<16777216:=by unfold spK;omega
theorem tV(n:Int):bits .and .i64 (n.fdiv (2^min 5 IntKind.i64.bits)) 16777215=((spK n:Nat):Int):=by
 have e:n.fdiv (2^min 5 IntKind.i64.bits)=n.fdiv 32:=rfl
 rw[e]
 refine Eq.trans (show _=n.fdiv 32%16777216 from jH (n.fdiv 32) 24 (by decide)) ?_
 unfold spK;omega
theorem lW(n:Int):bits .and .i64 n 31=n%32:=jH n 5 (by decide)
theorem aor(n:Nat):Int.tmod (n:Int) 22=((n%22:Nat):Int):=rfl
theorem ahn(n:Nat):Int.tmod (n:Int) 20=((n%20:Nat):Int):=rfl
theorem tm9(n:Nat):Int.tmod (n:Int) 9=((n%9:Nat):Int):=rfl
theorem amu(n:Nat):Int.tmod (n:Int) 40=((n%40:Nat):Int):=rfl
theorem tm2(n:Nat):Int.tmod (n:Int) 2=((n%2:Nat):Int):=rfl
theorem tm8(n:Nat):Int.tmod (n:Int) 8=((n%8:Nat):Int):=rfl
theorem aki(n:Nat):List.replicate n (V.c (.string (sB [])))=sv (List.replicate n []):=by simp [sv]
theorem agJ(n:Nat):List.replicate n (V.agg [V.c (.string (sB [])),vi 0])=itv (List.replicate n ([],0)):=by simp [itv]
theorem acz(n:Nat):List.replicate n (V.c (.int .u8 0))=bv (List.replicate n 0):=by simp [bv]
def spO(o:O)(j k:Nat):O :=
 if j=0 then { o with kind:=((k%22:Nat):Int)-2 }
 else if j=1 then { o with name:=MO.getD (k%4) [] }
 else if j=2 then { o with other:=MP.getD (k%4) [] }
 else if j=3 then { o with names:=o.names++[xw.getD (k%3) []] }
 else if j=4 then { o with names:=List.replicate (k%20) [] }
 else if j=5 then { o with pk:=((k%9:Nat):Int),pz:=((k / 8%40:Nat):Int),pd:=((k / 32%3:Nat):Int),ps:=0 }
 else if j=6 then { o with items:=o.items++[(wC (k:Int),((k%3:Nat):Int)-1)] }
 else if j=7 then { o with items:=List.replicate (64+k%2) ([],0) }
 else if j=8 then { o with coins:=List.replicate (60+k%9) 0 }
 else if j=9 then { o with exp:=uk.getD (k%4) 0 }
 else if j=10 then { o with src:=uk.getD (k%4) 0 }
 else if j=11 then { o with hnd:=((k%8:Nat):Int)-2 }
 else if j=12 then { o with idx:=((k%20:Nat):Int)-2 }
 else if j=13 then { o with cur:=((k%8:Nat):Int)-2 }
 else if j=14 then { o with cnt:=((k%40:Nat):Int)-3 }
 else if j=15 then { o with qk:=(uj k).1,qkey:=(uj k).2.1,qc:=(uj k).2.2.1,qn:=(uj k).2.2.2.1,qd:=(uj k).2.2.2.2 }
 else if j=16 then { o with data:=List.replicate (65536+k%2) 0 }
 else if j=17 then { o with data:=[1] }
 else o
def aX(o:O)(n:Int):O:=spO o (n%32).toNat (spK n)
theorem VU(o:O)(n:Int)(hn:o.names.length≤1000000)(hi:o.items.length≤1000000)(hc:n%32=0):Gxx 11 [.agg (opF o),vi n] (.agg (opF (aX o n))):=by
 have hkk:=tV n
 have hk24:=jw n
 have eo:aX o n=spO o 0 (spK n):=by unfold aX;rw[hc];rfl
 rw[eo]
 generalize spK n=k at *
 have eo2:spO o 0 k={ o with kind:=((k%22:Nat):Int)-2 }:=rfl
 rw[eo2]
 clear eo eo2
 have q1:=au o.names
 have q2:=aB o.items
 have h31:=lW n
 rw[hc] at h31
 obtain⟨kind,name,other,names,pk,pz,pd,ps,items,coins,exp,src,hnd,idx,cur,cnt,qk,qkey,qc,qn,qd,data⟩:=o
 simp only at *
 refine gI oW Tryz.func11 Tryz.results11 ?_
 exact wR (aI @hkk (aI @h31 (aI @shB (aI @anB (aI @ai @aor))))) trivial ah
theorem VV(o:O)(n:Int)(hn:o.names.length≤1000000)(hi:o.items.length≤1000000)(hc:n%32=1):Gxx 11 [.agg (opF o),vi n] (.agg (opF (aX o n))):=by
 have hkk:=tV n
 have hk24:=jw n
 have eo:aX o n=spO o 1 (spK n):=by unfold aX;rw[hc];rfl
 rw[eo]
 generalize spK n=k at *
 have eo2:spO o 1 k={ o with name:=MO.getD (k%4) [] }:=rfl
 rw[eo2]
 clear eo eo2
 have q1:=au o.names
 have q2:=aB o.items
 have h31:=lW n
 rw[hc] at h31
 have hl1:=au MO
 have hL1:MO.length=4:=rfl
 have hg1:=iK MO (k%4) (by rw[hL1];omega)
 generalize MO.getD (k%4) []=x at *
 obtain⟨kind,name,other,names,pk,pz,pd,ps,items,coins,exp,src,hnd,idx,cur,cnt,qk,qkey,qc,qn,qd,data⟩:=o
 simp only at *
 refine gI oW Tryz.func11 Tryz.results11 ?_
 exact wR' (aI @hkk (aI @h31 (aI @shB (aI @anB (aI @ai (aI @akf (aI @hg1 @hl1))))))) trivial ah
theorem VW(o:O)(n:Int)(hn:o.names.length≤1000000)(hi:o.items.length≤1000000)(hc:n%32=2):Gxx 11 [.agg (opF o),vi n] (.agg (opF (aX o n))):=by
 have hkk:=tV n
 have hk24:=jw n
 have eo:aX o n=spO o 2 (spK n):=by unfold aX;rw[hc];rfl
 rw[eo]
 generalize spK n=k at *
 have eo2:spO o 2 k={ o with other:=MP.getD (k%4) [] }:=rfl
 rw[eo2]
 clear eo eo2
 have q1:=au o.names
 have q2:=aB o.items
 have h31:=lW n
 rw[hc] at h31
 have hl2:=au MP
 have hL2:MP.length=4:=rfl
 have hg2:=iK MP (k%4) (by rw[hL2];omega)
 generalize MP.getD (k%4) []=x at *
 obtain⟨kind,name,other,names,pk,pz,pd,ps,items,coins,exp,src,hnd,idx,cur,cnt,qk,qkey,qc,qn,qd,data⟩:=o
 simp only at *
 refine gI oW Tryz.func11 Tryz.results11 ?_
 exact wR' (aI @hkk (aI @h31 (aI @shB (aI @anB (aI @ai (aI @akg (aI @hg2 @hl2))))))) trivial ah
theorem VX(o:O)(n:Int)(hn:o.names.length≤1000000)(hi:o.items.length≤1000000)(hc:n%32=3):Gxx 11 [.agg (opF o),vi n] (.agg (opF (aX o n))):=by
 have hkk:=tV n
 have hk24:=jw n
 have eo:aX o n=spO o 3 (spK n):=by unfold aX;rw[hc];rfl
 rw[eo]
 generalize spK n=k at *
 have eo2:spO o 3 k={ o with names:=o.names++[xw.getD (k%3) []] }:=rfl
 rw[eo2]
 clear eo eo2
 refine Good.fzr (r := .agg (opC { o with names:=o.names++[xw.getD (k%3) []] } (.sl (.own 0 9) 1 (sv (o.names++[xw.getD (k%3) []]))) (fzt o.items) (fzb o.coins) (fzb o.data))) ?_ rfl (fF { o with names:=o.names++[xw.getD (k%3) []] } (cu _) (cu _) (cu _) (cu _))
 have q1:=au o.names
 have q2:=aB o.items
 have h31:=lW n
 rw[hc] at h31
 have hl3:=au xw
 have hL3:xw.length=3:=rfl
 have hg3:=iK xw (k%3) (by rw[hL3];omega)
 have hr3:([vs [],V.c (.string ⟨#[97]⟩),V.c (.string ⟨#[63]⟩)]:List V)[k%3]?=some (vs (xw.getD (k%3) [])):=hg3
 have svn:=svS o.names (xw.getD (k%3) [])
 generalize xw.getD (k%3) []=x at *
 obtain⟨kind,name,other,names,pk,pz,pd,ps,items,coins,exp,src,hnd,idx,cur,cnt,qk,qkey,qc,qn,qd,data⟩:=o
 simp only at *
 refine dE (JJ (fun d=>bif d == 38 then true else bif d == 43 then true else false) [] mix) Tryz.func11 rfl Tryz.results11 rfl (by kernel_rfl) (Nat.le_of_ble_eq_true (by kernel_rfl)) ?_
 exact wR' (aI @pgF (aI @hkk (aI @h31 (aI @shB (aI @anB (aI @ai (aI @akh (aI @eG (aI @tm3 (aI @hr3 (aI @hg3 (aI @hl3 (aI @q1 @svn))))))))))))) trivial (ids [2])
theorem VY(o:O)(n:Int)(hn:o.names.length≤1000000)(hi:o.items.length≤1000000)(hc:n%32=4):Gxx 11 [.agg (opF o),vi n] (.agg (opF (aX o n))):=by
 have hkk:=tV n
 have hk24:=jw n
 have eo:aX o n=spO o 4 (spK n):=by unfold aX;rw[hc];rfl
 rw[eo]
 generalize spK n=k at *
 have eo2:spO o 4 k={ o with names:=List.replicate (k%20) [] }:=rfl
 rw[eo2]
 clear eo eo2
 refine Good.fzr (r := .agg (opC { o with names:=List.replicate (k%20) [] } (.sl (.own 0 9) 1 (sv (List.replicate (k%20) []))) (fzt o.items) (fzb o.coins) (fzb o.data))) ?_ rfl (fF { o with names:=List.replicate (k%20) [] } (cu _) (cu _) (cu _) (cu _))
 have q1:=au o.names
 have q2:=aB o.items
 have h31:=lW n
 rw[hc] at h31
 generalize hR:List.replicate (k%20) ([]:List Nat)=R at *
 obtain⟨kind,name,other,names,pk,pz,pd,ps,items,coins,exp,src,hnd,idx,cur,cnt,qk,qkey,qc,qn,qd,data⟩:=o
 simp only at *
 refine gI oW Tryz.func11 Tryz.results11 ?_
 exact wR (aI @hkk (aI @h31 (aI @shB (aI @anB (aI @ai (aI @ahn (aI @aki @hR))))))) trivial (ids [2])
theorem VZ(o:O)(n:Int)(hn:o.names.length≤1000000)(hi:o.items.length≤1000000)(hc:n%32=5):Gxx 11 [.agg (opF o),vi n] (.agg (opF (aX o n))):=by
 have hkk:=tV n
 have hk24:=jw n
 have eo:aX o n=spO o 5 (spK n):=by unfold aX;rw[hc];rfl
 rw[eo]
 generalize spK n=k at *
 have eo2:spO o 5 k={ o with pk:=((k%9:Nat):Int),pz:=((k / 8%40:Nat):Int),pd:=((k / 32%3:Nat):Int),ps:=0 }:=rfl
 rw[eo2]
 clear eo eo2
 have q1:=au o.names
 have q2:=aB o.items
 have h31:=lW n
 rw[hc] at h31
 obtain⟨kind,name,other,names,pk,pz,pd,ps,items,coins,exp,src,hnd,idx,cur,cnt,qk,qkey,qc,qn,qd,data⟩:=o
 simp only at *
 refine gI oW Tryz.func11 Tryz.results11 ?_
 exact wR (aI @hkk (aI @h31 (aI @shB (aI @anB (aI @ai (aI @tm9 (aI @amu @tm3))))))) trivial ah
theorem V3(o:O)(n:Int)(hn:o.names.length≤1000000)(hi:o.items.length≤1000000)(hc:n%32=6):Gxx 11 [.agg (opF o),vi n] (.agg (opF (aX o n))):=by
 have hkk:=tV n
 have hk24:=jw n
 have eo:aX o n=spO o 6 (spK n):=by unfold aX;rw[hc];rfl
 rw[eo]
 generalize spK n=k at *
 have eo2:spO o 6 k={ o with items:=o.items++[(wC (k:Int),((k%3:Nat):Int)-1)] }:=rfl
 rw[eo2]
 clear eo eo2
 refine Good.fzr (r := .agg (opC { o with items:=o.items++[(wC (k:Int),((k%3:Nat):Int)-1)] } (fzs o.names) (.sl (.own 0 64) 2 (itv (o.items++[(wC (k:Int),((k%3:Nat):Int)-1)]))) (fzb o.coins) (fzb o.data))) ?_ rfl (fF { o with items:=o.items++[(wC (k:Int),((k%3:Nat):Int)-1)] } (cu _) (cu _) (cu _) (cu _))
 have q1:=au o.names
 have q2:=aB o.items
 have h31:=lW n
 rw[hc] at h31
 have hkey:=abb (k:Int)
 have itn:=LH o.items (wC (k:Int)) (((k%3:Nat):Int)-1)
 obtain⟨kind,name,other,names,pk,pz,pd,ps,items,coins,exp,src,hnd,idx,cur,cnt,qk,qkey,qc,qn,qd,data⟩:=o
 simp only at *
 refine gI oW Tryz.func11 Tryz.results11 ?_
 exact wR (aI @hkk (aI @h31 (aI @shB (aI @anB (aI @ai (aI @tm3 (aI @q2 @itn))))))) hkey (ids [2])
theorem V4(o:O)(n:Int)(hn:o.names.length≤1000000)(hi:o.items.length≤1000000)(hc:n%32=7):Gxx 11 [.agg (opF o),vi n] (.agg (opF (aX o n))):=by
 have hkk:=tV n
 have hk24:=jw n
 have eo:aX o n=spO o 7 (spK n):=by unfold aX;rw[hc];rfl
 rw[eo]
 generalize spK n=k at *
 have eo2:spO o 7 k={ o with items:=List.replicate (64+k%2) ([],0) }:=rfl
 rw[eo2]
 clear eo eo2
 refine Good.fzr (r := .agg (opC { o with items:=List.replicate (64+k%2) ([],0) } (fzs o.names) (.sl (.own 0 64) 2 (itv (List.replicate (64+k%2) ([],0)))) (fzb o.coins) (fzb o.data))) ?_ rfl (fF { o with items:=List.replicate (64+k%2) ([],0) } (cu _) (cu _) (cu _) (cu _))
 have q1:=au o.names
 have q2:=aB o.items
 have h31:=lW n
 rw[hc] at h31
 have hN:((64:Int)+((k%2:Nat):Int)).toNat=64+k%2:=by omega
 obtain⟨kind,name,other,names,pk,pz,pd,ps,items,coins,exp,src,hnd,idx,cur,cnt,qk,qkey,qc,qn,qd,data⟩:=o
 simp only at *
 refine gI oW Tryz.func11 Tryz.results11 ?_
 exact wR (aI @hkk (aI @h31 (aI @shB (aI @anB (aI @ai (aI @tm2 (aI @agJ @hN))))))) trivial (ids [2])
theorem V5(o:O)(n:Int)(hn:o.names.length≤1000000)(hi:o.items.length≤1000000)(hc:n%32=8):Gxx 11 [.agg (opF o),vi n] (.agg (opF (aX o n))):=by
 have hkk:=tV n
 have hk24:=jw n
 have eo:aX o n=spO o 8 (spK n):=by unfold aX;rw[hc];rfl
 rw[eo]
 generalize spK n=k at *
 have eo2:spO o 8 k={ o with coins:=List.replicate (60+k%9) 0 }:=rfl
 rw[eo2]
 clear eo eo2
 refine Good.fzr (r := .agg (opC { o with coins:=List.replicate (60+k%9) 0 } (fzs o.names) (fzt o.items) (.sl (.own 0 5) 1 (bv (List.replicate (60+k%9) 0))) (fzb o.data))) ?_ rfl (fF { o with coins:=List.replicate (60+k%9) 0 } (cu _) (cu _) (cu _) (cu _))
 have q1:=au o.names
 have q2:=aB o.items
 have h31:=lW n
 rw[hc] at h31
 have hN:((60:Int)+((k%9:Nat):Int)).toNat=60+k%9:=by omega
 obtain⟨kind,name,other,names,pk,pz,pd,ps,items,coins,exp,src,hnd,idx,cur,cnt,qk,qkey,qc,qn,qd,data⟩:=o
 simp only at *
 refine gI oW Tryz.func11 Tryz.results11 ?_
 exact wR (aI @hkk (aI @h31 (aI @shB (aI @anB (aI @ai (aI @tm9 (aI @acz @hN))))))) trivial (ids [2])
theorem V6(o:O)(n:Int)(hn:o.names.length≤1000000)(hi:o.items.length≤1000000)(hc:n%32=9):Gxx 11 [.agg (opF o),vi n] (.agg (opF (aX o n))):=by
 have hkk:=tV n
 have hk24:=jw n
 have eo:aX o n=spO o 9 (spK n):=by unfold aX;rw[hc];rfl
 rw[eo]
 generalize spK n=k at *
 have eo2:spO o 9 k={ o with exp:=uk.getD (k%4) 0 }:=rfl
 rw[eo2]
 clear eo eo2
 have q1:=au o.names
 have q2:=aB o.items
 have h31:=lW n
 rw[hc] at h31
 have hl4:=bP uk
 have hL4:uk.length=4:=rfl
 have hg4:=mg uk (k%4) (by rw[hL4];omega)
 generalize uk.getD (k%4) 0=x at *
 obtain⟨kind,name,other,names,pk,pz,pd,ps,items,coins,exp,src,hnd,idx,cur,cnt,qk,qkey,qc,qn,qd,data⟩:=o
 simp only at *
 refine gI oW Tryz.func11 Tryz.results11 ?_
 exact wR (aI @hkk (aI @h31 (aI @shB (aI @anB (aI @ai (aI @iv4 (aI @Tc (aI @hg4 @hl4)))))))) trivial ah
theorem P9(o:O)(n:Int)(hn:o.names.length≤1000000)(hi:o.items.length≤1000000)(hc:n%32=10):Gxx 11 [.agg (opF o),vi n] (.agg (opF (aX o n))):=by
 have hkk:=tV n
 have hk24:=jw n
 have eo:aX o n=spO o 10 (spK n):=by unfold aX;rw[hc];rfl
 rw[eo]
 generalize spK n=k at *
 have eo2:spO o 10 k={ o with src:=uk.getD (k%4) 0 }:=rfl
 rw[eo2]
 clear eo eo2
 have q1:=au o.names
 have q2:=aB o.items
 have h31:=lW n
 rw[hc] at h31
 have hl4:=bP uk
 have hL4:uk.length=4:=rfl
 have hg4:=mg uk (k%4) (by rw[hL4];omega)
 generalize uk.getD (k%4) 0=x at *
 obtain⟨kind,name,other,names,pk,pz,pd,ps,items,coins,exp,src,hnd,idx,cur,cnt,qk,qkey,qc,qn,qd,data⟩:=o
 simp only at *
 refine gI oW Tryz.func11 Tryz.results11 ?_
 exact wR (aI @hkk (aI @h31 (aI @shB (aI @anB (aI @ai (aI @iv4 (aI @Tc (aI @hg4 @hl4)))))))) trivial ah
theorem Qa(o:O)(n:Int)(hn:o.names.length≤1000000)(hi:o.items.length≤1000000)(hc:n%32=11):Gxx 11 [.agg (opF o),vi n] (.agg (opF (aX o n))):=by
 have hkk:=tV n
 have hk24:=jw n
 have eo:aX o n=spO o 11 (spK n):=by unfold aX;rw[hc];rfl
 rw[eo]
 generalize spK n=k at *
 have eo2:spO o 11 k={ o with hnd:=((k%8:Nat):Int)-2 }:=rfl
 rw[eo2]
 clear eo eo2
 have q1:=au o.names
 have q2:=aB o.items
 have h31:=lW n
 rw[hc] at h31
 obtain⟨kind,name,other,names,pk,pz,pd,ps,items,coins,exp,src,hnd,idx,cur,cnt,qk,qkey,qc,qn,qd,data⟩:=o
 simp only at *
 refine gI oW Tryz.func11 Tryz.results11 ?_
 exact wR (aI @hkk (aI @h31 (aI @shB (aI @anB (aI @ai @tm8))))) trivial ah
theorem Qb(o:O)(n:Int)(hn:o.names.length≤1000000)(hi:o.items.length≤1000000)(hc:n%32=12):Gxx 11 [.agg (opF o),vi n] (.agg (opF (aX o n))):=by
 have hkk:=tV n
 have hk24:=jw n
 have eo:aX o n=spO o 12 (spK n):=by unfold aX;rw[hc];rfl
 rw[eo]
 generalize spK n=k at *
 have eo2:spO o 12 k={ o with idx:=((k%20:Nat):Int)-2 }:=rfl
 rw[eo2]
 clear eo eo2
 have q1:=au o.names
 have q2:=aB o.items
 have h31:=lW n
 rw[hc] at h31
 obtain⟨kind,name,other,names,pk,pz,pd,ps,items,coins,exp,src,hnd,idx,cur,cnt,qk,qkey,qc,qn,qd,data⟩:=o
 simp only at *
 refine gI oW Tryz.func11 Tryz.results11 ?_
 exact wR (aI @hkk (aI @h31 (aI @shB (aI @anB (aI @ai @ahn))))) trivial ah
theorem Qc(o:O)(n:Int)(hn:o.names.length≤1000000)(hi:o.items.length≤1000000)(hc:n%32=13):Gxx 11 [.agg (opF o),vi n] (.agg (opF (aX o n))):=by
 have hkk:=tV n
 have hk24:=jw n
 have eo:aX o n=spO o 13 (spK n):=by unfold aX;rw[hc];rfl
 rw[eo]
 generalize spK n=k at *
 have eo2:spO o 13 k={ o with cur:=((k%8:Nat):Int)-2 }:=rfl
 rw[eo2]
 clear eo eo2
 have q1:=au o.names
 have q2:=aB o.items
 have h31:=lW n
 rw[hc] at h31
 obtain⟨kind,name,other,names,pk,pz,pd,ps,items,coins,exp,src,hnd,idx,cur,cnt,qk,qkey,qc,qn,qd,data⟩:=o
 simp only at *
 refine gI oW Tryz.func11 Tryz.results11 ?_
 exact wR (aI @hkk (aI @h31 (aI @shB (aI @anB (aI @ai @tm8))))) trivial ah
theorem Qd(o:O)(n:Int)(hn:o.names.length≤1000000)(hi:o.items.length≤1000000)(hc:n%32=14):Gxx 11 [.agg (opF o),vi n] (.agg (opF (aX o n))):=by
 have hkk:=tV n
 have hk24:=jw n
 have eo:aX o n=spO o 14 (spK n):=by unfold aX;rw[hc];rfl
 rw[eo]
 generalize spK n=k at *
 have eo2:spO o 14 k={ o with cnt:=((k%40:Nat):Int)-3 }:=rfl
 rw[eo2]
 clear eo eo2
 have q1:=au o.names
 have q2:=aB o.items
 have h31:=lW n
 rw[hc] at h31
 obtain⟨kind,name,other,names,pk,pz,pd,ps,items,coins,exp,src,hnd,idx,cur,cnt,qk,qkey,qc,qn,qd,data⟩:=o
 simp only at *
 refine gI oW Tryz.func11 Tryz.results11 ?_
 exact wR (aI @hkk (aI @h31 (aI @shB (aI @anB (aI @ai @amu))))) trivial ah
theorem Qe(o:O)(n:Int)(hn:o.names.length≤1000000)(hi:o.items.length≤1000000)(hc:n%32=15):Gxx 11 [.agg (opF o),vi n] (.agg (opF (aX o n))):=by
 have hkk:=tV n
 have hk24:=jw n
 have eo:aX o n=spO o 15 (spK n):=by unfold aX;rw[hc];rfl
 rw[eo]
 generalize spK n=k at *
 have eo2:spO o 15 k={ o with qk:=(uj k).1,qkey:=(uj k).2.1,qc:=(uj k).2.2.1,qn:=(uj k).2.2.2.1,qd:=(uj k).2.2.2.2 }:=rfl
 rw[eo2]
 clear eo eo2
 have q1:=au o.names
 have q2:=aB o.items
 have h31:=lW n
 rw[hc] at h31
 have hq:=PT k (by omega)
 generalize uj k=q at *
 obtain⟨q1,q2,q3,q4,q5⟩:=q
 obtain⟨kind,name,other,names,pk,pz,pd,ps,items,coins,exp,src,hnd,idx,cur,cnt,qk,qkey,qc,qn,qd,data⟩:=o
 simp only at *
 refine gI oW Tryz.func11 Tryz.results11 ?_
 exact wR (aI @hkk (aI @h31 (aI @shB (aI @anB @ai)))) hq ah
theorem Qg(o:O)(n:Int)(hn:o.names.length≤1000000)(hi:o.items.length≤1000000)(hc:n%32=16):Gxx 11 [.agg (opF o),vi n] (.agg (opF (aX o n))):=by
 have hkk:=tV n
 have hk24:=jw n
 have eo:aX o n=spO o 16 (spK n):=by unfold aX;rw[hc];rfl
 rw[eo]
 generalize spK n=k at *
 have eo2:spO o 16 k={ o with data:=List.replicate (65536+k%2) 0 }:=rfl
 rw[eo2]
 clear eo eo2
 refine Good.fzr (r := .agg (opC { o with data:=List.replicate (65536+k%2) 0 } (fzs o.names) (fzt o.items) (fzb o.coins) (.sl (.own 0 5) 1 (bv (List.replicate (65536+k%2) 0))))) ?_ rfl (fF { o with data:=List.replicate (65536+k%2) 0 } (cu _) (cu _) (cu _) (cu _))
 have q1:=au o.names
 have q2:=aB o.items
 have h31:=lW n
 rw[hc] at h31
 have hN:((65536:Int)+((k%2:Nat):Int)).toNat=65536+k%2:=by omega
 obtain⟨kind,name,other,names,pk,pz,pd,ps,items,coins,exp,src,hnd,idx,cur,cnt,qk,qkey,qc,qn,qd,data⟩:=o
 simp only at *
 refine gI oW Tryz.func11 Tryz.results11 ?_
 exact wR (aI @hkk (aI @h31 (aI @shB (aI @anB (aI @ai (aI @tm2 (aI @acz @hN))))))) trivial (ids [2])
theorem Qh(o:O)(n:Int)(hn:o.names.length≤1000000)(hi:o.items.length≤1000000)(hc:n%32=17):Gxx 11 [.agg (opF o),vi n] (.agg (opF (aX o n))):=by
 have hkk:=tV n
 have hk24:=jw n
 have eo:aX o n=spO o 17 (spK n):=by unfold aX;rw[hc];rfl
 rw[eo]
 generalize spK n=k at *
 have eo2:spO o 17 k={ o with data:=[1] }:=rfl
 rw[eo2]
 clear eo eo2
 refine Good.fzr (r := .agg (opC { o with data:=[1] } (fzs o.names) (fzt o.items) (fzb o.coins) (.sl (.own 0 5) 1 (bv ([1]))))) ?_ rfl (fF { o with data:=[1] } (cu _) (cu _) (cu _) (cu _))
 have q1:=au o.names
 have q2:=aB o.items
 have h31:=lW n
 rw[hc] at h31
 obtain⟨kind,name,other,names,pk,pz,pd,ps,items,coins,exp,src,hnd,idx,cur,cnt,qk,qkey,qc,qn,qd,data⟩:=o
 simp only at *
 refine gI oW Tryz.func11 Tryz.results11 ?_
 exact wR (aI @hkk (aI @h31 (aI @shB (aI @anB @ai)))) trivial (ids [2])
theorem V7(o:O)(n:Int)(hn:o.names.length≤1000000)(hi:o.items.length≤1000000)(hc:18≤n%32):Gxx 11 [.agg (opF o),vi n] (.agg (opF (aX o n))):=by
 have hkk:=tV n
 have hk24:=jw n
 have hlt:n%32<32:=by omega
 have eo:aX o n=o:=by
  unfold aX spO
  (repeat' (first|rw[if_neg (by omega)]))
 rw[eo]
 generalize spK n=k at *
 have h31:=lW n
 generalize n%32=r at *
 obtain⟨kind,name,other,names,pk,pz,pd,ps,items,coins,exp,src,hnd,idx,cur,cnt,qk,qkey,qc,qn,qd,data⟩:=o
 refine gI oW Tryz.func11 Tryz.results11 ?_
 exact wR (aI @hkk @h31) trivial ah
theorem agK(o:O)(n:Int)(hn:o.names.length≤1000000)(hi:o.items.length≤1000000):Gxx 11 [.agg (opF o),vi n] (.agg (opF (aX o n))):=by
 rcases (show n%32=0∨n%32=1∨n%32=2∨n%32=3∨n%32=4∨n%32=5∨n%32=6∨n%32=7∨n%32=8∨n%32=9∨n%32=10∨n%32=11∨n%32=12∨n%32=13∨n%32=14∨n%32=15∨n%32=16∨n%32=17∨18≤n%32 by omega) with h|h|h|h|h|h|h|h|h|h|h|h|h|h|h|h|h|h|h
 ·exact VU o n hn hi h
 ·exact VV o n hn hi h
 ·exact VW o n hn hi h
 ·exact VX o n hn hi h
 ·exact VY o n hn hi h
 ·exact VZ o n hn hi h
 ·exact V3 o n hn hi h
 ·exact V4 o n hn hi h
 ·exact V5 o n hn hi h
 ·exact V6 o n hn hi h
 ·exact P9 o n hn hi h
 ·exact Qa o n hn hi h
 ·exact Qb o n hn hi h
 ·exact Qc o n hn hi h
 ·exact Qd o n hn hi h
 ·exact Qe o n hn hi h
 ·exact Qg o n hn hi h
 ·exact Qh o n hn hi h
 ·exact V7 o n hn hi h
end Go.Proofs.YtjiolbcdfgclaaaGreatDoor
