/-
  Merged texts.
-/
import Derived.ChangeSlices
import Derived.DataReads
import Derived.Test.YtiohdbjggmmjcaaGreatWAM
set_option linter.unusedVariables false
set_option linter.unusedSimpArgs false
set_option linter.unusedSectionVars false
set_option linter.defProp false
set_option maxRecDepth 100000
set_option maxHeartbeats 8000000
section
namespace Go.Pg
open Go Go.ChangeShapes Go.WideShapes
theorem PG{w:World}{g o:Nat}{vs:List Value}(hp:0<vs.length)(h:∀i,i<vs.length→w.cell? ⟨g,o+i,none⟩=vs[i]?):Pg.Row w g o vs:=by
 have h0:=h 0 hp
 rw[List.getElem?_eq_getElem hp] at h0
 unfold World.cell? at h0
 split at h0
 ·rename_i arr e fr hg
  refine⟨arr,e,fr,hg, ?_⟩
  apply List.ext_getElem?
  intro i
  rw[List.getElem?_take]
  split
  ·rename_i hi
   have hi':=h i hi
   unfold World.cell? at hi'
   simp only[hg] at hi'
   rw[List.getElem?_drop,Array.getElem?_toList]
   simpa using hi'
  ·rename_i hi
   rw[List.getElem?_eq_none (by omega)]
 ·cases h0
section
variable {H:Type} {enc:TypeId × Value→H} {P:Program} {w:World} {base:Nat} {spare:Nat→Bool} {held:Bool}
structure Elem (enc:TypeId × Value→H) (P:Program) (w:World) (base:Nat) (spare:Nat→Bool) (held:Bool) (e:TypeId) (k:Nat) {α:Type} (Ok:α→Prop) (el:α→V) (elc:α→List Value):Prop where
 pos:0<k
 cells:P.cellsOf e=k
 len:∀a,(elc a).length=k
 get:∀n cs x,DataW.trod enc P w base spare held n e cs=some x→∃a,Ok a∧cs=elc a
 rep:∀a L w',∃u:Value,u.cells.toList=elc a∧u.cells.size=k∧((el a).free=true∧u.cells.toList.all Value.oneCell'=true)∧Rep L w' (el a) u
theorem Elem.repE{e:TypeId}{k:Nat}{α:Type}{Ok:α→Prop}{el:α→V}{elc:α→List Value}(E:Elem enc P w base spare held e k Ok el elc)(L:Lay)(w':World):∀l:List α,RepE L w' k (l.map el) (l.map elc).flatten:=by
 intro l
 induction l with
 | nil=>rfl
 | cons a l ih =>
  obtain⟨u,h1,h2,h3,h4⟩:=E.rep a L w'
  exact⟨u,(l.map elc).flatten,by rw[h1];rfl,h2,h3,h4,ih⟩
theorem ag1{t e:TypeId}{k:Nat}{α:Type}{Ok:α→Prop}{el:α→V}{elc:α→List Value}(E:Elem enc P w base spare held e k Ok el elc)(ht:P.underlying t=some (.slice e)){fuel:Nat}{cs:List Value}{x:DataW H × List MemPlace}(h:DataW.trod enc P w base spare held fuel t cs=some x) :
  ∃l:List α,(∀a∈l,Ok a)∧∃u,cs=[u]∧Rep ⟨fun g=>g<w.heap.size,fun _=>none,fun _=>none⟩ w (.sl .fz k (l.map el)) u:=by
 rcases DataW.trod_slice ht h with ⟨rfl,_⟩|⟨a,len,cap,elems,rest,n,_,rfl,rfl,hb,hl,hm,hlen,hel,_,_⟩
 ·exact⟨[],(fun a h=>by cases h),_,rfl,none,0,[],rfl,rfl,Nat.le_refl _,.inl rfl⟩
 have each:∀i,i<len→∃y:α,Ok y∧w.cells? base (a.add (i*k)) k=some (elc y):=by
  intro i hi
  have h1:=hel i hi
  rw[E.cells,List.getElem?_eq_getElem (by omega),Option.bind_eq_some_iff] at h1
  obtain⟨cs',h2,h3⟩:=h1
  obtain⟨y,hy,rfl⟩:=E.get _ _ _ h3
  exact⟨y,hy,h2⟩
 rcases Nat.eq_zero_or_pos len with hz|hz
 ·subst hz
  exact⟨[],(fun a h=>by cases h),_,rfl,some a,cap,[],rfl,rfl,Nat.zero_le _,.inl rfl⟩
 obtain⟨g,o,spot⟩:=a
 have hspot:spot=none:=by
  obtain⟨y,hy,hc⟩:=each 0 hz
  obtain⟨hcb,hcl,hcc⟩:=World.cells?_some hc
  have h5:=hcc 0 E.pos
  rw[List.getElem?_eq_getElem (by rw[hcl];exact E.pos)] at h5
  have:=World.cell?_spot h5
  simpa [Addr.add] using this
 subst hspot
 have main:∀m,m≤len→∃l:List α,l.length=m∧(∀y∈l,Ok y)∧((l.map elc).flatten).length=m*k∧∀j,j<m*k→w.cell? ((⟨g,o,none⟩:Addr).add j)=((l.map elc).flatten)[j]?:=by
  intro m
  induction m with
  | zero=>intro _;exact⟨[],rfl,(fun y h=>by cases h),by simp,fun j hj=>by omega⟩
  | succ m ih =>
   intro hm'
   obtain⟨l,h1,h2,h3,h4⟩:=ih (by omega)
   obtain⟨y,hy,hc⟩:=each m (by omega)
   obtain⟨hcb,hcl,hcc⟩:=World.cells?_some hc
   have hyl:=E.len y
   refine⟨l++[y],by simp [h1], ?_, ?_, ?_⟩
   ·intro z hz
    rcases List.mem_append.1 hz with hz|hz
    ·exact h2 z hz
    ·rw[List.mem_singleton.1 hz];exact hy
   ·rw[List.map_append,List.flatten_append,List.length_append,h3,Nat.add_mul]
    simp [hyl]
   ·intro j hj
    rw[Nat.add_mul,Nat.one_mul] at hj
    rw[List.map_append,List.flatten_append]
    rcases Nat.lt_or_ge j (m*k) with hlt|hge
    ·rw[List.getElem?_append_left (by omega)];exact h4 j hlt
    ·rw[List.getElem?_append_right (by omega),h3]
     have h5:=hcc (j-m*k) (by omega)
     have e1:((⟨g,o,none⟩:Addr).add (m*k)).add (j-m*k)=(⟨g,o,none⟩:Addr).add j:=by
      rw[Pg.dS,Pg.dS,Pg.dS,Nat.add_assoc,Nat.add_sub_cancel' hge]
     rw[e1] at h5
     simpa using h5
 obtain⟨l,h1,h2,h3,h4⟩:=main len (Nat.le_refl _)
 refine⟨l,h2,_,rfl,some ⟨g,o,none⟩,cap,(l.map elc).flatten,by rw[List.length_map,h1],E.repE _ _ l, ?_⟩
 rw[List.length_map,h1]
 refine⟨hl, ?_⟩
 rcases Nat.eq_zero_or_pos len with h0|h0
 ·exact .inl h0
 ·right
  have hpos:0<len*k:=Nat.mul_pos h0 E.pos
  have hrow:Pg.Row w g o (l.map elc).flatten:=by
   refine PG (by omega) (fun i hi => ?_)
   have:=h4 i (by omega)
   rw[Pg.dS] at this
   exact this
  refine⟨g,o,rfl, ?_,hrow⟩
  obtain⟨arr,e',fr,hg,_⟩:=hrow
  exact (Array.getElem?_eq_some_iff.1 hg).1
end
end Go.Pg
end
