/-
  Texts of this claim, merged; own names are short.
-/
import Derived.Test.YtiohdbjggmmjcaaGreatWBH
import Derived.Lib.AppendZerosOnto
import Derived.Lib.Overlaps
import Derived.Laws.IdiomCopy
import Derived.Test.YtiohdbjggmmjcaaGreatWAZ
set_option linter.unusedVariables false
set_option linter.unusedSimpArgs false
set_option linter.unusedSectionVars false
set_option linter.defProp false
set_option maxRecDepth 100000
set_option maxHeartbeats 8000000
namespace Go.Proofs.YtiohdbjggmmjcaaGreat
open Go Go.Pg
theorem tH (d : Int) : ∀ (l : List En), ∀ z ∈ iU d l, ∃ y ∈ l, y.1 = z.1
 | [], z, h => by simp [iU] at h
 | y :: l, z, h => by
  rw [pU] at h
  split at h
  ·rcases List.mem_cons.1 h with rfl | h
   ·exact ⟨y, List.mem_cons_self .., rfl⟩
   ·obtain ⟨u, hu, he⟩ := tH d l z h
    exact ⟨u, List.mem_cons_of_mem _ hu, he⟩
  ·obtain ⟨u, hu, he⟩ := tH d l z h
   exact ⟨u, List.mem_cons_of_mem _ hu, he⟩
theorem tJ (d : Int) : ∀ (l : List En), (l.Pairwise fun a b => kl a.1 b.1 = true) → (iU d l).Pairwise fun a b => kl a.1 b.1 = true
 | [], h => by simp [iU]
 | y :: l, h => by
  rw [List.pairwise_cons] at h
  rw [pU]
  split
  ·rw [List.pairwise_cons]
   refine ⟨fun z hz => ?_, tJ d l h.2⟩
   obtain ⟨u, hu, he⟩ := tH d l z hz
   show kl y.1 z.1 = true
   rw [← he]; exact h.1 u hu
  ·exact tJ d l h.2
theorem acK (d : Int) (l : List En) (k : List Nat) (h : ¬ 0 ≤ bi l k) : ∀ y ∈ iU d l, y.1 ≠ k := fun y hy => by
 obtain ⟨u, hu, he⟩ := tH d l y hy
 rw [← he]
 exact wX k l 0 (by have : bi l k = jd k 0 l := rfl; omega) u hu
theorem Zj (x : Fq) (k : List Nat) (w : Int) (hx : octE x.e) (hn : x.e.length ≤ 1000000) (h : vFq x ≠ 0 ∨ bT k w ≠ 0) : Pg.Good Tryz.prog 29 [.agg (fqF x), .agg [vs k, vi w]] (.tup [.agg (fqF (lU x k w).1), vi (lU x k w).2]) := by
 have h1 := Ec x hx hn
 have h2 := bz k w
 unfold lU
 by_cases c1 : vFq x = 0
 ·have c2 : bT k w ≠ 0 := by rcases h with h | h; exact absurd c1 h; exact h
  rw [if_neg (by omega), if_pos c2]
  rw [c1] at h1
  refine Good.fzt (vs := [.agg [vi 0, vi 0, vi 0, nls, vb false], vi (bT k w)]) ?_ rfl ⟨FN, aH _, trivial⟩
  obtain ⟨z, t, lo, l, b⟩ := x
  have c2' : (bT k w = 0) = False := eq_false c2
  refine aK (eu [] mix) Tryz.func29 rfl Tryz.results29 rfl (by kernel_rfl) (Nat.le_of_ble_eq_true (by kernel_rfl)) ?_
  (repeat' (first | (simp (disch := first | assumption | omega | (simp only [Fits, maxLen, pgq] at *; omega)) only [pgo, pgb, tyf, ae, simprocAttr, pgE, pgj, iC, c2']) | ((with_reducible show bU _ _ _ _ _ _); first | refine ah _ (h1) rfl rfl rfl rfl ?_ | refine ah _ (h2) rfl rfl rfl rfl ?_) | ((first | ((with_reducible show aB _ _ _ _ _ _ _); refine aj (fun hc => ?_) (fun hc => ?_)) | ((with_reducible show ax _ _ _ _ _ _ _ _); refine ai (fun hc => ?_) (fun hc => ?_)) | ((with_reducible show aU _ _ _ _ _ _ _ _ _ _); refine ak (fun hc => ?_) (fun hc => ?_))) <;> (try simp only [hc]) <;> (try simp only [pgd] at hc)) | ((with_reducible show ig _ _ _ _ _ _); refine dV ?_; first | refine ah _ (h1) rfl rfl rfl rfl ?_ | refine ah _ (h2) rfl rfl rfl rfl ?_) | ((with_reducible show aV _ _ _ _ _ _ _ _); refine au (fun hc => ?_) (fun hc => ?_) <;> (try simp only [hc]) <;> (try simp only [pgd] at hc)) | ((with_reducible show fC _ _); refine bH ?_) | (with_reducible refine az (by kernel_rfl) ?_)))
  (refine bZ [] _ (by first | exact aW _ _ _ | exact bD _ _ _ _ | exact aS _ _ _ _ _ | exact aY _ _ _ _ _ _ | (simp (disch := first | assumption | omega | (simp only [Fits, maxLen, pgq] at *; omega)) only [pgr, pgo, tyf, simprocAttr]; rfl)) (by decide) (by simp only [pgo, simprocAttr]) ?_; (first | rfl | simp only [pgo, simprocAttr] | skip))
 ·rw [if_pos c1]
  refine Good.fzt (vs := [.agg [vi 0, vi 0, vi 0, nls, vb false], vi (vFq x)]) ?_ rfl ⟨FN, aH _, trivial⟩
  obtain ⟨z, t, lo, l, b⟩ := x
  have c1' : (vFq ⟨z, t, lo, l, b⟩ = 0) = False := eq_false c1
  refine aK (eu [] mix) Tryz.func29 rfl Tryz.results29 rfl (by kernel_rfl) (Nat.le_of_ble_eq_true (by kernel_rfl)) ?_
  (repeat' (first | (simp (disch := first | assumption | omega | (simp only [Fits, maxLen, pgq] at *; omega)) only [pgo, pgb, tyf, ae, simprocAttr, pgE, pgj, iC, c1']) | ((with_reducible show bU _ _ _ _ _ _); first | refine ah _ (h1) rfl rfl rfl rfl ?_) | ((first | ((with_reducible show aB _ _ _ _ _ _ _); refine aj (fun hc => ?_) (fun hc => ?_)) | ((with_reducible show ax _ _ _ _ _ _ _ _); refine ai (fun hc => ?_) (fun hc => ?_)) | ((with_reducible show aU _ _ _ _ _ _ _ _ _ _); refine ak (fun hc => ?_) (fun hc => ?_))) <;> (try simp only [hc]) <;> (try simp only [pgd] at hc)) | ((with_reducible show ig _ _ _ _ _ _); refine dV ?_; first | refine ah _ (h1) rfl rfl rfl rfl ?_) | ((with_reducible show aV _ _ _ _ _ _ _ _); refine au (fun hc => ?_) (fun hc => ?_) <;> (try simp only [hc]) <;> (try simp only [pgd] at hc)) | ((with_reducible show fC _ _); refine bH ?_) | (with_reducible refine az (by kernel_rfl) ?_)))
  (refine bZ [] _ (by first | exact aW _ _ _ | exact bD _ _ _ _ | exact aS _ _ _ _ _ | exact aY _ _ _ _ _ _ | (simp (disch := first | assumption | omega | (simp only [Fits, maxLen, pgq] at *; omega)) only [pgr, pgo, tyf, simprocAttr]; rfl)) (by decide) (by simp only [pgo, simprocAttr]) ?_; (first | rfl | simp only [pgo, simprocAttr] | skip))
end Go.Proofs.YtiohdbjggmmjcaaGreat
section
namespace Go.Pg
open Go
structure InsEnd (w w' : World) (o : Option Nat) : Prop where
 os : w'.os = w.os
 tape : w'.tape = w.tape
 output : w'.output = w.output
 size : w.heap.size ≤ w'.heap.size
 block : ∀ k, k < w.heap.size → o ≠ some k → w'.heap[k]? = w.heap[k]?
 drawn : w.drawn ≤ w'.drawn
def lZ (w : World) (o : Option Nat) (e : TypeId) (k n : Nat) (cells : List Value) (u : Value) (w' : World) : Prop :=
 InsEnd w w' o ∧ ∃ g cap arr, u = .slice (some ⟨g, 0, none⟩) n cap ∧ w'.heap[g]? = some (.cells arr e (0, 0)) ∧ n ≤ cap ∧ cap ≤ maxLen ∧ arr.size = cap * k ∧ arr.toList.take (n * k) = cells ∧ (o = some g ∨ w.heap.size ≤ g)
structure InsArg (P : Program) (w : World) (o : Option Nat) (e : TypeId) (k bytes n cap : Nat) (cells vs : List Value) (ad : Addr) (xc : Nat) : Prop where
 row : (o = none ∧ n = 0 ∧ cap = 0 ∧ cells = []) ∨ ∃ g arr, o = some g ∧ w.heap[g]? = some (.cells arr e (0, 0)) ∧ n ≤ cap ∧ cap ≤ maxLen ∧ arr.size = cap * k ∧ arr.toList.take (n * k) = cells ∧ ad.block ≠ g
 adw : ∃ arr t fr, w.heap[ad.block]? = some (.cells arr t fr) ∧ arr.size ≠ 0
 spot : ad.spot = none
 len : cells.length = n * k
 vlen : vs.length = k
 xc : 1 ≤ xc
 vsw : ∀ j v, vs[j]? = some v → w.cell? (ad.add j) = some v
 c1 : ∀ v ∈ cells, v.oneCell' = true
 v1 : ∀ v ∈ vs, v.oneCell' = true
 fit : Fits (n + 1) bytes
 kpos : 0 < k
section
variable {P : Program} {C : Cx} {s : St} {L : Lay} {a : Act} {w w' : World}
theorem mF {dT sT ty e e' : TypeId} {i : TypeInfo} (ht : P.underlying dT = some (.slice e)) (hi : P.info? e = some i) {g o dLen dCap sLen sCap : Nat} {arr : Array Value} {ad : Addr} {cs : List Value}
  (hg : w.heap[g]? = some (.cells arr e' (0, 0))) (hn : cs.length = Nat.min sLen dLen * i.size) (hsrc : ∀ j v, cs[j]? = some v → w.cell? (ad.add j) = some v) (hfit : o + cs.length ≤ arr.size) (h1 : ∀ v ∈ cs, v.oneCell' = true) :
  (Builtin.copy_ #[dT, sT] ty #[.slice (some ⟨g, o, none⟩) dLen dCap, .slice (some ad) sLen sCap]).run P w = .ok (goInt (Nat.min sLen dLen)) (w.setRow g (arr.toList.take o ++ cs ++ arr.toList.drop (o + cs.length)).toArray) := by
 have hl := run_loadCells_list (P := P) w ad cs hsrc
 have hst := run_storeCells_at P g o e' cs 0 arr w hg (by simpa using hfit) h1
 simp only [Nat.add_zero] at hst
 simp [Builtin.copy_, run_underlying ht, Builtin.lenOf, Builtin.firstCells, sizeOf, typeInfo, hi, ← hn, hl, hst]
theorem yl {tS tR e : TypeId} (ht : P.underlying tS = some (.slice e)) {i : TypeInfo} (hi : P.info? e = some i) (a b : Addr) (la ca lb cb : Nat) (hne : a.block ≠ b.block)
  (ha : ∃ arr t fr, w.heap[a.block]? = some (.cells arr t fr) ∧ arr.size ≠ 0) (hb : ∃ arr t, w.heap[b.block]? = some (.cells arr t (0, 0)) ∧ arr.size ≠ 0) :
  (Extern.SlicesOverlaps.overlaps #[tS, tS] #[tR] #[.slice (some a) la ca, .slice (some b) lb cb]).run P w = .ok (.bool false) w := by
 obtain ⟨arrA, tA, frA, hA, hszA⟩ := ha
 obtain ⟨mA, hmA⟩ : ∃ m, arrA.size = m + 1 := ⟨arrA.size - 1, by omega⟩
 obtain ⟨arrB, tB, hB, hsz⟩ := hb
 obtain ⟨m, hm⟩ : ∃ m, arrB.size = m + 1 := ⟨arrB.size - 1, by omega⟩
 have hnb : (a.block != b.block) = true := by simpa using hne
 have hnb' : (a.block == b.block) = false := by simpa using hne
 have hsa : w.shape? a.block = some (tA, mA + 1) := by simp [World.shape?, hA, hmA]
 have hsb : w.shape? b.block = some (tB, m + 1) := by simp [World.shape?, hB, hm]
 have hfb : ∀ o sp, w.frozen? ⟨b.block, o, sp⟩ = false := fun o sp => by simp [World.frozen?, hB]
 have hfb' : w.frozen? b = false := hfb b.off b.spot
 have hz : ∀ w, (Go.sizeOf e).run P w = .ok i.size w := fun w => by simp [sizeOf, typeInfo, hi]
 change Sem.run P (α := Value) (do
  let some t := (#[tS, tS] : Array TypeId)[0]? | stuck "slices.overlaps: no parameter types"
  let .slice elem ← underlying t | stuck "slices.overlaps: slice type expected"
  let size ← sizeOf elem
  match (some a : Option Addr), (some b : Option Addr) with
  | some a, some b =>
   if la = 0 ∨ lb = 0 ∨ size = 0 then pure (Value.bool false)
   else if a.block != b.block && (← frozen a) && (← frozen b) then unsupported .addressObserved
   else do
    if a.block != b.block then do
     noView a; noView b
     if ← mayBeOne a b then return Value.bool ((← choose (.extern "sameAddr.stringBytes" 2)) == 1)
    pure (Value.bool (a.block == b.block && a.off < b.off + lb * size && b.off < a.off + la * size))
  | _, _ => pure (Value.bool false)) w = _
 by_cases h0 : la = 0 ∨ lb = 0 ∨ i.size = 0
 ·simp [run_underlying ht, hz, h0]
 ·cases hfa : w.frozen? a <;> cases hfa2 : w.frozen? { block := a.block, off := mA + 1, spot := none } <;>
   simp [run_underlying ht, hz, h0, hnb, hnb', frozen, noView, viewAt, mayBeOne, stringish, shape, Sem.run, hsa, hsb, hfb', hfb, hfa, hfa2]
theorem ade {id : Nat} {o : Option Nat} {g : Nat} {e : TypeId} {arr : Array Value} (S : Sim C s L a w) (ho : ∀ j, o = some j → L.own id = some j) (T : InsEnd w w' o)
  (hg : w'.heap[g]? = some (.cells arr e (0, 0))) (hn : o = some g ∨ w.heap.size ≤ g) : Wf C (max s.nid (id + 1)) (L.addOwn id g) w' := by
 have W := S.wf
 have hgl := (Array.getElem?_eq_some_iff.1 hg).1
 have hA : ∀ h, o = some h → ¬ L.A h := fun h e => (W.own id h (ho h e)).2.2
 have gA : ¬ L.A g := hn.elim (hA g) (fun h k => by have := W.old g k; omega)
 have gB : C.B ≤ g ∨ C.Wr g := hn.elim (fun h => (W.own id g (ho g h)).2.1) (fun h => .inl (by have := S.hB; omega))
 have gO : ∀ j, L.own j = some g → j = id := fun j hj => hn.elim (fun h => W.injO j id g hj (ho g h)) (fun h => by have := (W.own j g hj).1; omega)
 have gX : ∀ b, L.box b = some g → False := fun b hb => hn.elim (fun h => W.dis id b g (ho g h) hb) (fun h => by have := (W.boxW b g hb).1; omega)
 have oO : ∀ j h, L.own j = some h → j ≠ id → o ≠ some h := fun j h hj hne e => hne (W.injO j id h hj (ho h e))
 have oX : ∀ b h, L.box b = some h → o ≠ some h := fun b h hb e => W.dis id b h (ho h e) hb
 have hown : ∀ j h, (L.addOwn id g).own j = some h → (j = id ∧ h = g) ∨ (j ≠ id ∧ L.own j = some h) := by
  intro j h hj
  simp only [Lay.addOwn, upd] at hj
  split at hj
  ·simp only [Option.some.injEq] at hj; exact .inl ⟨by assumption, hj.symm⟩
  ·exact .inr ⟨by assumption, hj⟩
 exact {
  nidO := fun j h hj => by rcases hown j h hj with ⟨rfl, _⟩ | ⟨_, h2⟩ <;> first | omega | (have := W.nidO j h h2; omega)
  nidB := fun j h hj => by have := W.nidB j h hj; omega
  own := fun j h hj => by
   rcases hown j h hj with ⟨_, rfl⟩ | ⟨_, h2⟩
   ·exact ⟨hgl, gB, gA⟩
   ·obtain ⟨k1, k2, k3⟩ := W.own j h h2; exact ⟨Nat.lt_of_lt_of_le k1 T.size, k2, k3⟩
  boxW := fun b h hb => by obtain ⟨k1, k2, k3⟩ := W.boxW b h hb; exact ⟨Nat.lt_of_lt_of_le k1 T.size, k2, k3⟩
  injO := fun i j h hi hj => by
   rcases hown i h hi with ⟨rfl, h1⟩ | ⟨_, h2⟩ <;> rcases hown j h hj with ⟨rfl, h3⟩ | ⟨_, h4⟩
   ·rfl
   ·subst h1; exact (gO j h4).symm
   ·subst h3; exact gO i h2
   ·exact W.injO i j h h2 h4
  injB := W.injB
  dis := fun i j h hi hj => by
   rcases hown i h hi with ⟨_, rfl⟩ | ⟨_, h2⟩
   ·exact gX j hj
   ·exact W.dis i j h h2 hj
  old := fun h hh => Nat.lt_of_lt_of_le (W.old h hh) T.size
  frz := W.frz }
theorem Zk {id : Nat} {o : Option Nat} {g : Nat} {e : TypeId} {k : Nat} {ys : List V} {cells : List Value} {arr : Array Value} {cap : Nat} (S : Sim C s L a w) (ho : ∀ j, o = some j → L.own id = some j) (T : InsEnd w w' o)
  (hg : w'.heap[g]? = some (.cells arr e (0, 0))) (hn : o = some g ∨ w.heap.size ≤ g) (hr : RepE L w k ys cells) (hl : ys.length ≤ cap) (hm : cap ≤ maxLen) (hs : arr.size = cap * k) (htk : arr.toList.take (ys.length * k) = cells) :
  Sim C { s.mapV (aJ id) with nid := max s.nid (id + 1) } (L.addOwn id g) a w' ∧ Rep (L.addOwn id g) w' (.sl (.own id e) k ys) (.slice (some ⟨g, 0, none⟩) ys.length cap) := by
 have W := S.wf
 have hgl := (Array.getElem?_eq_some_iff.1 hg).1
 have hA : ∀ h, o = some h → ¬ L.A h := fun h e => (W.own id h (ho h e)).2.2
 have gA : ¬ L.A g := hn.elim (hA g) (fun h k => by have := W.old g k; omega)
 have gB : C.B ≤ g ∨ C.Wr g := hn.elim (fun h => (W.own id g (ho g h)).2.1) (fun h => .inl (by have := S.hB; omega))
 have gO : ∀ j, L.own j = some g → j = id := fun j hj => hn.elim (fun h => W.injO j id g hj (ho g h)) (fun h => by have := (W.own j g hj).1; omega)
 have gX : ∀ b, L.box b = some g → False := fun b hb => hn.elim (fun h => W.dis id b g (ho g h) hb) (fun h => by have := (W.boxW b g hb).1; omega)
 have oO : ∀ j h, L.own j = some h → j ≠ id → o ≠ some h := fun j h hj hne e => hne (W.injO j id h hj (ho h e))
 have oX : ∀ b h, L.box b = some h → o ≠ some h := fun b h hb e => W.dis id b h (ho h e) hb
 have hown : ∀ j h, (L.addOwn id g).own j = some h → (j = id ∧ h = g) ∨ (j ≠ id ∧ L.own j = some h) := by
  intro j h hj
  simp only [Lay.addOwn, upd] at hj
  split at hj
  ·simp only [Option.some.injEq] at hj; exact .inl ⟨by assumption, hj.symm⟩
  ·exact .inr ⟨by assumption, hj⟩
 have hid : (L.addOwn id g).own id = some g := by simp [Lay.addOwn, upd]
 have K : Trans (Tag.is id) (fun _ => false) _root_.id _root_.id L (L.addOwn id g) w w' :=
  ⟨rfl, fun h hA' => ⟨hA', .of (T.block h (W.old h hA') (fun e => hA h e hA'))⟩, fun j e hj h hh => by
    have hne : j ≠ id := fun e => by subst e; simp [Tag.is] at hj
    exact ⟨⟨rfl, by simp [Lay.addOwn, upd, hne, hh]⟩, T.block h (W.own j h hh).1 (oO j h hh hne)⟩,
   fun b _ h hh => ⟨hh, .of (T.block h (W.boxW b h hh).1 (oX b h hh))⟩⟩
 have wf : Wf C (max s.nid (id + 1)) (L.addOwn id g) w' := ade S ho T hg hn
 refine ⟨S.mapV (fun v u h => jR K h) (fun b h hb => ⟨hb, T.block h (W.boxW b h hb).1 (oX b h hb)⟩) wf ⟨T.os, T.tape, T.output, T.size, fun h hh hW => T.block h (by have := S.hB; omega) (fun e => ?_), T.drawn⟩,
  some ⟨g, 0, none⟩, cap, cells, rfl, hr.trans (p := Tag.is id) (q := fun _ => false) rfl K, .inr ⟨g, arr, hid, rfl, hg, hl, hm, hs, htk⟩⟩
 rcases (W.own id h (ho h e)).2.1 with k1 | k1
 ·omega
 ·exact hW k1
end
section
variable {P : Program} [Tb P]
theorem agZ {f : FuncId} {e : TypeId} {k bytes : Nat} (hen : jD P f = true) (hk0 : 0 < k)
  (H : ∀ (w : World) (o : Option Nat) (n cap i : Nat) (cells vs : List Value) (ad : Addr) (xc : Nat), i ≤ n → InsArg P w o e k bytes n cap cells vs ad xc →
   Calls P f #[.slice (o.map fun g => ⟨g, 0, none⟩) n cap, .int .i64 i, .slice (some ad) 1 xc] w fun e' w' => ∃ u, e' = .returned u ∧ lZ w o e k (n + 1) (cells.take (i * k) ++ vs ++ cells.drop (i * k)) u w')
  (id : Nat) (xs : List V) (x : V) (t : Tag) (ht : t = .fz ∨ ∃ j e2, t = .own j e2 ∧ j ≠ id) (i : Nat) (s : St) (hi : i ≤ xs.length) (hf : Fits (xs.length + 1) bytes) :
  GoodZ P f [.sl (.own id e) k xs, .c (.int .i64 (i : Int)), .sl t k [x]] s { s.mapV (aJ id) with nid := max s.nid (id + 1) } (.sl (.own id e) k (xs.take i ++ [x] ++ xs.drop i)) := by
 rintro C L a w cargs hT S ⟨u, r, rfl, ⟨ad, cap, cells, rfl, h2, h3⟩, ⟨u2, r2, rfl, h10, ⟨u3, r3, rfl, ⟨xa, xc, vs, rfl, h11, h12⟩, hr⟩⟩⟩
 simp only [Reps, Rep] at hr h10
 subst hr
 subst h10
 refine .inl ⟨hen, ?_⟩
 have hcl := h2.length
 have hvl := h11.length
 have W := S.wf
 obtain ⟨gx, ox, rfl, hxc, hrow, hA⟩ : ∃ gx ox, xa = some ⟨gx, ox, none⟩ ∧ 1 ≤ xc ∧ Row w gx ox vs ∧ ∀ g, L.own id = some g → gx ≠ g := by
  rcases ht with rfl | ⟨j, e2, rfl, hj⟩
  ·obtain ⟨hxc, h12⟩ := h12
   obtain ⟨gx, ox, rfl, hA, hrow⟩ := h12.resolve_left (by simp)
   exact ⟨gx, ox, rfl, hxc, hrow, fun g hg e => by subst e; exact (W.own id _ hg).2.2 hA⟩
  ·rcases h12 with ⟨h0, _⟩ | ⟨g, arr, k1, rfl, k3, k4, k5, k6, k7⟩
   ·simp at h0
   ·refine ⟨g, 0, rfl, k4, ⟨arr, _, _, k3, ?_⟩, fun g' hg e => hj (W.injO j id g k1 (e ▸ hg))⟩
    rw [hvl]; exact k7
 have key : ∀ o, (∀ j, o = some j → L.own id = some j) → ad = (o.map fun g => (⟨g, 0, none⟩ : Addr)) → InsArg P w o e k bytes xs.length cap cells vs ⟨gx, ox, none⟩ xc →
   Calls P f #[.slice ad xs.length cap, .int .i64 i, .slice (some ⟨gx, ox, none⟩) 1 xc] w fun e' w' => ∃ u L', e' = .returned u ∧ Sim C { s.mapV (aJ id) with nid := max s.nid (id + 1) } L' a w' ∧ Rep L' w' (.sl (.own id e) k (xs.take i ++ [x] ++ xs.drop i)) u := by
  intro o ho hao hI
  subst hao
  refine (H w o xs.length cap i cells vs ⟨gx, ox, none⟩ xc hi hI).mono ?_
  rintro e' w' ⟨u, rfl, T, g, cap', arr, rfl, k1, k2, k3, k4, k5, k6⟩
  have hyl : (xs.take i ++ [x] ++ xs.drop i).length = xs.length + 1 := by simp; omega
  have := Zk (ys := xs.take i ++ [x] ++ xs.drop i) S ho T k1 k6 (((h2.take i).append h11).append (h2.drop i)) (by rw [hyl]; exact k2) k3 k4 (by rw [hyl]; exact k5)
  rw [hyl] at this
  exact ⟨_, _, rfl, this.1, this.2⟩
 have hx1 : ∀ j v, vs[j]? = some v → w.cell? ((⟨gx, ox, none⟩ : Addr).add j) = some v := fun j v hj => by rw [dS]; exact hrow.cell hj
 have hxb : ∃ arr t fr, w.heap[gx]? = some (.cells arr t fr) ∧ arr.size ≠ 0 := by
  obtain ⟨arr, t, fr, h, h'⟩ := hrow
  refine ⟨arr, t, fr, h, fun h0 => ?_⟩
  have e0 : arr.toList = [] := List.eq_nil_of_length_eq_zero (by simpa using h0)
  rw [e0] at h'
  have := congrArg List.length h'
  simp at this
  simp at hvl
  omega
 rcases h3 with ⟨h4, rfl, rfl⟩ | ⟨g, arr, h4, rfl, h5, h6, h7, h8, h9⟩
 ·have hx0 : xs = [] := List.eq_nil_of_length_eq_zero h4
  subst hx0
  simp only [RepE] at h2
  subst h2
  exact key none (fun j h => by cases h) rfl ⟨.inl ⟨rfl, rfl, rfl, rfl⟩, hxb, rfl, by simp, by simpa using hvl, hxc, hx1, by simp, h11.one, hf, hk0⟩
 ·refine key (some g) (fun j h => by cases h; exact h4) rfl ⟨.inr ⟨g, arr, rfl, h5, h6, h7, h8, h9, fun e => ?_⟩, hxb, rfl, hcl, by simpa using hvl, hxc, hx1, h2.one, h11.one, hf, hk0⟩
  simp only at e
  exact hA g h4 e
theorem afr {f : FuncId} {e : TypeId} {k : Nat} (hen : jD P f = true) (hk0 : 0 < k)
  (H : ∀ (w : World) (ad0 : Addr) (vs : List Value) (ad : Addr) (xc : Nat), vs.length = k → (∀ j v, vs[j]? = some v → w.cell? (ad.add j) = some v) → (∀ v ∈ vs, v.oneCell' = true) →
   Calls P f #[.slice (some ad0) 0 0, .int .i64 0, .slice (some ad) 1 xc] w fun e' w' => ∃ u, e' = .returned u ∧ lZ w none e k 1 vs u w')
  (k' : Nat) (x : V) (t : Tag) (ht : t = .fz ∨ ∃ j e2, t = .own j e2) (s : St) :
  GoodZ P f [.sl .nn k' [], .c (.int .i64 0), .sl t k [x]] s { s with nid := s.nid + 1 } (.sl (.own s.nid e) k [x]) := by
 rintro C L a w cargs hT S ⟨u, r, rfl, ⟨ad, cap, cells, rfl, h2, h3⟩, ⟨u2, r2, rfl, h10, ⟨u3, r3, rfl, ⟨xa, xc, vs, rfl, h11, h12⟩, hr⟩⟩⟩
 simp only [Reps, Rep] at hr h10
 subst hr
 subst h10
 refine .inl ⟨hen, ?_⟩
 obtain ⟨_, hads, rfl⟩ := h3
 obtain ⟨ad0, rfl⟩ := Option.isSome_iff_exists.1 hads
 have hvl := h11.length
 have W := S.wf
 obtain ⟨gx, ox, rfl, hrow⟩ : ∃ gx ox, xa = some ⟨gx, ox, none⟩ ∧ Row w gx ox vs := by
  rcases ht with rfl | ⟨j, e2, rfl⟩
  ·obtain ⟨hxc, h12⟩ := h12
   obtain ⟨gx, ox, rfl, hA, hrow⟩ := h12.resolve_left (by simp)
   exact ⟨gx, ox, rfl, hrow⟩
  ·rcases h12 with ⟨h0, _⟩ | ⟨g, arr, k1, rfl, k3, k4, k5, k6, k7⟩
   ·simp at h0
   ·exact ⟨g, 0, rfl, arr, _, _, k3, by rw [hvl]; exact k7⟩
 refine (H w ad0 vs ⟨gx, ox, none⟩ xc (by simpa using hvl) (fun j v hj => by rw [dS]; exact hrow.cell hj) h11.one).mono ?_
 rintro e' w' ⟨u, rfl, T, g, cap', arr, rfl, k1, k2, k3, k4, k5, k6⟩
 have G : Grow w w' := ⟨T.os, T.tape, T.output, T.size, fun k hk => T.block k hk (fun h => by cases h), T.drawn⟩
 have wf := ade (id := s.nid) S (fun j h => by cases h) T k1 k6
 have hm : max s.nid (s.nid + 1) = s.nid + 1 := by omega
 rw [hm] at wf
 refine ⟨_, L.addOwn s.nid g, rfl, S.grow G (W.leOwn g) rfl (fun b cs h => .inl h) wf, some ⟨g, 0, none⟩, cap', vs, rfl, ?_, .inr ⟨g, arr, by simp [Lay.addOwn, upd], rfl, k1, k2, k3, k4, k5⟩⟩
 exact h11.trans (p := fun _ => false) (q := fun _ => false) rfl (W.whole G (W.leOwn g))
end
end Go.Pg
end
