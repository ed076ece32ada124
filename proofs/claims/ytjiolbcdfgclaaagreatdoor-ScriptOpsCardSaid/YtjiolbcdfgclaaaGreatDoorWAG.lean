/-
  Texts of this claim, merged; own names are short.
-/
import Derived.Test.YtjiolbcdfgclaaaGreatDoorWAF
import Derived.Lib.Split
import Derived.Lib.SplitLaws
import Derived.Lib.CountLaws
import Derived.Lib.IndexMore
import Derived.Lib.Strings
import Derived.Test.YtjiolbcdfgclaaaGreatDoorWAE
import Derived.Lib.Join
set_option linter.unusedVariables false
set_option linter.unusedSimpArgs false
set_option linter.unusedSectionVars false
set_option linter.defProp false
set_option maxRecDepth 100000
set_option maxHeartbeats 8000000
section
namespace Go.Pg
open Go
def aoF (n : Nat) : Nat → V := fun i => if i < n then .ref i 0 else .top
inductive Pc where
 | v (x : V)
 | h (i c : Nat)
def Pc.inst (u : Nat → Nat → Value) : Pc → V
 | .v x => x
 | .h i c => .c (u i c)
def lB (B : List (TypeId × List V)) : Nat → Option (TypeId × List V) := fun i => B[i]?
def aoB (u : Nat → Nat → Value) (B : List (TypeId × List Pc)) : List (TypeId × List V) := B.map fun x => (x.1, x.2.map (Pc.inst u))
def GoodB (P : Program) [Tb P] (g : FuncId) (args : List V) (B : List (TypeId × List Pc)) (k : Nat) (B' : List (TypeId × List Pc)) (k' : Nat) (r : V) : Prop :=
 ∀ u, GoodZ P g args ⟨aoF B.length, lB (aoB u B), k, fun _ => .top⟩ ⟨aoF B.length, lB (aoB u B'), k', fun _ => .top⟩ r
theorem aoG (id : Nat) : aJ id .top = .top := by unfold aJ; split <;> rfl
def anz (O : List Nat) (n : Nat) : Tag → Tag
 | .fz => .fz
 | .nn => .nn
 | .own j e => .own (if j < O.length then O.getD j 0 else n + (j - O.length)) e
def anA (Bx : List Nat) (b : Nat) : Nat := Bx.getD b 0
def Q7 : List Nat → V → V
 | [], v => v
 | i :: O, v => aJ i (Q7 O v)
def aoz : List Nat → (Nat → V) → Nat → V
 | [], e => e
 | i :: O, e => lX (aJ i) (aoz O e)
def aoC : List Nat → (Nat → Option (TypeId × List V)) → Nat → Option (TypeId × List V)
 | [], b => b
 | i :: O, b => sH (aJ i) (aoC O b)
theorem aoH (O : List Nat) (e : Nat → V) (t : Nat) : aoz O e t = Q7 O (e t) := by
 induction O with
 | nil => rfl
 | cons i O ih => show aJ i (aoz O e t) = aJ i (Q7 O (e t)); rw [ih]
theorem aoU (O : List Nat) (b : Nat → Option (TypeId × List V)) (t : Nat) : aoC O b t = (b t).map fun x => (x.1, x.2.map (Q7 O)) := by
 induction O with
 | nil => show b t = _; cases h : b t with
  | none => rfl
  | some x => show some x = some (x.1, x.2.map (fun v => v)); simp
 | cons i O ih =>
  show (aoC O b t).map (fun x => (x.1, x.2.map (aJ i))) = _
  rw [ih]
  cases b t with
  | none => rfl
  | some x => simp only [Option.map_some, List.map_map]; rfl
def aoI : List Nat → List (TypeId × List V) → (Nat → Option (TypeId × List V)) → Nat → Option (TypeId × List V)
 | b :: bs, x :: xs, f => upd (aoI bs xs f) b (some x)
 | _, _, f => f
theorem aoP (b : Nat) (bs : List Nat) (x : TypeId × List V) (xs : List (TypeId × List V)) (f : Nat → Option (TypeId × List V)) : aoI (b :: bs) (x :: xs) f = upd (aoI bs xs f) b (some x) := rfl
theorem aoV : ∀ (bs : List Nat) (xs : List (TypeId × List V)) (f : Nat → Option (TypeId × List V)) (b : Nat), bs.length = xs.length → aoI bs xs f b = if b ∈ bs then xs[bs.idxOf b]? else f b := by
 intro bs
 induction bs with
 | nil => intro xs f b h; cases xs with
  | nil => simp [aoI]
  | cons _ _ => simp at h
 | cons c bs ih =>
  intro xs f b h
  cases xs with
  | nil => simp at h
  | cons x xs =>
   rw [aoP]
   by_cases hb : b = c
   ·subst hb; simp [upd]
   ·rw [aoZ _ _ _ _ hb, ih xs f b (by simpa using h)]
    have : (b ∈ c :: bs) ↔ b ∈ bs := by simp [hb]
    by_cases hm : b ∈ bs
    ·rw [if_pos hm, if_pos (this.2 hm), List.idxOf_cons]
     have hc : (c == b) = false := by simpa using fun h => hb h.symm
     rw [hc]
     simp
    ·rw [if_neg hm, if_neg (fun h => hm (this.1 h))]
def Pc.back (O Bx : List Nat) (n : Nat) (H : Nat → Nat → V) : Pc → V
 | .v x => x.map (anz O n) (anA Bx)
 | .h i c => Q7 O (H i c)
def aoJ (O Bx : List Nat) (n : Nat) (H : Nat → Nat → V) (B : List (TypeId × List Pc)) : List (TypeId × List V) := B.map fun x => (x.1, x.2.map (Pc.back O Bx n H))
def aoD (Bx : List Nat) (b : Nat → Option (TypeId × List V)) (i c : Nat) : V := ((Bx[i]?).bind b).elim .top fun x => x.2.getD c .top
def aoQ (O Bx : List Nat) (i : Nat) : Nat → List Pc → List V → Prop
 | _, [], [] => True
 | c, .v x :: ps, y :: ys => (y.any (Tag.notIn O) (zD Bx) false = false ∧ y.map (sF O) (fun b => Bx.idxOf b) = x) ∧ aoQ O Bx i (c + 1) ps ys
 | c, .h i' c' :: ps, _ :: ys => (i' = i ∧ c' = c) ∧ aoQ O Bx i (c + 1) ps ys
 | _, _, _ => False
def ao0 (O Bx : List Nat) (b : Nat → Option (TypeId × List V)) : Nat → List Nat → List (TypeId × List Pc) → Prop
 | _, [], [] => True
 | i, c :: cs, x :: xs => (∃ l, b c = some (x.1, l) ∧ aoQ O Bx i 0 x.2 l) ∧ ao0 O Bx b (i + 1) cs xs
 | _, _, _ => False
def Tag.outB (no k' : Nat) : Tag → Bool
 | .fz => false
 | .nn => false
 | .own j _ => !decide (j < max no k')
def Pc.okB (no k' nb : Nat) : Pc → Bool
 | .v x => !x.any (Tag.outB no k') (fun b => !decide (b < nb)) false
 | .h _ _ => true
section
variable {L L' : Lay} {w w' : World}
theorem Trans.comp {p p2 : Tag → Bool} {L3 : Lay} {w3 : World} (K : Trans p (fun _ => false) id id L L' w w') (K2 : Trans p2 (fun _ => false) id id L' L3 w' w3) : Trans (fun t => p t || p2 t) (fun _ => false) id id L L3 w w3 where
 fz' := rfl
 A := fun g h => by
  obtain ⟨h1, h2⟩ := K.A g h
  obtain ⟨h3, h4⟩ := K2.A g h1
  exact ⟨h3, fun arr e fr hg => by obtain ⟨fr', h5⟩ := h2 arr e fr hg; exact h4 arr e fr' h5⟩
 own := fun i e hi g h => by
  simp only [Bool.or_eq_false_iff] at hi
  obtain ⟨h1, h2⟩ := K.own i e hi.1 g h
  obtain ⟨h3, h4⟩ := K2.own i e hi.2 g h1.2
  exact ⟨h3, h4.trans h2⟩
 box := fun b _ g h => K2.box b rfl g (K.box b rfl g h)
theorem aoy {O : List Nat} (K : Trans (fun t => match t with | .own i _ => O.contains i | _ => false) (fun _ => false) id id L L' w w') {v : V} {u : Value} (h : Rep L w v u) : Rep L' w' (Q7 O v) u := by
 by_cases hv : v.any (fun t => match t with | .own i _ => O.contains i | _ => false) (fun _ => false) false = false
 ·have h1 := h.trans rfl K hv
  rw [map_id.1] at h1
  have : ∀ O', (∀ i ∈ O', i ∈ O) → Q7 O' v = v := by
   intro O'
   induction O' with
   | nil => intro _; rfl
   | cons i O' ih =>
    intro hsub
    show aJ i (Q7 O' v) = v
    rw [ih fun j hj => hsub j (List.mem_cons_of_mem _ hj)]
    unfold aJ
    rw [if_neg]
    have h2 := (QY (p := fun t => match t with | .own i _ => O.contains i | _ => false) (p' := Tag.is i) (q := fun _ => false) (q' := fun _ => false) (fun t ht => by
     cases t with
     | own j e =>
      simp only [Tag.is, beq_iff_eq] at ht
      subst ht
      simpa using hsub j (by simp)
     | _ => simp [Tag.is] at ht) (fun b hb => by cases hb)).1 v hv
    simp [V.has, h2]
  rw [this O fun _ h => h]
  exact h1
 ·
  have : Q7 O v = .top := by
   have key : ∀ O' : List Nat, (Q7 O' v = .top ∨ (Q7 O' v = v ∧ ∀ i ∈ O', v.has i = false)) := by
    intro O'
    induction O' with
    | nil => exact .inr ⟨rfl, fun _ h => by cases h⟩
    | cons i O' ih =>
     show aJ i (Q7 O' v) = .top ∨ _
     rcases ih with h1 | ⟨h1, h2⟩
     ·left; rw [h1]; exact aoG i
     ·rw [h1]
      cases hi : v.has i with
      | true => left; unfold aJ; rw [hi]; rfl
      | false =>
       right
       refine ⟨?_, fun j hj => by rcases List.mem_cons.1 hj with rfl | hj; exact hi; exact h2 j hj⟩
       show aJ i (Q7 O' v) = v
       rw [h1]; unfold aJ; rw [hi]; rfl
   rcases key O with h1 | ⟨_, h2⟩
   ·exact h1
   ·exfalso
    apply hv
    have hA : (∀ x : V, (∀ i ∈ O, x.any (Tag.is i) (fun _ => false) false = false) → x.any (fun t => match t with | .own i _ => O.contains i | _ => false) (fun _ => false) false = false) ∧ (∀ l : List V, (∀ i ∈ O, V.anyL (Tag.is i) (fun _ => false) false l = false) → V.anyL (fun t => match t with | .own i _ => O.contains i | _ => false) (fun _ => false) false l = false) := by
     have ht : ∀ t : Tag, (∀ i ∈ O, t.is i = false) → (match t with | .own i _ => O.contains i | _ => false) = false := by
      intro t h
      cases t with
      | own j e =>
       simp only [Tag.is, beq_eq_false_iff_ne] at h
       simp only [List.contains_eq_mem, decide_eq_false_iff_not]
       exact fun hj => h j hj rfl
      | _ => rfl
     refine V.ind ?_ ?_ ?_ ?_ ?_ ?_ ?_ ?_ ?_ ?_ ?_
     ·intro _ _; rfl
     ·intro _; rfl
     ·intro t k xs _ h; exact ht t h
     ·intro cs ih h; exact ih h
     ·intro cs ih h; exact ih h
     ·intro _ _ _; rfl
     ·intro t k xs i o _ h; exact ht t h
     ·intro f fs cs ih1 ih2 h
      simp only [V.any, Bool.or_eq_false_iff] at h ⊢
      exact ⟨ih1 fun i hi => (h i hi).1, ih2 fun i hi => (h i hi).2⟩
     ·intro _; rfl
     ·intro _; rfl
     ·intro x xs ih1 ih2 h
      simp only [V.anyL, Bool.or_eq_false_iff] at h ⊢
      exact ⟨ih1 fun i hi => (h i hi).1, ih2 fun i hi => (h i hi).2⟩
    exact hA.1 v h2
  rw [this]; trivial
end
theorem aoW {O Bx : List Nat} {b : Nat → Option (TypeId × List V)} : ∀ (cs : List Nat) (i : Nat) (B : List (TypeId × List Pc)), ao0 O Bx b i cs B → cs.length = B.length ∧ ∀ j x, B[j]? = some x → ∃ c l, cs[j]? = some c ∧ b c = some (x.1, l) ∧ aoQ O Bx (i + j) 0 x.2 l := by
 intro cs
 induction cs with
 | nil => intro i B h; cases B with
  | nil => exact ⟨rfl, fun j x hj => by simp at hj⟩
  | cons _ _ => exact h.elim
 | cons c cs ih =>
  intro i B h
  cases B with
  | nil => exact h.elim
  | cons x B =>
   obtain ⟨⟨l, h1, h2⟩, h3⟩ := h
   obtain ⟨h4, h5⟩ := ih (i + 1) B h3
   refine ⟨by simp [h4], fun j y hj => ?_⟩
   cases j with
   | zero => simp at hj; subst hj; exact ⟨c, l, rfl, h1, h2⟩
   | succ j =>
    obtain ⟨c', l', k1, k2, k3⟩ := h5 j y (by simpa using hj)
    exact ⟨c', l', by simpa using k1, k2, by rw [show i + (j + 1) = i + 1 + j by omega]; exact k3⟩
theorem aoR {O Bx : List Nat} {i : Nat} {L L0 : Lay} {w : World} {u : Nat → Nat → Value} (K : Trans (Tag.notIn O) (zD Bx) (sF O) (fun b => Bx.idxOf b) L L0 w w) : ∀ (ps : List Pc) (l : List V) (us : List Value) (c : Nat),
  aoQ O Bx i c ps l → Reps L w l us → (∀ j x, us[j]? = some x → u i (c + j) = x) → Reps L0 w (ps.map (Pc.inst u)) us := by
 intro ps
 induction ps with
 | nil => intro l us c h hr _; cases l with
  | nil => exact hr
  | cons _ _ => exact h.elim
 | cons p ps ih =>
  intro l us c h hr hu
  cases l with
  | nil => cases p <;> exact h.elim
  | cons y ys =>
   obtain ⟨x, r, rfl, h1, h2⟩ := hr
   have hn := fun h' => ih ys r (c + 1) h' h2 (fun j z hj => by have := hu (j + 1) z (by simpa using hj); rw [show c + (j + 1) = c + 1 + j by omega] at this; exact this)
   cases p with
   | v q =>
    obtain ⟨⟨h3, h4⟩, h5⟩ := h
    refine ⟨x, r, rfl, ?_, hn h5⟩
    have := h1.trans rfl K h3
    rw [h4] at this
    exact this
   | h i' c' =>
    obtain ⟨⟨rfl, rfl⟩, h5⟩ := h
    refine ⟨x, r, rfl, ?_, hn h5⟩
    exact (hu 0 x rfl).symm
theorem GoodB.frame {P : Program} [Tb P] {g : FuncId} {args0 : List V} {B B' : List (TypeId × List Pc)} {k k' : Nat} {r : V} (hg : GoodB P g args0 B k B' k' r) (O Bx : List Nat) {args : List V} {e : Nat → V} {bx : Nat → Option (TypeId × List V)} {n : Nat} {h : Nat → V}
  (hargs : V.anyL (Tag.notIn O) (zD Bx) false args = false ∧ V.mapL (sF O) (fun b => Bx.idxOf b) args = args0) (hfit : ao0 O Bx bx 0 Bx B)
  (hO : O.Nodup) (hBx : Bx.Nodup) (hOn : ∀ j ∈ O, j < n) (hkO : O.length ≤ k) (hkB : B.length ≤ k) (hl : B'.length = B.length)
  (hok : (B'.all fun x => x.2.all (Pc.okB O.length k' B.length)) = true) (hrok : r.any (Tag.outB O.length k') (fun b => !decide (b < B.length)) false = false) :
  GoodZ P g args ⟨e, bx, n, h⟩ ⟨aoz O e, aoI Bx (aoJ O Bx n (aoD Bx bx) B') (aoC O bx), n + (k' - O.length), aoz O h⟩ (r.map (anz O n) (anA Bx)) := by
 intro C L a w cargs hT S hr
 have W := S.wf
 obtain ⟨hlen, hfit⟩ := aoW Bx 0 B hfit
 let T : Nat → Prop := fun g => (∃ j ∈ O, L.own j = some g) ∨ (∃ b ∈ Bx, L.box b = some g)
 have hTlt : ∀ g, T g → g < w.heap.size ∧ (C.B ≤ g ∨ C.Wr g) ∧ ¬ L.A g := by
  rintro g (⟨j, _, h⟩ | ⟨b, _, h⟩)
  ·exact W.own j g h
  ·exact W.boxW b g h
 let blk : Nat → Nat := fun i => ((Bx[i]?).bind L.box).getD 0
 let u : Nat → Nat → Value := fun i c => match w.heap[blk i]? with | some (.cells arr _ _) => arr.getD c undef | _ => undef
 let C0 : Cx := { n := B.length, A0 := L.A, Wr := T, w0 := w }
 let a0 : Act := { tmps := ((List.range B.length).map fun i => Value.pointer (some ⟨blk i, 0, none⟩)).toArray, defers := [] }
 let L0 : Lay := { A := L.A, own := fun j => (O[j]?).bind L.own, box := fun i => (Bx[i]?).bind L.box }
 have hB := S.hB
 have hkp : ∀ w', Kp T w.heap.size w w' → Kp C.Wr C.B C.w0 w' := fun w' hk => S.kp.trans (hk.mono hB fun g hgB hg => by
  rcases (hTlt g hg).2.1 with h1 | h1
  ·omega
  ·exact h1)
 have hT0 : C0.TOk P := fun w' hk => hT w' (hkp w' hk)
 have K0 : Trans (Tag.notIn O) (zD Bx) (sF O) (fun b => Bx.idxOf b) L L0 w w := by
  refine ⟨rfl, fun g h => ⟨h, .of rfl⟩, fun i e hi g h => ⟨⟨rfl, ?_⟩, rfl⟩, fun b hb g h => ?_⟩
  ·have hm : i ∈ O := by simpa [Tag.notIn] using hi
   simp only [L0, zC O i hm, Option.bind_some, h]
  ·have hm : b ∈ Bx := by simpa [zD] using hb
   simp only [L0, zC Bx b hm, Option.bind_some, h]
 have hbox : ∀ i x, B[i]? = some x → ∃ c l g arr, Bx[i]? = some c ∧ bx c = some (x.1, l) ∧ aoQ O Bx i 0 x.2 l ∧ L.box c = some g ∧ blk i = g ∧ w.heap[g]? = some (.cells arr x.1 (0, 0)) ∧ Reps L w l arr.toList := by
  intro i x hx
  obtain ⟨c, l, h1, h2, h3⟩ := hfit i x hx
  obtain ⟨g, arr, h4, h5, h6⟩ := S.box c _ h2
  rw [Nat.zero_add] at h3
  exact ⟨c, l, g, arr, h1, h2, h3, h4, by simp only [blk, h1, Option.bind_some, h4, Option.getD_some], h5, h6⟩
 have hsome : ∀ i, i < B.length → ∃ x, B[i]? = some x := fun i hi => ⟨B[i], List.getElem?_eq_getElem hi⟩
 have lt : ∀ (x : List Nat) (f : Nat → Option Nat) j g, (x[j]?).bind f = some g → j < x.length ∧ ∃ i, x[j]? = some i ∧ f i = some g := by
  intro x f j g h
  simp only [Option.bind_eq_some_iff] at h
  obtain ⟨i, h1, h2⟩ := h
  exact ⟨(List.getElem?_eq_some_iff.1 h1).1, i, h1, h2⟩
 have S0 : Sim C0 ⟨aoF B.length, lB (aoB u B), k, fun _ => .top⟩ L0 a0 w := by
  refine ⟨rfl, by simp [a0, C0], fun t => ?_, fun _ => trivial, fun i cs hc => ?_, ?_, Kp.refl _ _ _⟩
  ·show Rep L0 w (aoF B.length t) (a0.tmps.getD t undef)
   unfold aoF
   split
   ·rename_i ht
    obtain ⟨x, hx⟩ := hsome t ht
    obtain ⟨c, l, g, arr, h1, h2, h3, h4, h5, h6, h7⟩ := hbox t x hx
    refine ⟨g, by simp only [L0, h1, Option.bind_some, h4], ?_⟩
    simp [a0, ht, h5]
   ·trivial
  ·have hc : lB (aoB u B) i = some cs := hc
   simp only [lB, aoB, List.getElem?_map, Option.map_eq_some_iff] at hc
   obtain ⟨x, hx, rfl⟩ := hc
   obtain ⟨c, l, g, arr, h1, h2, h3, h4, h5, h6, h7⟩ := hbox i x hx
   refine ⟨g, arr, by simp only [L0, h1, Option.bind_some, h4], h6, ?_⟩
   refine aoR K0 x.2 l arr.toList 0 h3 h7 (fun j z hj => ?_)
   simp only [u, h5, h6, Nat.zero_add]
   simp only [Array.getElem?_toList] at hj
   simp [Array.getD_eq_getD_getElem?, hj]
  ·exact {
    nidO := fun j g h => by have := (lt O L.own j g h).1; show j < k; omega
    nidB := fun j g h => by have := (lt Bx L.box j g h).1; show j < k; omega
    own := fun j g h => by
     obtain ⟨_, i, h1, h2⟩ := lt O L.own j g h
     exact ⟨(W.own i g h2).1, .inr (.inl ⟨i, List.mem_of_getElem? h1, h2⟩), (W.own i g h2).2.2⟩
    boxW := fun j g h => by
     obtain ⟨_, i, h1, h2⟩ := lt Bx L.box j g h
     exact ⟨(W.boxW i g h2).1, .inr (.inr ⟨i, List.mem_of_getElem? h1, h2⟩), (W.boxW i g h2).2.2⟩
    injO := fun i j g hi hj => by
     obtain ⟨h0, i', h1, h2⟩ := lt O L.own i g hi
     obtain ⟨_, j', h3, h4⟩ := lt O L.own j g hj
     have := W.injO i' j' g h2 h4
     subst this
     exact (List.getElem?_inj h0 hO).1 (h1.trans h3.symm)
    injB := fun i j g hi hj => by
     obtain ⟨h0, i', h1, h2⟩ := lt Bx L.box i g hi
     obtain ⟨_, j', h3, h4⟩ := lt Bx L.box j g hj
     have := W.injB i' j' g h2 h4
     subst this
     exact (List.getElem?_inj h0 hBx).1 (h1.trans h3.symm)
    dis := fun i j g hi hj => by
     obtain ⟨_, i', _, h2⟩ := lt O L.own i g hi
     obtain ⟨_, j', _, h4⟩ := lt Bx L.box j g hj
     exact W.dis i' j' g h2 h4
    old := W.old
    frz := fun g h => .inl h }
 have hr0 : Reps L0 w args0 cargs := by
  have := hr.trans rfl K0 hargs.1
  rw [hargs.2] at this
  exact this
 have post : ∀ w' L' (x : Value), Sim C0 ⟨aoF B.length, lB (aoB u B'), k', fun _ => .top⟩ L' a0 w' → Rep L' w' r x →
   ∃ L2, Sim C ⟨aoz O e, aoI Bx (aoJ O Bx n (aoD Bx bx) B') (aoC O bx), n + (k' - O.length), aoz O h⟩ L2 a w' ∧ Rep L2 w' (r.map (anz O n) (anA Bx)) x := by
  intro w' L' x S' hx
  have W' := S'.wf
  have hk0 : Kp T w.heap.size w w' := S'.kp
  have hsz := hk0.size
  have pin : ∀ i c g, Bx[i]? = some c → L.box c = some g → i < B.length → L'.box i = some g := by
   intro i c g h1 h2 hi
   have h3 := S'.env i
   have e1 : (⟨aoF B.length, lB (aoB u B'), k', fun _ => .top⟩ : St).env i = .ref i 0 := by simp [aoF, hi]
   rw [e1] at h3
   obtain ⟨g', h4, h5⟩ := h3
   have h6 : a0.tmps.getD i undef = .pointer (some ⟨blk i, 0, none⟩) := by simp [a0, hi]
   rw [h6] at h5
   have h7 : blk i = g := by simp only [blk, h1, Option.bind_some, h2, Option.getD_some]
   simp only [Value.pointer.injEq, Option.some.injEq, Addr.mk.injEq, h7] at h5
   rw [h4, ← h5.1]
  have hin : ∀ i g, L'.box i = some g → i < B.length → ∃ c, Bx[i]? = some c ∧ L.box c = some g := by
   intro i g hg hi
   obtain ⟨y, hy⟩ := hsome i hi
   obtain ⟨c, l, g1, arr, h1, h2, h3, h4, h5, h6, h7⟩ := hbox i y hy
   have := pin i c g1 h1 h4 hi
   rw [this] at hg
   simp only [Option.some.injEq] at hg
   subst hg
   exact ⟨c, h1, h4⟩
  let L2 : Lay := { A := fun g => L.A g ∨ (L'.A g ∧ (w.heap.size ≤ g ∨ T g)), own := fun j => if j < n then (if j ∈ O then L'.own (O.idxOf j) else L.own j) else if j - n + O.length < max O.length k' then L'.own (j - n + O.length) else none, box := L.box }
  have own_cases : ∀ j g, L2.own j = some g → (j < n ∧ j ∉ O ∧ L.own j = some g) ∨ (j < n ∧ j ∈ O ∧ L'.own (O.idxOf j) = some g) ∨ (n ≤ j ∧ j - n + O.length < max O.length k' ∧ L'.own (j - n + O.length) = some g) := by
   intro j g hg
   simp only [L2] at hg
   split at hg
   ·rename_i h1
    split at hg
    ·rename_i h2; exact .inr (.inl ⟨h1, h2, hg⟩)
    ·rename_i h2; exact .inl ⟨h1, h2, hg⟩
   ·rename_i h1
    split at hg
    ·rename_i h2; exact .inr (.inr ⟨by omega, h2, hg⟩)
    ·cases hg
  have notT : ∀ j g, j ∉ O → L.own j = some g → ¬ T g := by
   rintro j g hj h1 (⟨i, hi, h2⟩ | ⟨b, hb, h2⟩)
   ·exact hj (W.injO i j g h2 h1 ▸ hi)
   ·exact W.dis j b g h1 h2
  have newO : ∀ j g, L'.own j = some g → g < w'.heap.size ∧ (w.heap.size ≤ g ∨ T g) ∧ ¬ L'.A g := fun j g hg => W'.own j g hg
  have wf : Wf C (n + (k' - O.length)) L2 w' := {
   nidO := fun j g hg => by
    rcases own_cases j g hg with h1 | h1 | h1
    ·omega
    ·omega
    ·omega
   nidB := fun b g hg => by have := W.nidB b g hg; have h1 : b < n := this; omega
   own := fun j g hg => by
    rcases own_cases j g hg with ⟨_, h1, h2⟩ | ⟨_, _, h2⟩ | ⟨_, _, h2⟩
    ·obtain ⟨h3, h4, h5⟩ := W.own j g h2
     refine ⟨by omega, h4, ?_⟩
     rintro (h6 | ⟨_, h6 | h6⟩)
     ·exact h5 h6
     ·omega
     ·exact notT j g h1 h2 h6
    all_goals
     obtain ⟨h3, h4, h5⟩ := newO _ g h2
     refine ⟨h3, ?_, ?_⟩
     ·rcases h4 with h4 | h4
      ·left; omega
      ·exact (hTlt g h4).2.1
     ·rintro (h6 | ⟨h6, _⟩)
      ·rcases h4 with h4 | h4
       ·have := W.old g h6; omega
       ·exact (hTlt g h4).2.2 h6
      ·exact h5 h6
   boxW := fun b g hg => by
    have hg : L.box b = some g := hg
    obtain ⟨h3, h4, h5⟩ := W.boxW b g hg
    refine ⟨by omega, h4, ?_⟩
    rintro (h6 | ⟨h6, h7 | h7⟩)
    ·exact h5 h6
    ·omega
    ·rcases h7 with ⟨i, _, h8⟩ | ⟨c, hc, h8⟩
     ·exact W.dis i b g h8 hg
     ·have hb := W.injB b c g hg h8
      subst hb
      have h9 := zC Bx b hc
      have h10 : Bx.idxOf b < B.length := by rw [← hlen]; exact List.idxOf_lt_length_of_mem hc
      exact (W'.boxW _ g (pin _ b g h9 hg h10)).2.2 h6
   injO := fun i j g hi hj => by
    have cl : ∀ m g, L.own m = some g → m ∉ O → (w.heap.size ≤ g ∨ T g) → False := fun m g h1 h2 h3 => by
     rcases h3 with h3 | h3
     ·have := (W.own m g h1).1; omega
     ·exact notT m g h2 h1 h3
    have ix : ∀ a b : Nat, a ∈ O → b ∈ O → O.idxOf a = O.idxOf b → a = b := fun a b h1 h2 h3 => by
     have e1 := zC O a h1
     have e2 := zC O b h2
     rw [h3, e2] at e1
     exact (Option.some.inj e1).symm
    have il : ∀ a : Nat, a ∈ O → O.idxOf a < O.length := fun a h => List.idxOf_lt_length_of_mem h
    rcases own_cases i g hi with ⟨_, h1, h2⟩ | ⟨_, h1, h2⟩ | ⟨h0, h1, h2⟩ <;> rcases own_cases j g hj with ⟨_, h3, h4⟩ | ⟨_, h3, h4⟩ | ⟨h5, h3, h4⟩
    ·exact W.injO i j g h2 h4
    ·exact (cl i g h2 h1 (newO _ g h4).2.1).elim
    ·exact (cl i g h2 h1 (newO _ g h4).2.1).elim
    ·exact (cl j g h4 h3 (newO _ g h2).2.1).elim
    ·exact ix i j h1 h3 (W'.injO _ _ g h2 h4)
    ·have := W'.injO _ _ g h2 h4; have := il i h1; omega
    ·exact (cl j g h4 h3 (newO _ g h2).2.1).elim
    ·have := W'.injO _ _ g h2 h4; have := il j h3; omega
    ·have := W'.injO _ _ g h2 h4; omega
   injB := W.injB
   dis := fun i b g hi hb => by
    have hb : L.box b = some g := hb
    have key : ∀ m, L'.own m = some g → False := fun m hm => by
     obtain ⟨h1, h2, h3⟩ := newO m g hm
     rcases h2 with h2 | h2
     ·have := (W.boxW b g hb).1; omega
     ·rcases h2 with ⟨i, _, h4⟩ | ⟨c, hc, h4⟩
      ·exact W.dis i b g h4 hb
      ·have hbc := W.injB b c g hb h4
       subst hbc
       have h9 := zC Bx b hc
       have h10 : Bx.idxOf b < B.length := by rw [← hlen]; exact List.idxOf_lt_length_of_mem hc
       exact W'.dis m _ g hm (pin _ b g h9 hb h10)
    rcases own_cases i g hi with ⟨_, h1, h2⟩ | ⟨_, _, h2⟩ | ⟨_, _, h2⟩
    ·exact W.dis i b g h2 hb
    ·exact key _ h2
    ·exact key _ h2
   old := fun g hg => by
    rcases hg with h1 | ⟨h1, _⟩
    ·have := W.old g h1; omega
    ·exact W'.old g h1
   frz := fun g hg => by
    rcases hg with h1 | ⟨h1, h2 | h2⟩
    ·exact W.frz g h1
    ·right; left; omega
    ·exact .inr (hTlt g h2).2.1 }
  have same : ∀ g, g < w.heap.size → ¬ T g → w'.heap[g]? = w.heap[g]? := fun g h1 h2 => hk0.block g h1 h2
  have K : Trans (fun t => match t with | .own i _ => O.contains i | _ => false) (fun _ => false) id id L L2 w w' := by
   refine ⟨rfl, fun g hg => ⟨.inl hg, .of (same g (W.old g hg) fun h1 => (hTlt g h1).2.2 hg)⟩, fun i e hi g hg => ⟨⟨rfl, ?_⟩, ?_⟩, fun b _ g hg => hg⟩
   ·have h1 : i ∉ O := by simpa using hi
    have h2 : i < n := W.nidO i g hg
    simp only [L2, if_pos h2, if_neg h1, hg]
   ·have h1 : i ∉ O := by simpa using hi
    exact same g (W.own i g hg).1 (notT i g h1 hg)
  have K2 : Trans (Tag.outB O.length k') (fun b => !decide (b < B.length)) (anz O n) (anA Bx) L' L2 w' w' := by
   refine ⟨rfl, fun g hg => ⟨?_, .of rfl⟩, fun j e hj g hg => ⟨⟨rfl, ?_⟩, rfl⟩, fun b hb g hg => ?_⟩
   ·rcases W'.frz g hg with h1 | h1 | h1
    ·exact .inl h1
    ·exact .inr ⟨hg, .inl h1⟩
    ·exact .inr ⟨hg, .inr h1⟩
   ·have hj : j < max O.length k' := by simpa [Tag.outB] using hj
    show L2.own (if j < O.length then O.getD j 0 else n + (j - O.length)) = some g
    by_cases h1 : j < O.length
    ·rw [if_pos h1]
     have e1 : O.getD j 0 = O[j] := by simp [List.getD, h1]
     have h2 : O[j] ∈ O := List.getElem_mem h1
     have h3 : O[j] < n := hOn _ h2
     rw [e1]
     simp only [L2, if_pos h3, if_pos h2, List.Nodup.idxOf_getElem hO j h1, hg]
    ·rw [if_neg h1]
     have h2 : ¬ n + (j - O.length) < n := by omega
     have h3 : n + (j - O.length) - n + O.length = j := by omega
     simp only [L2, if_neg h2, h3, if_pos hj, hg]
   ·have hb : b < B.length := by simpa using hb
    obtain ⟨c, h1, h2⟩ := hin b g hg hb
    show L.box (Bx.getD b 0) = some g
    rw [List.getD_eq_getElem?_getD, h1]
    exact h2
  refine ⟨L2, ⟨S.defers, S.size, fun t => ?_, fun t => ?_, fun b cs hb => ?_, wf, hkp w' hk0⟩, hx.trans rfl K2 hrok⟩
  ·show Rep L2 w' (aoz O e t) _
   rw [aoH]; exact aoy K (S.env t)
  ·show Rep L2 w' (aoz O h t) _
   rw [aoH]; exact aoy K (S.hid t)
  ·have hb : aoI Bx (aoJ O Bx n (aoD Bx bx) B') (aoC O bx) b = some cs := hb
   rw [aoV _ _ _ _ (by simp [aoJ, hl, hlen])] at hb
   split at hb
   ·rename_i hm
    have h9 := zC Bx b hm
    have h10 : Bx.idxOf b < B.length := by rw [← hlen]; exact List.idxOf_lt_length_of_mem hm
    generalize Bx.idxOf b = i at hb h9 h10
    simp only [aoJ, List.getElem?_map, Option.map_eq_some_iff] at hb
    obtain ⟨y, hy, rfl⟩ := hb
    obtain ⟨g, arr, h1, h2, h3⟩ := S'.box i (y.1, y.2.map (Pc.inst u)) (by simp [lB, aoB, hy])
    obtain ⟨c, h4, h5⟩ := hin i g h1 h10
    rw [h9] at h4
    simp only [Option.some.injEq] at h4
    subst h4
    refine ⟨g, arr, h5, h2, ?_⟩
    have hyok : ∀ p ∈ y.2, p.okB O.length k' B.length = true := by
     have := List.all_eq_true.1 hok y (List.mem_of_getElem? hy)
     exact fun p hp => List.all_eq_true.1 this p hp
    have hcell : ∀ i c, Rep L2 w' (Q7 O (aoD Bx bx i c)) (u i c) := by
     intro i c
     refine aoy K ?_
     unfold aoD
     cases hi : Bx[i]? with
     | none => trivial
     | some b1 =>
      simp only [Option.bind_some]
      cases hb1 : bx b1 with
      | none => trivial
      | some z =>
       show Rep L w (z.2.getD c .top) (u i c)
       obtain ⟨g1, arr1, k1, k2, k3⟩ := S.box b1 z hb1
       have e1 : blk i = g1 := by simp only [blk, hi, Option.bind_some, k1, Option.getD_some]
       have e2 : u i c = arr1.getD c undef := by simp only [u, e1, k2]
       rw [e2, List.getD_eq_getElem?_getD]
       cases hc : z.2[c]? with
       | none => trivial
       | some v =>
        obtain ⟨x1, k4, k5⟩ := k3.get hc
        simp only [Array.getElem?_toList] at k4
        simpa [Array.getD_eq_getD_getElem?, k4] using k5
    have fin : ∀ (ps : List Pc) (us : List Value), (∀ p ∈ ps, p.okB O.length k' B.length = true) → Reps L' w' (ps.map (Pc.inst u)) us → Reps L2 w' (ps.map (Pc.back O Bx n (aoD Bx bx))) us := by
     intro ps
     induction ps with
     | nil => intro us _ h; exact h
     | cons p ps ih =>
      rintro us hp ⟨x, r, rfl, k1, k2⟩
      refine ⟨x, r, rfl, ?_, ih r (fun q hq => hp q (List.mem_cons_of_mem _ hq)) k2⟩
      have hp0 := hp p (by simp)
      cases p with
      | v q =>
       have k1 : Rep L' w' q x := k1
       exact k1.trans rfl K2 (by simpa [Pc.okB] using hp0)
      | h i c =>
       have k1 : x = u i c := k1
       subst k1
       exact hcell i c
    exact fin y.2 arr.toList hyok h3
   ·rename_i hm
    rw [aoU] at hb
    simp only [Option.map_eq_some_iff] at hb
    obtain ⟨y, hy, rfl⟩ := hb
    obtain ⟨g, arr, h1, h2, h3⟩ := S.box b y hy
    have hnt : ¬ T g := by
     rintro (⟨i, _, h4⟩ | ⟨c, hc, h4⟩)
     ·exact W.dis i b g h4 h1
     ·exact hm (W.injB c b g h4 h1 ▸ hc)
    refine ⟨g, arr, h1, (same g (W.boxW b g h1).1 hnt).trans h2, ?_⟩
    exact Jg (fun v x hv => aoy K hv) h3
 rcases hg u C0 L0 a0 w cargs hT0 S0 hr0 with ⟨h1, h2⟩ | ⟨x, w', L', h1, h2, h3⟩
 ·exact .inl ⟨h1, h2.mono fun _ w' ⟨x, L', he, hs, hr⟩ => by
   obtain ⟨L2, k1, k2⟩ := post w' L' x hs hr
   exact ⟨x, L2, he, k1, k2⟩⟩
 ·obtain ⟨L2, k1, k2⟩ := post w' L' x h2 h3
  exact .inr ⟨x, w', L2, h1, k1, k2⟩
end Go.Pg
end
section
namespace Go.Pg
open Go
section
variable {α : Type} [DecidableEq α]
def spl (c : α) : List α → List (List α)
 | [] => [[]]
 | a :: l => if a = c then [] :: spl c l else match spl c l with | h :: t => (a :: h) :: t | [] => [[a]]
theorem Ig (c : α) : spl c ([] : List α) = [[]] := rfl
theorem sO (c : α) (l : List α) : spl c (c :: l) = [] :: spl c l := by simp [spl]
theorem uG (c : α) (l : List α) : ∃ h t, spl c l = h :: t := by
 cases l with
 | nil => exact ⟨_, _, rfl⟩
 | cons a l =>
  simp only [spl]
  split
  ·exact ⟨_, _, rfl⟩
  ·split <;> exact ⟨_, _, rfl⟩
theorem pU (c a : α) (l : List α) (h : a ≠ c) {x : List α} {t : List (List α)} (hl : spl c l = x :: t) : spl c (a :: l) = (a :: x) :: t := by
 simp [spl, h, hl]
theorem aeG (c : α) : ∀ (a b : List α), spl c (a ++ c :: b) = spl c a ++ spl c b := by
 intro a
 induction a with
 | nil => intro b; simp [sO, Ig]
 | cons x a ih =>
  intro b
  by_cases hx : x = c
  ·subst hx; rw [List.cons_append, sO, sO, ih]; rfl
  ·obtain ⟨h, t, e⟩ := uG c a
   rw [List.cons_append, pU c x _ hx (show spl c (a ++ c :: b) = h :: (t ++ spl c b) by rw [ih, e]; rfl), pU c x a hx e]
   rfl
theorem yh (c : α) (l : List α) (h : ∀ x ∈ l, x ≠ c) : spl c l = [l] := by
 induction l with
 | nil => rfl
 | cons a l ih => exact pU c a l (h a (by simp)) (ih fun x hx => h x (by simp [hx]))
theorem OV (c : α) (a b : List α) (h : ∀ x ∈ a, x ≠ c) : spl c (a ++ c :: b) = a :: spl c b := by rw [aeG, yh c a h]; rfl
theorem aeH (c : α) : ∀ (l : List α) (p : List α), p ∈ spl c l → ∀ x ∈ p, x ∈ l ∧ x ≠ c := by
 intro l
 induction l with
 | nil => intro p hp; simp [Ig] at hp; subst hp; intro x hx; cases hx
 | cons a l ih =>
  intro p hp x hx
  by_cases ha : a = c
  ·subst ha
   rw [sO] at hp
   rcases List.mem_cons.1 hp with rfl | hp
   ·cases hx
   ·have := ih p hp x hx; exact ⟨by simp [this.1], this.2⟩
  ·obtain ⟨y, t, ey⟩ := uG c l
   rw [pU c a l ha ey] at hp
   rcases List.mem_cons.1 hp with rfl | hp
   ·rcases List.mem_cons.1 hx with rfl | hx
    ·exact ⟨by simp, ha⟩
    ·have := ih y (by rw [ey]; simp) x hx; exact ⟨by simp [this.1], this.2⟩
   ·have := ih p (by rw [ey]; simp [hp]) x hx; exact ⟨by simp [this.1], this.2⟩
theorem Ih (c : α) : ∀ (l : List α), (spl c l).length ≤ l.length + 1 := by
 intro l
 induction l with
 | nil => simp [Ig]
 | cons a l ih =>
  obtain ⟨y, t, ey⟩ := uG c l
  by_cases ha : a = c
  ·subst ha; rw [sO]; simp; omega
  ·rw [pU c a l ha ey]; rw [ey] at ih; simp at ih ⊢; omega
end
theorem aeI {α β : Type} [DecidableEq α] [DecidableEq β] (f : α → β) (c : α) (l : List α) (hf : ∀ x ∈ l, f x = f c → x = c) : spl (f c) (l.map f) = (spl c l).map (List.map f) := by
 induction l with
 | nil => rfl
 | cons a l ih =>
  have ih := ih fun x hx => hf x (by simp [hx])
  obtain ⟨y, t, ey⟩ := uG c l
  by_cases ha : a = c
  ·subst ha
   rw [List.map_cons, sO, sO, ih]; rfl
  ·have hfa : f a ≠ f c := fun h => ha (hf a (by simp) h)
   rw [List.map_cons, pU (f c) (f a) _ hfa (by rw [ih, ey]; rfl), pU c a l ha ey]; rfl
theorem aiA (c : UInt8) : ∀ u : List UInt8, (Lib.index u [c] = -1 ∧ ∀ x ∈ u, x ≠ c) ∨ ∃ a b, u = a ++ c :: b ∧ (∀ x ∈ a, x ≠ c) ∧ Lib.index u [c] = (a.length : Nat) := by
 intro u
 induction u with
 | nil => exact .inl ⟨rfl, fun x hx => by cases hx⟩
 | cons x u ih =>
  by_cases hx : x = c
  ·subst hx
   refine .inr ⟨[], u, rfl, fun y hy => (by cases hy), ?_⟩
   unfold Lib.index
   have hp : [x].isPrefixOf (x :: u) = true := by
    show (x == x && [].isPrefixOf u) = true
    simp
   rw [hp]; rfl
  ·have hp : [c].isPrefixOf (x :: u) = false := by
    show (c == x && [].isPrefixOf u) = false
    rw [beq_eq_false_iff_ne.2 (Ne.symm hx)]; rfl
   rcases ih with ⟨h1, h2⟩ | ⟨a, b, rfl, h2, h3⟩
   ·refine .inl ⟨?_, fun y hy => ?_⟩
    ·unfold Lib.index
     rw [hp, h1]; rfl
    ·rcases List.mem_cons.1 hy with rfl | hy
     ·exact hx
     ·exact h2 y hy
   ·refine .inr ⟨x :: a, b, rfl, fun y hy => ?_, ?_⟩
    ·rcases List.mem_cons.1 hy with rfl | hy
     ·exact hx
     ·exact h2 y hy
    ·unfold Lib.index
     rw [hp, h3]
     have : ¬ ((a.length : Int) == -1) = true := by rw [beq_iff_eq]; omega
     rw [if_neg (by simp), if_neg this]
     simp
theorem OW (c : UInt8) : ∀ (k : Nat) (u : List UInt8), Lib.count u [c] = k → Lib.splitK [c] 0 k u = spl c u := by
 intro k
 induction k with
 | zero =>
  intro u h
  rcases aiA c u with ⟨h1, h2⟩ | ⟨a, b, rfl, h2, h3⟩
  ·rw [yh c u h2]; rfl
  ·rw [Lib.count_hit (by simp) h3] at h; omega
 | succ k ih =>
  intro u h
  rcases aiA c u with ⟨h1, h2⟩ | ⟨a, b, rfl, h2, h3⟩
  ·rw [Lib.count_miss h1] at h; omega
  ·rw [Lib.count_hit (by simp) h3] at h
   have hd : (a ++ c :: b).drop (a.length + [c].length) = b := by simp
   rw [hd] at h
   have := ih b (by omega)
   unfold Lib.splitK
   rw [h3]
   have hm : ¬ (((a.length : Nat) : Int) == -1) = true := by rw [beq_iff_eq]; omega
   rw [if_neg hm, Int.toNat_natCast, Nat.add_zero, hd, this, OV c a b h2]
   simp
theorem oU (l : List Nat) : (sB l).data.toList = l.map UInt8.ofNat := by simp [sB]
theorem zO {a b : Nat} (ha : a < 256) (hb : b < 256) (h : UInt8.ofNat a = UInt8.ofNat b) : a = b := by
 have := congrArg UInt8.toNat h
 rw [UInt8.toNat_ofNat', UInt8.toNat_ofNat'] at this
 omega
theorem Zy (l : List Nat) (c : Nat) (ho : oct l) (hc : c < 256) : Lib.splitB (sB [c]) 0 (Lib.countB (sB l) (sB [c])) (sB l) = (spl c l).map sB := by
 have h1 := Lib.splitB_data (sB [c]) 0 (Lib.countB (sB l) (sB [c])) (sB l)
 rw [oU, oU] at h1
 have h2 : Lib.countB (sB l) (sB [c]) = Lib.count (l.map UInt8.ofNat) [UInt8.ofNat c] := by
  unfold Lib.countB
  rw [oU, oU]; rfl
 have h3 : Lib.splitK ([c].map UInt8.ofNat) 0 (Lib.countB (sB l) (sB [c])) (l.map UInt8.ofNat) = spl (UInt8.ofNat c) (l.map UInt8.ofNat) := OW _ _ _ h2.symm
 rw [h3, aeI UInt8.ofNat c l (fun x hx h => zO (ho x hx) hc h)] at h1
 have h4 : ((spl c l).map sB).map (fun z : ByteArray => z.data.toList) = (spl c l).map (List.map UInt8.ofNat) := by
  rw [List.map_map]
  refine List.map_congr_left fun x _ => ?_
  exact oU x
 rw [← h4] at h1
 refine List.map_inj_right (f := fun z : ByteArray => z.data.toList) ?_ |>.1 h1
 intro x y h
 exact ByteArray.ext (Array.ext' h)
def bef (c : Nat) (l : List Nat) : List Nat := l.takeWhile (· != c)
theorem Zz (c : Nat) (l : List Nat) (h : ∀ x ∈ l, x ≠ c) : bef c l = l := by
 induction l with
 | nil => rfl
 | cons a l ih =>
  have := h a (by simp)
  simp only [bef, List.takeWhile_cons]
  rw [if_pos (by simpa using this)]
  congr 1
  exact ih fun x hx => h x (by simp [hx])
theorem aiB (c : Nat) (a b : List Nat) (h : ∀ x ∈ a, x ≠ c) : bef c (a ++ c :: b) = a := by
 induction a with
 | nil => simp [bef]
 | cons x a ih =>
  have := h x (by simp)
  simp only [bef, List.cons_append, List.takeWhile_cons]
  rw [if_pos (by simpa using this)]
  congr 1
  exact ih fun y hy => h y (by simp [hy])
theorem aiC (l : List Nat) (c : Nat) (ho : oct l) (hc : c < 256) : (⟨(Lib.cut (sB l).data.toList (sB [c]).data.toList).1.toArray⟩ : ByteArray) = sB (bef c l) := by
 rw [oU, oU]
 unfold Lib.cut
 rcases aiA (UInt8.ofNat c) (l.map UInt8.ofNat) with ⟨h1, h2⟩ | ⟨a, b, h1, h2, h3⟩
 ·rw [show ([c].map UInt8.ofNat) = [UInt8.ofNat c] from rfl, h1, if_neg (by omega)]
  have : ∀ x ∈ l, x ≠ c := fun x hx e => h2 _ (List.mem_map.2 ⟨x, hx, rfl⟩) (by rw [e])
  rw [Zz c l this]
  rfl
 ·rw [show ([c].map UInt8.ofNat) = [UInt8.ofNat c] from rfl, h3, if_pos (by omega)]
  simp only [Int.toNat_natCast]
  have e1 : l.map UInt8.ofNat = a ++ UInt8.ofNat c :: b := h1
  obtain ⟨l1, l2, rfl, e2, e3⟩ := List.map_eq_append_iff.1 e1
  obtain ⟨y, l3, rfl, e4, e5⟩ := List.map_eq_cons_iff.1 e3
  have hy : y = c := zO (ho y (by simp)) hc e4
  subst hy
  have hne : ∀ x ∈ l1, x ≠ y := by
   intro x hx e
   subst e
   exact h2 (UInt8.ofNat x) (by rw [← e2]; exact List.mem_map.2 ⟨x, hx, rfl⟩) rfl
  rw [aiB y l1 l3 hne, h1, List.take_left, ← e2]
  rfl
def trm (c : Nat) (l : List Nat) : List Nat := if l.getLast? = some c then l.dropLast else l
theorem aeJ (l : List Nat) (c : Nat) (ho : oct l) (hc : c < 256) : (⟨(Lib.trimSuffix (sB l).data.toList (sB [c]).data.toList).toArray⟩ : ByteArray) = sB (trm c l) := by
 rw [oU, oU]
 unfold Lib.trimSuffix Lib.hasSuffix trm
 have key : [c].map UInt8.ofNat = [UInt8.ofNat c] := rfl
 rw [key]
 rcases List.eq_nil_or_concat l with rfl | ⟨L, b, rfl⟩
 ·rfl
 ·rw [List.concat_eq_append]
  have hb : b < 256 := ho b (by simp)
  have e1 : (L ++ [b]).getLast? = some b := by simp
  have e2 : ([UInt8.ofNat c].isSuffixOf ((L ++ [b]).map UInt8.ofNat) = true) ↔ b = c := by
   rw [List.isSuffixOf_iff_suffix, List.map_append]
   constructor
   ·rintro ⟨t, ht⟩
    have := List.append_inj_right' ht (by simp)
    simp only [List.map_cons, List.map_nil, List.cons.injEq, and_true] at this
    exact (zO hc hb this).symm
   ·rintro rfl
    exact ⟨_, rfl⟩
  rw [e1]
  by_cases hbc : b = c
  ·rw [if_pos (e2.2 hbc), if_pos (by rw [hbc])]
   simp [sB]
  ·rw [if_neg (fun h => hbc (e2.1 h)), if_neg (by simpa using hbc)]
   simp [sB]
end Go.Pg
end
namespace Go.Pg
open Go
def yj (w : List Nat) : Bool := !w.isEmpty
theorem aeK (w : List Nat) : yj w = decide (w ≠ []) := by cases w <;> simp [yj]
def fld (l : List Nat) : List (List Nat) := (spl 32 (bef 35 l)).filter yj
theorem aeL (c : Nat) (l : List Nat) : (bef c l).length ≤ l.length := by
 unfold bef
 induction l with
 | nil => simp
 | cons a l ih =>
  rw [List.takeWhile_cons]
  split
  ·simp; omega
  ·simp
theorem Q8 (c : Nat) (l : List Nat) : ∀ x ∈ bef c l, x ∈ l ∧ x ≠ c := by
 unfold bef
 induction l with
 | nil => intro x hx; cases hx
 | cons a l ih =>
  intro x hx
  rw [List.takeWhile_cons] at hx
  split at hx
  ·rename_i ha
   rcases List.mem_cons.1 hx with rfl | hx
   ·exact ⟨by simp, by simpa using ha⟩
   ·have := ih x hx; exact ⟨by simp [this.1], this.2⟩
  ·cases hx
def jt (l : List (List Nat)) : List Nat := (l.map (32 :: ·)).flatten
def jn : List (List Nat) → List Nat
 | [] => []
 | a :: l => a ++ jt l
theorem ZA : jt [] = [] := rfl
theorem sQ (w : List Nat) (l : List (List Nat)) : jt (w :: l) = 32 :: (w ++ jt l) := by simp [jt]
theorem aiD (a b : List (List Nat)) : jt (a ++ b) = jt a ++ jt b := by simp [jt]
theorem yl (w : List Nat) (l : List (List Nat)) : jn (w :: l) = w ++ jt l := rfl
theorem Ii {a : List (List Nat)} (h : a ≠ []) (b : List (List Nat)) : jn (a ++ b) = jn a ++ jt b := by
 cases a with
 | nil => exact absurd rfl h
 | cons x xs => simp [jn, aiD]
theorem aeM {a : List (List Nat)} (h : a ≠ []) (w : List Nat) : jn (a ++ [w]) = jn a ++ 32 :: w := by rw [Ii h, sQ]; simp [jt]
theorem ag7 {a : List (List Nat)} (h : a ≠ []) (b : List (List Nat)) : jn (jn a :: b) = jn (a ++ b) := by rw [Ii h]; rfl
def tot (l : List (List Nat)) : Nat := (l.map fun w => w.length + 1).sum
theorem dL : tot [] = 0 := rfl
theorem bz (w : List Nat) (l : List (List Nat)) : tot (w :: l) = w.length + 1 + tot l := by simp [tot]
theorem yw (a b : List (List Nat)) : tot (a ++ b) = tot a + tot b := by simp [tot]
theorem Q9 (l : List (List Nat)) : l.length ≤ tot l := by
 induction l with
 | nil => exact Nat.le_refl _
 | cons w l ih => rw [bz, List.length_cons]; omega
theorem aiE (l : List (List Nat)) : (jt l).length = tot l := by
 induction l with
 | nil => rfl
 | cons w l ih => rw [sQ, bz, ← ih]; simp; omega
theorem xg (l : List (List Nat)) : (jn l).length ≤ tot l := by
 cases l with
 | nil => exact Nat.le_refl _
 | cons w l => rw [yl, bz, ← aiE]; simp <;> omega
theorem KH (l : List (List Nat)) (i : Nat) : tot (l.take i) ≤ tot l := by
 have := congrArg tot (List.take_append_drop i l)
 rw [yw] at this
 omega
theorem KI (l : List (List Nat)) (i : Nat) : (l.getD i []).length ≤ tot l := by
 induction l generalizing i with
 | nil => simp [List.getD]
 | cons w l ih =>
  cases i with
  | zero => rw [bz]; show w.length ≤ _; omega
  | succ i => have := ih i; simp only [List.getD_cons_succ, bz]; omega
theorem FX {l : List (List Nat)} {n : Nat} (h : ∀ w ∈ l, w.length ≤ n) : tot l ≤ l.length * (n + 1) := by
 induction l with
 | nil => simp [dL]
 | cons w l ih =>
  have h1 := h w (by simp)
  have h2 := ih fun x hx => h x (by simp [hx])
  rw [bz, List.length_cons, Nat.add_mul]
  omega
theorem aiF {l : List (List Nat)} (h : ∀ w ∈ l, oct w) : oct (jt l) := by
 induction l with
 | nil => exact dV
 | cons w l ih => rw [sQ]; exact pM (by omega) (bM (h w (by simp)) (ih fun x hx => h x (by simp [hx])))
theorem aiG {l : List (List Nat)} (h : ∀ w ∈ l, oct w) : oct (jn l) := by
 cases l with
 | nil => exact dV
 | cons w l => exact bM (h w (by simp)) (aiF fun x hx => h x (by simp [hx]))
theorem U6 (l : List (List Nat)) (i : Nat) (h : i < l.length) : l.take (i + 1) = l.take i ++ [l.getD i []] := by
 rw [List.take_succ_eq_append_getElem h]; simp [List.getD, h]
theorem aeN {l : List (List Nat)} {i : Nat} (h : i < l.length) (h0 : 0 < i) : jn (l.take (i + 1)) = jn (l.take i) ++ 32 :: l.getD i [] := by
 rw [U6 l i h, aeM]
 intro e
 have h2 : (l.take i).length = 0 := by rw [e]; rfl
 rw [List.length_take] at h2
 omega
theorem ZB {l : List (List Nat)} (h : 0 < l.length) : jn (l.take 1) = l.getD 0 [] := by
 cases l with
 | nil => simp at h
 | cons w l => simp [jn, jt, List.getD]
theorem Rf (l : List (List Nat)) : (⟨(Lib.join ((l.map sB).map (·.data.toList)) (sB [32]).data.toList).toArray⟩ : ByteArray) = sB (jn l) := by
 have hd : ∀ w : List Nat, (sB w).data.toList = w.map UInt8.ofNat := fun w => by simp [sB]
 have ht : ∀ l : List (List Nat), Lib.joinTail [32] ((l.map sB).map (·.data.toList)) = (jt l).map UInt8.ofNat := by
  intro l
  induction l with
  | nil => rfl
  | cons w l ih =>
   simp only [Lib.joinTail, List.map_cons, List.flatten_cons, sQ, List.map_append] at ih ⊢
   rw [ih, hd]
   rfl
 have h32 : (sB [32]).data.toList = [32] := rfl
 rw [h32]
 apply ByteArray.ext
 apply Array.ext'
 cases l with
 | nil => rfl
 | cons w l =>
  simp only [List.map_cons, Lib.join_cons]
  have := ht l
  simp only [List.map_map] at this
  simp only [List.map_map, this, hd]
  simp [sB, jn]
theorem aiH {l : List (List Nat)} (hl : l ≠ []) (h : ∀ w ∈ l, ∀ x ∈ w, x ≠ 32) : spl 32 (jn l) = l := by
 induction l with
 | nil => exact absurd rfl hl
 | cons w l ih =>
  cases l with
  | nil => rw [yl, ZA, List.append_nil]; exact yh _ _ (h w (by simp))
  | cons v l =>
   have : jn (w :: v :: l) = w ++ 32 :: jn (v :: l) := by rw [yl, sQ, yl]
   rw [this, OV _ _ _ (h w (by simp)), ih (by simp) fun x hx => h x (by simp [hx])]
end Go.Pg
namespace Go.Proofs.YtjiolbcdfgclaaaGreatDoor
open Go Go.Pg
theorem dqz {p : Prop} (h : p := by first | assumption | omega | (simp only [Fits, maxLen, pgq] at *; omega)) : p := h
def pgz := aI pgo (aI pgb (aI tyf @eG))
def aiI := aI pgo (aI pgb tyf)
theorem rT {P : Program} {rs : List ResultVar} {r r0 : V} {s : St} (l : List Nat) (hr : r0.map (sF l) id = r)
  (h : pJ P s rs = some r0 := by first | exact aG _ _ _ | exact jq _ _ _ _ | exact wZ _ _ _ _ _ | exact zL _ _ _ _ _ _ | (simp (disch := first | exact dqz | fail) only [pgr, pgo, tyf, simprocAttr]; rfl))
  (hl : l.Nodup := by decide) (hi : r0.any (Tag.notIn l) (fun _ => true) false = false := by simp only [pgo, simprocAttr]) : UG P rs r s := eU l r0 h hl hi hr
theorem rE {P : Program} {rs : List ResultVar} {r r0 : V} {s : St} (l : List Nat)
  (h : pJ P s rs = some r0 := by first | exact aG _ _ _ | exact jq _ _ _ _ | exact wZ _ _ _ _ _ | exact zL _ _ _ _ _ _ | (simp (disch := first | exact dqz | fail) only [pgr, pgo, tyf, simprocAttr]; rfl))
  (hl : l.Nodup := by decide) (hi : r0.any (Tag.notIn l) (fun _ => true) false = false := by simp only [pgo, simprocAttr]) (hr : r0.map (sF l) id = r := by first | rfl | (simp only [pgo, simprocAttr]; done)) : UG P rs r s := eU l r0 h hl hi hr
def Ids (l : List Nat) : Prop := True
theorem ids (l : List Nat) : Ids l := trivial
theorem ah : Ids [] := trivial
theorem rI {P : Program} {rs : List ResultVar} {r r0 : V} {s : St} {l : List Nat} (hi0 : Ids l)
  (h : pJ P s rs = some r0 := by first | exact aG _ _ _ | exact jq _ _ _ _ | exact wZ _ _ _ _ _ | exact zL _ _ _ _ _ _ | (simp (disch := first | exact dqz | fail) only [pgr, pgo, tyf, simprocAttr]; rfl))
  (hl : l.Nodup := by decide) (hi : r0.any (Tag.notIn l) (fun _ => true) false = false := by simp only [pgo, simprocAttr]) (hr : r0.map (sF l) id = r := by first | rfl | (simp only [pgo, simprocAttr]; done)) : UG P rs r s := eU l r0 h hl hi hr
theorem cU {P : Program} [Tb P] {g : FuncId} {args : List Operand} {d : Option Nat} {s : St} {K : Kd → St → Prop} {vs : List V} {r : V} (hg : Pg.Good P g vs r) (hK : K (kc (.fn g [] [] :: args.map s.ev) [] r) (St.put { s with nid := s.nid + r.idb } d (r.shift s.nid)))
  (hvs : (args.map s.ev).map V.erase = vs := by exact rfl) (h1 : noRefs (args.map s.ev) = true := by exact rfl) (h2 : r.noRef = true := by exact rfl) (h3 : (ownFree (args.map s.ev) || r.flat) = true := by exact rfl) : gU P (.fn g [] []) args d s K := aP r hg hvs h1 h2 h3 hK
theorem cF {P : Program} [Tb P] {g : FuncId} {args : List Operand} {d : Option Nat} {s : St} {K : Kd → St → Prop} {vs : List V} {r : V} (hg : Pg.Good P g vs r) (hf : r.flat = true) (hK : K (kc (.fn g [] [] :: args.map s.ev) [] r) (St.put { s with nid := s.nid + r.idb } d (r.shift s.nid)))
  (hvs : (args.map s.ev).map V.erase = vs := by exact rfl) (h1 : noRefs (args.map s.ev) = true := by exact rfl) (h2 : r.noRef = true := by exact rfl) : gU P (.fn g [] []) args d s K := aP r hg hvs h1 h2 (by rw [Bool.or_eq_true]; exact .inr hf) hK
theorem cG {P : Program} [Tb P] {g : FuncId} {args : List Operand} {d : Option Nat} {s : St} {K : Kd → St → Prop} {vs : List V} (ids : List Nat) {r : V} (hg : Pg.Good P g vs r) (hK : K (kc (.fn g [] [] :: args.map s.ev) ids r) (St.put { s.freezeAll ids with nid := s.nid + r.idb } d (r.shift s.nid)))
  (hvs : (args.map (s.freezeAll ids).ev).map V.erase = vs := by exact rfl) (h1 : noRefs (args.map (s.freezeAll ids).ev) = true := by exact rfl) (h2 : r.noRef = true := by exact rfl) (h3 : (ownFree (args.map (s.freezeAll ids).ev) || r.flat) = true := by exact rfl) : gU P (.fn g [] []) args d s K := U1 ids r hg hvs h1 h2 h3 hK
theorem cZ {P : Program} [Tb P] {g : FuncId} {args : List Operand} {d : Option Nat} {s s' : St} {K : Kd → St → Prop} {vs : List V} {r : V} (hg : Pg.GoodZ P g vs s s' r) (hK : K .z (s'.put d r)) (hvs : args.map s.ev = vs := by exact rfl) : gU P (.fn g [] []) args d s K := nT r hg hvs hK
theorem cY {P : Program} [Tb P] {g : FuncId} {fs cs : List V} {args : List Operand} {d : Option Nat} {s s' : St} {K : Kd → St → Prop} {vs : List V} {r : V} (hg : Pg.GoodZ P g vs s s' r) (hK : K .z (s'.put d r)) (hvs : fs ++ args.map s.ev ++ cs = vs := by exact rfl) : gU P (.fn g fs cs) args d s K := yg r hg hvs hK
theorem cA {P : Program} [Tb P] {m : Nat} {g : FuncId} {fs cs : List V} {args : List Operand} {d : Option Nat} {s : St} {K : Ka → St → Prop} {vs : List V} {r : V} (hg : Pg.Good P g vs r) (hK : K .q (St.put s d (r.shift m))) (hvs : (fs ++ args.map s.ev ++ cs).map V.erase = vs := by exact rfl) (h0 : ownFree (fs ++ cs) = true := by exact rfl) (h1 : noRefs (fs ++ args.map s.ev ++ cs) = true := by exact rfl)
  (h2 : r.noRef = true := by exact rfl) (h3 : (ownFree (args.map s.ev) || r.flat) = true := by exact rfl) (h5 : r.idb ≤ 1 := by exact Nat.le_of_ble_eq_true rfl) : nz P m (.fn g fs cs) args d s K := dZ r hg hvs h0 h1 h2 h3 h5 hK
theorem cAZ {P : Program} [Tb P] {m : Nat} {g : FuncId} {fs cs : List V} {args : List Operand} {d : Option Nat} {s s1 : St} {K : Ka → St → Prop} {vs : List V} {r : V} (hg : Pg.GoodZ P g vs s s1 r) (hK : K .z (s1.put d r)) (hvs : fs ++ args.map s.ev ++ cs = vs := by exact rfl) : nz P m (.fn g fs cs) args d s K := oO r hg hvs hK
theorem cK {ops : List Oper} {ks : List Kd} {q : Prop} (h2 : q) (h1 : zI ops ks = true := by kernel_rfl) : zI ops ks = true ∧ q := aig h1 h2
theorem cKA {ops : List Oper} {ks : List Ka} {q : Prop} (h2 : q) (h1 : Ia ops ks = true := by kernel_rfl) : Ia ops ks = true ∧ q := vP h1 h2
theorem gI {D : Dw} (hD : mZ Tryz.prog D) {f : FuncId} {fn : Func} {c : Code} {rs : List ResultVar} {args : List V} {r : V} (hf : Tryz.prog.funcs[f]? = some fn) (hrs : fn.results = rs.toArray) (h : wpS D Tryz.prog c (ac6 Tryz.prog rs r) (Jr args))
  (hb : fn.body = some c := by exact rfl) (hn : (fn.name == "runtime.NumGoroutine") = false := by kernel_rfl) (hfit : xK fn.ntmps c = true := by kernel_rfl) (hlen : args.length ≤ fn.ntmps := by exact Nat.le_of_ble_eq_true (by kernel_rfl)) : Pg.Good Tryz.prog f args r := dE hD hf hb hrs hn hfit hlen h
theorem gZ {D : Dw} (hD : mZ Tryz.prog D) {f : FuncId} {fn : Func} {c : Code} {rs : List ResultVar} {args : List V} {r : V} {s s' : St} (hf : Tryz.prog.funcs[f]? = some fn) (hrs : fn.results = rs.toArray) (h : wpS D Tryz.prog c (XC Tryz.prog rs s' r) (XB args s))
  (hb : fn.body = some c := by exact rfl) (hn : (fn.name == "runtime.NumGoroutine") = false := by kernel_rfl) (hfit : xK fn.ntmps c = true := by kernel_rfl) (hlen : args.length ≤ fn.ntmps := by exact Nat.le_of_ble_eq_true (by kernel_rfl)) : Pg.GoodZ Tryz.prog f args s s' r := AV hD hf hb hrs hn hfit hlen h
theorem oW (l : List Nat := []) : mZ Tryz.prog (dC l) := xW l mix
theorem oD (l : List Nat := []) : mZ Tryz.prog (Pg.dD l) := Zj l mix
theorem oG (l : List Nat := []) : mZ Tryz.prog (Pg.dG l) := Zv l mix
theorem tS {p q r : Prop} (hq : q) (hr : r) (h : q → r → p := by
  intro hq hr
  (with_reducible first | refine di (fun hc => ?_) (fun hc => ?_) | refine bK (fun hc => ?_) (fun hc => ?_) | refine eX (fun hc => ?_) (fun hc => ?_) | refine Zu _ _ (fun hc => ?_) (fun hc => ?_))
  ·(try simp only [hc]); (try simp only [pgd] at hc); revert hc; exact hq
  ·(try simp only [hc]); (try simp only [pgd] at hc); revert hc; exact hr) : p := h hq hr
theorem tX {F p q r : Prop} (fx : F) (hq : q) (hr : r) (h : F → q → r → p := by
  intro fx hq hr
  (with_reducible first | refine di (fun hc => ?_) (fun hc => ?_) | refine bK (fun hc => ?_) (fun hc => ?_) | refine eX (fun hc => ?_) (fun hc => ?_) | refine Zu _ _ (fun hc => ?_) (fun hc => ?_))
  ·(try simp only [hc]); (try simp only [pgd, fx] at hc); revert hc; exact hq
  ·(try simp only [hc]); (try simp only [pgd, fx] at hc); revert hc; exact hr) : p := h fx hq hr
theorem cS {C p q : Prop} (cx : C) (hq : q) (h : C → q → p := by
  intro cx hq
  (first
   | ((with_reducible show gU _ _ _ _ _ _); first | refine cU cx ?_ | refine cZ cx ?_ | refine cU cx.1 ?_ | refine cZ cx.1 ?_ | refine cU cx.2 ?_ | refine cZ cx.2 ?_ | refine cU cx.2.1 ?_ | refine cZ cx.2.1 ?_ | refine cU cx.2.2 ?_ | refine cZ cx.2.2 ?_ | refine cU cx.2.2.1 ?_ | refine cZ cx.2.2.1 ?_ | refine cU cx.2.2.2 ?_ | refine cZ cx.2.2.2 ?_ | refine cU cx.2.2.2.1 ?_ | refine cZ cx.2.2.2.1 ?_ | refine cU cx.2.2.2.2 ?_ | refine cZ cx.2.2.2.2 ?_ | refine cU cx.2.2.2.2.1 ?_ | refine cZ cx.2.2.2.2.1 ?_ | refine cU cx.2.2.2.2.2 ?_ | refine cZ cx.2.2.2.2.2 ?_ | refine cU cx.2.2.2.2.2.1 ?_ | refine cZ cx.2.2.2.2.2.1 ?_ | refine cU cx.2.2.2.2.2.2 ?_ | refine cZ cx.2.2.2.2.2.2 ?_ | refine cU cx.2.2.2.2.2.2.1 ?_ | refine cZ cx.2.2.2.2.2.2.1 ?_ | refine cU cx.2.2.2.2.2.2.2 ?_ | refine cZ cx.2.2.2.2.2.2.2 ?_ | refine cU cx.2.2.2.2.2.2.2.1 ?_ | refine cZ cx.2.2.2.2.2.2.2.1 ?_ | refine cU cx.2.2.2.2.2.2.2.2 ?_ | refine cZ cx.2.2.2.2.2.2.2.2 ?_ | refine cU cx.2.2.2.2.2.2.2.2.1 ?_ | refine cZ cx.2.2.2.2.2.2.2.2.1 ?_ | refine cU cx.2.2.2.2.2.2.2.2.2 ?_ | refine cZ cx.2.2.2.2.2.2.2.2.2 ?_ | refine cU cx.2.2.2.2.2.2.2.2.2.1 ?_ | refine cZ cx.2.2.2.2.2.2.2.2.2.1 ?_ | refine cU cx.2.2.2.2.2.2.2.2.2.2 ?_ | refine cZ cx.2.2.2.2.2.2.2.2.2.2 ?_ | refine cU cx.2.2.2.2.2.2.2.2.2.2.1 ?_ | refine cZ cx.2.2.2.2.2.2.2.2.2.2.1 ?_ | refine cU cx.2.2.2.2.2.2.2.2.2.2.2 ?_ | refine cZ cx.2.2.2.2.2.2.2.2.2.2.2 ?_ | refine cU cx.2.2.2.2.2.2.2.2.2.2.2.1 ?_ | refine cZ cx.2.2.2.2.2.2.2.2.2.2.2.1 ?_ | refine cU cx.2.2.2.2.2.2.2.2.2.2.2.2 ?_ | refine cZ cx.2.2.2.2.2.2.2.2.2.2.2.2 ?_ | refine cU cx.2.2.2.2.2.2.2.2.2.2.2.2.1 ?_ | refine cZ cx.2.2.2.2.2.2.2.2.2.2.2.2.1 ?_ | refine cU cx.2.2.2.2.2.2.2.2.2.2.2.2.2 ?_ | refine cZ cx.2.2.2.2.2.2.2.2.2.2.2.2.2 ?_)
   | ((with_reducible show nz _ _ _ _ _ _ _); first | refine cA cx ?_ | refine cAZ cx ?_ | refine cA cx.1 ?_ | refine cAZ cx.1 ?_ | refine cA cx.2 ?_ | refine cAZ cx.2 ?_ | refine cA cx.2.1 ?_ | refine cAZ cx.2.1 ?_ | refine cA cx.2.2 ?_ | refine cAZ cx.2.2 ?_ | refine cA cx.2.2.1 ?_ | refine cAZ cx.2.2.1 ?_ | refine cA cx.2.2.2 ?_ | refine cAZ cx.2.2.2 ?_ | refine cA cx.2.2.2.1 ?_ | refine cAZ cx.2.2.2.1 ?_ | refine cA cx.2.2.2.2 ?_ | refine cAZ cx.2.2.2.2 ?_ | refine cA cx.2.2.2.2.1 ?_ | refine cAZ cx.2.2.2.2.1 ?_ | refine cA cx.2.2.2.2.2 ?_ | refine cAZ cx.2.2.2.2.2 ?_ | refine cA cx.2.2.2.2.2.1 ?_ | refine cAZ cx.2.2.2.2.2.1 ?_ | refine cA cx.2.2.2.2.2.2 ?_ | refine cAZ cx.2.2.2.2.2.2 ?_ | refine cA cx.2.2.2.2.2.2.1 ?_ | refine cAZ cx.2.2.2.2.2.2.1 ?_ | refine cA cx.2.2.2.2.2.2.2 ?_ | refine cAZ cx.2.2.2.2.2.2.2 ?_ | refine cA cx.2.2.2.2.2.2.2.1 ?_ | refine cAZ cx.2.2.2.2.2.2.2.1 ?_ | refine cA cx.2.2.2.2.2.2.2.2 ?_ | refine cAZ cx.2.2.2.2.2.2.2.2 ?_ | refine cA cx.2.2.2.2.2.2.2.2.1 ?_ | refine cAZ cx.2.2.2.2.2.2.2.2.1 ?_ | refine cA cx.2.2.2.2.2.2.2.2.2 ?_ | refine cAZ cx.2.2.2.2.2.2.2.2.2 ?_ | refine cA cx.2.2.2.2.2.2.2.2.2.1 ?_ | refine cAZ cx.2.2.2.2.2.2.2.2.2.1 ?_ | refine cA cx.2.2.2.2.2.2.2.2.2.2 ?_ | refine cAZ cx.2.2.2.2.2.2.2.2.2.2 ?_ | refine cA cx.2.2.2.2.2.2.2.2.2.2.1 ?_ | refine cAZ cx.2.2.2.2.2.2.2.2.2.2.1 ?_ | refine cA cx.2.2.2.2.2.2.2.2.2.2.2 ?_ | refine cAZ cx.2.2.2.2.2.2.2.2.2.2.2 ?_ | refine cA cx.2.2.2.2.2.2.2.2.2.2.2.1 ?_ | refine cAZ cx.2.2.2.2.2.2.2.2.2.2.2.1 ?_ | refine cA cx.2.2.2.2.2.2.2.2.2.2.2.2 ?_ | refine cAZ cx.2.2.2.2.2.2.2.2.2.2.2.2 ?_ | refine cA cx.2.2.2.2.2.2.2.2.2.2.2.2.1 ?_ | refine cAZ cx.2.2.2.2.2.2.2.2.2.2.2.2.1 ?_ | refine cA cx.2.2.2.2.2.2.2.2.2.2.2.2.2 ?_ | refine cAZ cx.2.2.2.2.2.2.2.2.2.2.2.2.2 ?_))
  exact hq) : p := h cx hq
theorem wS {F C p q : Prop} (fx : F) (cx : C) (hq : q) (h : F → C → q → p := by intro fx cx hq; (repeat' (first | (simp (maxSteps := 2000000) (disch := first | exact dqz | fail) only [pgz, simprocAttr, fx]) | ((with_reducible first | apply di | apply bK | apply eX) <;> intro hc <;> (try simp only [hc]) <;> (try simp only [pgd] at hc)) | (with_reducible refine cK ?_) | (refine cS cx ?_) | fail)); all_goals exact hq) : p := h fx cx hq
theorem wP {F C p q : Prop} (fx : F) (cx : C) (hq : q) (h : F → C → q → p := by intro fx cx hq; (repeat1' (first | (simp (maxSteps := 2000000) (disch := first | exact dqz | fail) only [pgz, simprocAttr, fx]) | (with_reducible refine cK ?_) | (refine cS cx ?_) | fail)); all_goals exact hq) : p := h fx cx hq
theorem wR {F C p : Prop} (fx : F) (cx : C) {l : List Nat} (hi : Ids l) (h : F → C → Ids l → p := by intro fx cx hi; (repeat' (first | (simp (maxSteps := 2000000) (disch := first | exact dqz | fail) only [pgz, simprocAttr, fx]) | ((with_reducible first | apply di | apply bK | apply eX) <;> intro hc <;> (try simp only [hc]) <;> (try simp only [pgd] at hc)) | (with_reducible refine cK ?_) | (refine cS cx ?_) | fail)); all_goals exact rI hi) : p := h fx cx hi
theorem wP' {F C p q : Prop} (fx : F) (cx : C) (hq : q) (h : F → C → q → p := by intro fx cx hq; (repeat1' (first | (simp (maxSteps := 2000000) (disch := first | exact dqz | fail) only [aiI, simprocAttr, fx]) | (with_reducible refine cK ?_) | (refine cS cx ?_) | fail)); all_goals exact hq) : p := h fx cx hq
theorem wR' {F C p : Prop} (fx : F) (cx : C) {l : List Nat} (hi : Ids l) (h : F → C → Ids l → p := by intro fx cx hi; (repeat' (first | (simp (maxSteps := 2000000) (disch := first | exact dqz | fail) only [aiI, simprocAttr, fx]) | ((with_reducible first | apply di | apply bK | apply eX) <;> intro hc <;> (try simp only [hc]) <;> (try simp only [pgd] at hc)) | (with_reducible refine cK ?_) | (refine cS cx ?_) | fail)); all_goals exact rI hi) : p := h fx cx hi
theorem wSA {F C p q : Prop} (fx : F) (cx : C) (hq : q) (h : F → C → q → p := by intro fx cx hq; (repeat' (first | (simp (maxSteps := 2000000) (disch := first | exact dqz | fail) only [pgz, pga, simprocAttr, fx]) | ((with_reducible first | apply di | apply bK | apply eX) <;> intro hc <;> (try simp only [hc]) <;> (try simp only [pgd] at hc)) | (with_reducible refine cKA ?_) | ((with_reducible show sN _ _ _ _ _); first | refine oP (by decide +kernel) ?_ | refine oQ (by decide +kernel) ?_) | (with_reducible refine cK ?_) | (refine cS cx ?_) | fail)); all_goals exact hq) : p := h fx cx hq
theorem wPA {F C p q : Prop} (fx : F) (cx : C) (hq : q) (h : F → C → q → p := by intro fx cx hq; (repeat1' (first | (simp (maxSteps := 2000000) (disch := first | exact dqz | fail) only [pgz, pga, simprocAttr, fx]) | (with_reducible refine cKA ?_) | ((with_reducible show sN _ _ _ _ _); first | refine oP (by decide +kernel) ?_ | refine oQ (by decide +kernel) ?_) | (with_reducible refine cK ?_) | (refine cS cx ?_) | fail)); all_goals exact hq) : p := h fx cx hq
theorem wRA {F C p : Prop} (fx : F) (cx : C) {l : List Nat} (hi : Ids l) (h : F → C → Ids l → p := by intro fx cx hi; (repeat' (first | (simp (maxSteps := 2000000) (disch := first | exact dqz | fail) only [pgz, pga, simprocAttr, fx]) | ((with_reducible first | apply di | apply bK | apply eX) <;> intro hc <;> (try simp only [hc]) <;> (try simp only [pgd] at hc)) | (with_reducible refine cKA ?_) | ((with_reducible show sN _ _ _ _ _); first | refine oP (by decide +kernel) ?_ | refine oQ (by decide +kernel) ?_) | (with_reducible refine cK ?_) | (refine cS cx ?_) | fail)); all_goals exact rI hi) : p := h fx cx hi
theorem wRG {F C p : Prop} (fx : F) (cx : C) {l : List Nat} (hi : Ids l) (h : F → C → Ids l → p := by intro fx cx hi; (repeat' (first | (simp (maxSteps := 2000000) (disch := first | exact dqz | fail) only [pgz, pga, pgG, simprocAttr, fx]) | ((with_reducible first | apply di | apply bK | apply eX) <;> intro hc <;> (try simp only [hc]) <;> (try simp only [pgd] at hc)) | (with_reducible refine cKA ?_) | ((with_reducible show sN _ _ _ _ _); first | refine oP (by decide +kernel) ?_ | refine oQ (by decide +kernel) ?_ | refine aeE (by decide +kernel) ?_ | refine aeF (by decide +kernel) ?_) | (with_reducible refine cK ?_) | (refine cS cx ?_) | fail)); all_goals exact rI hi) : p := h fx cx hi
theorem gz {p : Prop} (h : p := by first | exact trivial | exact gB (by omega) | exact gq rfl | exact aW rfl rfl | exact je rfl | exact gK rfl) : p := h
theorem kM {l m : List Nat} {s : St} {X : List (Nat × V)} {B : List (Nat × TypeId × List V)} {n : Nat} (hX : GenA l m s.env X) (hB : GenB l m s.bx B) (hl : l.Nodup := by decide) (hm : m.Nodup := by decide) (hn : l.length ≤ n := by decide) (hn' : m.length ≤ n := by decide) : Keep l m s (mkA X B n (fun _ => .top)) := iy hX hB (kD _ _ _) hl hm hn hn'
def pgk := aI pgo (aI @fQ (aI @ig (aI @fU (aI @iq (aI @dB (aI @eY @fJ))))))
theorem kE {p : Prop} (h : p := by refine kM ?_ ?_; (repeat' (first | exact trivial | refine gJ _ _ rfl rfl ?_ ?_)); all_goals (try simp only [pgk, simprocAttr]); all_goals (try (repeat' apply aI)); all_goals exact gz) : p := h
theorem kL {p q : Prop} (hq : q) (h : q → p := by intro hq; refine kM ?_ ?_; (repeat' (first | exact trivial | refine gJ _ _ rfl rfl ?_ ?_)); all_goals (try simp only [pgk, simprocAttr]); all_goals (try (repeat' apply aI)); all_goals (first | exact gz | exact hq)) : p := h hq
theorem bE {ι : Type} {S : ι → St} {Inv : ι → Prop} {μ : ι → Nat} {i : ι} {s : St} (j : ι) (l m : List Nat) (h1 : Inv j) (h2 : μ j < μ i := by first | omega | (simp only [List.length_cons]; omega)) (h3 : Keep l m s (S j) := by exact kE) : AZ S Inv μ i s := bC j l m h1 h2 h3
theorem bL {ι : Type} {S : ι → St} {Inv : ι → Prop} {μ : ι → Nat} {i : ι} {s : St} (j : ι) (l m : List Nat) (h1 : Inv j) (h3 : Keep l m s (S j)) (h2 : μ j < μ i := by first | omega | (simp only [List.length_cons]; omega)) : AZ S Inv μ i s := bC j l m h1 h2 h3
abbrev vi (n : Int) : V := .c (.int .i64 n)
abbrev vu (n : Int) : V := .c (.int .u64 n)
abbrev vb (b : Bool) : V := .c (.bool b)
abbrev vs (l : List Nat) : V := .c (.string (sB l))
abbrev nls : V := .c (.slice none 0 0)
abbrev fzs (l : List (List Nat)) : V := .sl .fz 1 (sv l)
abbrev fzb (l : List Nat) : V := .sl .fz 1 (bv l)
def iv (l : List Int) : List V := l.map fun n => V.c (.int .i64 n)
theorem bP (l : List Int) : (iv l).length = l.length := by simp [iv]
theorem mg (l : List Int) (i : Nat) (h : i < l.length) : (iv l)[i]? = some (.c (.int .i64 (l.getD i 0))) := by simp [iv, h, List.getD]
abbrev fzi (l : List Int) : V := .sl .fz 1 (iv l)
def itv (l : List (List Nat × Int)) : List V := l.map fun x => V.agg [vs x.1, vi x.2]
theorem aB (l : List (List Nat × Int)) : (itv l).length = l.length := by simp [itv]
theorem sS (l : List (List Nat × Int)) (i : Nat) (h : i < l.length) : (itv l)[i]? = some (.agg [vs (l.getD i ([], 0)).1, vi (l.getD i ([], 0)).2]) := by simp [itv, h, List.getD]
abbrev fzt (l : List (List Nat × Int)) : V := .sl .fz 2 (itv l)
theorem ai : (⟨#[]⟩ : ByteArray) = sB [] := rfl
theorem Rh (l : List Nat) : decide (sB l = sB []) = decide (l.length = 0) := by
 have : sB l = sB [] ↔ l.length = 0 := by
  constructor
  ·intro h
   have := congrArg ByteArray.size h
   rw [bD, bD] at this
   simpa using this
  ·intro h; rw [List.eq_nil_of_length_eq_zero h]
 exact decide_eq_decide.2 this
theorem kG (l : List Nat) : decide (sB l = ⟨#[]⟩) = decide (l.length = 0) := Rh l
structure O where
 kind : Int
 name : List Nat
 other : List Nat
 names : List (List Nat)
 pk : Int
 pz : Int
 pd : Int
 ps : Int
 items : List (List Nat × Int)
 coins : List Nat
 exp : Int
 src : Int
 hnd : Int
 idx : Int
 cur : Int
 cnt : Int
 qk : Int
 qkey : List Nat
 qc : Int
 qn : Int
 qd : Int
 data : List Nat
abbrev opC (o : O) (nm it co da : V) : List V := [vi o.kind, vs o.name, vs o.other, nm, vi o.pk, vi o.pz, vi o.pd, vu o.ps, it, co, vi o.exp, vi o.src, vi o.hnd, vi o.idx, vi o.cur, vi o.cnt, vi o.qk, vs o.qkey, vi o.qc, vi o.qn, vi o.qd, da]
abbrev opF (o : O) : List V := opC o (fzs o.names) (fzt o.items) (fzb o.coins) (fzb o.data)
theorem is9 : ji Tryz.prog 9 = true := by kernel_rfl
theorem it5 : rY Tryz.prog 5 = some .u8 := by kernel_rfl
theorem ixs (l : List Nat) (k : IntKind) (n : Int) (ho : oct l) (h0 : 0 ≤ n) (h : n < l.length) : ixV Tryz.prog 9 (.c (.string (sB l))) (.c (.int k n)) = some (.c (.int .u8 (l.getD n.toNat 0 : Nat))) := by
 unfold ixV
 simp only
 rw [if_pos ⟨is9, h0, by rw [bD]; exact h⟩, H5 ho]
theorem ou (n : Int) (h : -9223372036854775808 ≤ n ∧ n ≤ 9223372036854775807) : IntKind.i64.wrap n = n := IntWalk.i64_in n h
theorem QQ (b : Bool) : unV .not (.c (.bool b)) = some (.c (.bool (!b))) := rfl
def bt (c a b : Nat) : Bool := decide (a ≤ c) && decide (c ≤ b)
theorem dle (a b : Nat) : decide ((a : Int) ≤ (b : Int)) = decide (a ≤ b) := by
 by_cases h : a ≤ b
 ·rw [decide_eq_true h, decide_eq_true (by omega)]
 ·rw [decide_eq_false h, decide_eq_false (by omega)]
theorem zQ (c a b : Nat) : Pg.Good Tryz.prog 137 [.c (.int .u8 (c : Int)), .c (.int .u8 (a : Int)), .c (.int .u8 (b : Int))] (.c (.bool (bt c a b))) := by
 refine dE (gY mix) Tryz.func137 rfl Tryz.results137 rfl (by kernel_rfl) (Nat.le_of_ble_eq_true (by kernel_rfl)) ?_
 have e1 := dle a c
 have e2 := dle c b
 unfold bt
 cases h : decide (a ≤ c) <;> rw [h] at e1
 all_goals
  simp only [Tryz.f137, pgs, pgl, pgx, pgf, Nat.reduceEqDiff, reduceIte, e1, e2]
  refine eU [] _ (aG _ _ _) .nil ?_ ?_
  ·simp only [pgs, pgl, pgx, pgf, Nat.reduceEqDiff, reduceIte]
  ·simp only [pgs, pgl, pgx, pgf, Nat.reduceEqDiff, reduceIte]
theorem OX (c : Nat) : Pg.Good Tryz.prog 186 [.c (.int .u8 (c : Int))] (.c (.bool (bt c 97 122))) := by
 refine dE (gY mix) Tryz.func186 rfl Tryz.results186 rfl (by kernel_rfl) (Nat.le_of_ble_eq_true (by kernel_rfl)) ?_
 have e1 : decide ((97 : Int) ≤ (c : Int)) = decide (97 ≤ c) := dle 97 c
 have e2 : decide ((c : Int) ≤ 122) = decide (c ≤ 122) := dle c 122
 unfold bt
 cases h : decide (97 ≤ c) <;> rw [h] at e1
 all_goals
  simp only [Tryz.f186, pgs, pgl, pgx, pgf, Nat.reduceEqDiff, reduceIte, e1, e2]
  refine eU [] _ (aG _ _ _) .nil ?_ ?_
  ·simp only [pgs, pgl, pgx, pgf, Nat.reduceEqDiff, reduceIte]
  ·simp only [pgs, pgl, pgx, pgf, Nat.reduceEqDiff, reduceIte]
theorem Ij (c : Nat) : Pg.Good Tryz.prog 188 [.c (.int .u8 (c : Int))] (.c (.bool (bt c 48 57))) := by
 refine dE (gY mix) Tryz.func188 rfl Tryz.results188 rfl (by kernel_rfl) (Nat.le_of_ble_eq_true (by kernel_rfl)) ?_
 have e1 : decide ((48 : Int) ≤ (c : Int)) = decide (48 ≤ c) := dle 48 c
 have e2 : decide ((c : Int) ≤ 57) = decide (c ≤ 57) := dle c 57
 unfold bt
 cases h : decide (48 ≤ c) <;> rw [h] at e1
 all_goals
  simp only [Tryz.f188, pgs, pgl, pgx, pgf, Nat.reduceEqDiff, reduceIte, e1, e2]
  refine eU [] _ (aG _ _ _) .nil ?_ ?_
  ·simp only [pgs, pgl, pgx, pgf, Nat.reduceEqDiff, reduceIte]
  ·simp only [pgs, pgl, pgx, pgf, Nat.reduceEqDiff, reduceIte]
theorem aiJ (c : Nat) : Pg.Good Tryz.prog 187 [.c (.int .u8 (c : Int))] (.c (.bool (bt c 65 90))) := by
 refine dE (gY mix) Tryz.func187 rfl Tryz.results187 rfl (by kernel_rfl) (Nat.le_of_ble_eq_true (by kernel_rfl)) ?_
 have e1 : decide ((65 : Int) ≤ (c : Int)) = decide (65 ≤ c) := dle 65 c
 have e2 : decide ((c : Int) ≤ 90) = decide (c ≤ 90) := dle c 90
 unfold bt
 cases h : decide (65 ≤ c) <;> rw [h] at e1
 all_goals
  simp only [Tryz.f187, pgs, pgl, pgx, pgf, Nat.reduceEqDiff, reduceIte, e1, e2]
  refine eU [] _ (aG _ _ _) .nil ?_ ?_
  ·simp only [pgs, pgl, pgx, pgf, Nat.reduceEqDiff, reduceIte]
  ·simp only [pgs, pgl, pgx, pgf, Nat.reduceEqDiff, reduceIte]
def fH (l : List Nat) : Bool := decide (1 ≤ l.length) && decide (l.length ≤ 32)
theorem OY (l : List Nat) : Pg.Good Tryz.prog 133 [.c (.string (sB l))] (.c (.bool (fH l))) := by
 refine dE (gY mix) Tryz.func133 rfl Tryz.results133 rfl (by kernel_rfl) (Nat.le_of_ble_eq_true (by kernel_rfl)) ?_
 have e1 : decide ((1 : Int) ≤ (l.length : Int)) = decide (1 ≤ l.length) := dle 1 _
 have e2 : decide ((l.length : Int) ≤ 32) = decide (l.length ≤ 32) := dle _ 32
 unfold fH
 cases h : decide (1 ≤ l.length) <;> rw [h] at e1
 all_goals
  simp only [Tryz.f133, pgs, pgl, pgx, pgf, Nat.reduceEqDiff, reduceIte, is9, bD, e1, e2]
  refine eU [] _ (aG _ _ _) .nil ?_ ?_
  ·simp only [pgs, pgl, pgx, pgf, Nat.reduceEqDiff, reduceIte]
  ·simp only [pgs, pgl, pgx, pgf, Nat.reduceEqDiff, reduceIte]
theorem uH (l : List Nat) : Pg.Good Tryz.prog 140 [.c (.string (sB l))] (.c (.bool (fH l))) := by
 refine dE (gY mix) Tryz.func140 rfl Tryz.results140 rfl (by kernel_rfl) (Nat.le_of_ble_eq_true (by kernel_rfl)) ?_
 have e1 : decide ((1 : Int) ≤ (l.length : Int)) = decide (1 ≤ l.length) := dle 1 _
 have e2 : decide ((l.length : Int) ≤ 32) = decide (l.length ≤ 32) := dle _ 32
 unfold fH
 cases h : decide (1 ≤ l.length) <;> rw [h] at e1
 all_goals
  simp only [Tryz.f140, pgs, pgl, pgx, pgf, Nat.reduceEqDiff, reduceIte, is9, bD, e1, e2]
  refine eU [] _ (aG _ _ _) .nil ?_ ?_
  ·simp only [pgs, pgl, pgx, pgf, Nat.reduceEqDiff, reduceIte]
  ·simp only [pgs, pgl, pgx, pgf, Nat.reduceEqDiff, reduceIte]
def nmC (c : Nat) : Bool := bt c 97 122 || bt c 48 57 || c == 45 || c == 46
def jW (l : List Nat) : Bool := decide (1 ≤ l.length) && decide (l.length ≤ 16) && bt (l.getD 0 0) 97 122 && l.all nmC
theorem neI (c k : Nat) : ((c : Int) != (k : Int)) = (c != k) := by
 rw [Bool.eq_iff_iff, bne_iff_ne, bne_iff_ne]
 omega
theorem jQ {p : Nat → Bool} {l : List Nat} {i : Nat} (h : i < l.length) (ha : (l.take i).all p = true) (hp : p (l.getD i 0) = true) : (l.take (i + 1)).all p = true := by
 rw [List.take_succ_eq_append_getElem h, List.all_append, ha]
 have : l.getD i 0 = l[i] := by simp [List.getD, h]
 rw [this] at hp
 simp [hp]
theorem vS {p : Nat → Bool} {l : List Nat} {i : Nat} (h : i < l.length) (hp : p (l.getD i 0) = false) : l.all p = false := by
 have : l.getD i 0 = l[i] := by simp [List.getD, h]
 rw [this] at hp
 rw [← Bool.not_eq_true, List.all_eq_true]
 intro hx
 have := hx _ (List.getElem_mem h)
 rw [hp] at this
 cases this
theorem aiK (l : List Nat) (ho : oct l) : Pg.Good Tryz.prog 178 [.c (.string (sB l))] (.c (.bool (jW l))) := by
 refine dE (gY mix) Tryz.func178 rfl Tryz.results178 rfl (by kernel_rfl) (Nat.le_of_ble_eq_true (by kernel_rfl)) ?_
 unfold jW
 rcases Nat.lt_or_ge l.length 1 with h1 | h1
 ·have e1 : decide ((l.length : Int) < 1) = true := decide_eq_true (by omega)
  rw [decide_eq_false (show ¬ 1 ≤ l.length by omega)]
  simp only [Tryz.f178, pgs, pgl, pgx, pgf, Nat.reduceEqDiff, reduceIte, is9, bD, e1]
  refine eU [] _ (aG _ _ _) .nil ?_ ?_
  ·simp only [pgs, pgl, pgx, pgf, Nat.reduceEqDiff, reduceIte]
  ·simp only [pgs, pgl, pgx, pgf, Nat.reduceEqDiff, reduceIte]
 have e1 : decide ((l.length : Int) < 1) = false := decide_eq_false (by omega)
 rw [decide_eq_true h1]
 rcases Nat.lt_or_ge 16 l.length with h2 | h2
 ·have e2 : decide ((16 : Int) < (l.length : Int)) = true := decide_eq_true (by omega)
  rw [decide_eq_false (show ¬ l.length ≤ 16 by omega)]
  simp only [Tryz.f178, pgs, pgl, pgx, pgf, Nat.reduceEqDiff, reduceIte, is9, bD, e1, e2]
  refine eU [] _ (aG _ _ _) .nil ?_ ?_
  ·simp only [pgs, pgl, pgx, pgf, Nat.reduceEqDiff, reduceIte]
  ·simp only [pgs, pgl, pgx, pgf, Nat.reduceEqDiff, reduceIte]
 have e2 : decide ((16 : Int) < (l.length : Int)) = false := decide_eq_false (by omega)
 rw [decide_eq_true h2]
 simp (disch := first | assumption | omega) only [Tryz.f178, pgs, pgl, pgx, pgf, Nat.reduceEqDiff, reduceIte, is9, bD, e1, e2, ixs, Int.reduceToNat]
 have g0 := OX (l.getD 0 0)
 cases h3 : bt (l.getD 0 0) 97 122 <;> rw [h3] at g0
 ·refine aP _ g0 rfl rfl rfl rfl ?_
  simp only [pgs, pgl, pgx, pgf, Nat.reduceEqDiff, reduceIte, QQ]
  refine eU [] _ (aG _ _ _) .nil ?_ ?_
  ·simp only [pgs, pgl, pgx, pgf, Nat.reduceEqDiff, reduceIte]
  ·simp only [pgs, pgl, pgx, pgf, Nat.reduceEqDiff, reduceIte]
 refine aP _ g0 rfl rfl rfl rfl ?_
 simp only [pgs, pgl, pgx, pgf, Nat.reduceEqDiff, reduceIte, QQ, is9, bD]
 refine vO (fun i => mkS [.c (.string (sB l)), .top, .top, .top, .top, .top, .top, .top, .top, .top, .top, .top, .top, .top, .top, .top, .top, .top, .top, .top, .c (.int .i64 l.length), .c (.int .i64 (i : Nat))] 0) (fun i => i ≤ l.length ∧ (l.take i).all nmC = true) (fun i => l.length - i) 0 [] [] ?_ ⟨Nat.zero_le _, rfl⟩ ?_
 ·refine jm ?_ .nil (Nat.le_refl _)
  simp only [pgs, pgl, pgx, pgf, gy, iL, dB, eY, fJ, Nat.reduceEqDiff, reduceIte, Nat.reduceAdd]
  exact of_eq_true (eY _ _ _)
 ·rintro i ⟨hi, hall⟩ s hs
  simp only [Dn, pgs, pgl, Nat.reduceAdd] at hs
  subst hs
  rcases Nat.lt_or_ge i l.length with hlt | hge
  ·have e4 : decide ((i : Int) < (l.length : Int)) = true := decide_eq_true (by omega)
   simp (disch := first | assumption | omega) only [pgs, pgl, pgx, pgf, Nat.reduceEqDiff, reduceIte, Nat.reduceAdd, e4, ixs, Int.toNat_natCast]
   generalize hcd : l.getD i 0 = c
   have g1 := OX c
   have g2 := Ij c
   have e5 : ((c : Int) != 45) = (c != 45) := neI c 45
   have e6 : ((c : Int) != 46) = (c != 46) := neI c 46
   cases b1 : bt c 97 122 <;> rw [b1] at g1
   ·refine aP _ g1 rfl rfl rfl rfl ?_
    simp only [pgs, pgl, pgx, pgf, Nat.reduceEqDiff, reduceIte, QQ]
    cases b2 : bt c 48 57 <;> rw [b2] at g2
    ·refine aP _ g2 rfl rfl rfl rfl ?_
     cases b3 : (c != 45) <;> rw [b3] at e5
     ·have hn : nmC (l.getD i 0) = true := by
       rw [hcd]; unfold nmC; rw [bne_eq_false_iff_eq] at b3; subst b3; rfl
      simp (disch := omega) only [pgs, pgl, pgx, pgf, Nat.reduceEqDiff, reduceIte, QQ, e5, ou, bu]
      refine bC (i + 1) [] [] ⟨by omega, jQ hlt hall hn⟩ (by omega) (jm ?_ .nil (Nat.le_refl _))
      simp only [pgs, pgl, pgx, pgf, gy, iL, dB, eY, fJ, Nat.reduceEqDiff, reduceIte, Nat.reduceAdd, Int.natCast_add, Int.cast_ofNat_Int]
     ·cases b4 : (c != 46) <;> rw [b4] at e6
      ·have hn : nmC (l.getD i 0) = true := by
        rw [hcd]; unfold nmC; rw [bne_eq_false_iff_eq] at b4; subst b4; rfl
       simp (disch := omega) only [pgs, pgl, pgx, pgf, Nat.reduceEqDiff, reduceIte, QQ, e5, e6, ou, bu]
       refine bC (i + 1) [] [] ⟨by omega, jQ hlt hall hn⟩ (by omega) (jm ?_ .nil (Nat.le_refl _))
       simp only [pgs, pgl, pgx, pgf, gy, iL, dB, eY, fJ, Nat.reduceEqDiff, reduceIte, Nat.reduceAdd, Int.natCast_add, Int.cast_ofNat_Int]
      ·have hn : nmC (l.getD i 0) = false := by
        rw [hcd]; unfold nmC
        rw [bne_iff_ne] at b3 b4
        simp [b1, b2, b3, b4]
       rw [vS hlt hn]
       simp (disch := omega) only [pgs, pgl, pgx, pgf, Nat.reduceEqDiff, reduceIte, QQ, e5, e6, ou, rF]
       refine eU [] _ (aG _ _ _) .nil ?_ ?_
       ·simp only [pgs, pgl, pgx, pgf, Nat.reduceEqDiff, reduceIte]
       ·simp only [pgs, pgl, pgx, pgf, Nat.reduceEqDiff, reduceIte]
    ·have hn : nmC (l.getD i 0) = true := by rw [hcd]; unfold nmC; simp [b2]
     refine aP _ g2 rfl rfl rfl rfl ?_
     simp (disch := omega) only [pgs, pgl, pgx, pgf, Nat.reduceEqDiff, reduceIte, QQ, ou, bu]
     refine bC (i + 1) [] [] ⟨by omega, jQ hlt hall hn⟩ (by omega) (jm ?_ .nil (Nat.le_refl _))
     simp only [pgs, pgl, pgx, pgf, gy, iL, dB, eY, fJ, Nat.reduceEqDiff, reduceIte, Nat.reduceAdd, Int.natCast_add, Int.cast_ofNat_Int]
   ·have hn : nmC (l.getD i 0) = true := by rw [hcd]; unfold nmC; simp [b1]
    refine aP _ g1 rfl rfl rfl rfl ?_
    simp (disch := omega) only [pgs, pgl, pgx, pgf, Nat.reduceEqDiff, reduceIte, QQ, ou, bu]
    refine bC (i + 1) [] [] ⟨by omega, jQ hlt hall hn⟩ (by omega) (jm ?_ .nil (Nat.le_refl _))
    simp only [pgs, pgl, pgx, pgf, gy, iL, dB, eY, fJ, Nat.reduceEqDiff, reduceIte, Nat.reduceAdd, Int.natCast_add, Int.cast_ofNat_Int]
  ·have hil : i = l.length := by omega
   subst hil
   rw [List.take_length] at hall
   rw [hall]
   have e4 : decide ((l.length : Int) < (l.length : Int)) = false := decide_eq_false (by omega)
   simp only [pgs, pgl, pgx, pgf, Nat.reduceEqDiff, reduceIte, Nat.reduceAdd, e4, ny]
   refine eU [] _ (aG _ _ _) .nil ?_ ?_
   ·simp only [pgs, pgl, pgx, pgf, Nat.reduceEqDiff, reduceIte]
   ·simp only [pgs, pgl, pgx, pgf, Nat.reduceEqDiff, reduceIte]
theorem oz (l : List Nat) (ho : oct l) : Pg.Good Tryz.prog 84 [.c (.string (sB l))] (.c (.bool (jW l))) := by
 refine dE (gY mix) Tryz.func84 rfl Tryz.results84 rfl (by kernel_rfl) (Nat.le_of_ble_eq_true (by kernel_rfl)) ?_
 unfold jW
 rcases Nat.lt_or_ge l.length 1 with h1 | h1
 ·have e1 : decide ((l.length : Int) < 1) = true := decide_eq_true (by omega)
  rw [decide_eq_false (show ¬ 1 ≤ l.length by omega)]
  simp only [Tryz.f84, pgs, pgl, pgx, pgf, Nat.reduceEqDiff, reduceIte, is9, bD, e1]
  refine eU [] _ (aG _ _ _) .nil ?_ ?_
  ·simp only [pgs, pgl, pgx, pgf, Nat.reduceEqDiff, reduceIte]
  ·simp only [pgs, pgl, pgx, pgf, Nat.reduceEqDiff, reduceIte]
 have e1 : decide ((l.length : Int) < 1) = false := decide_eq_false (by omega)
 rw [decide_eq_true h1]
 rcases Nat.lt_or_ge 16 l.length with h2 | h2
 ·have e2 : decide ((16 : Int) < (l.length : Int)) = true := decide_eq_true (by omega)
  rw [decide_eq_false (show ¬ l.length ≤ 16 by omega)]
  simp only [Tryz.f84, pgs, pgl, pgx, pgf, Nat.reduceEqDiff, reduceIte, is9, bD, e1, e2]
  refine eU [] _ (aG _ _ _) .nil ?_ ?_
  ·simp only [pgs, pgl, pgx, pgf, Nat.reduceEqDiff, reduceIte]
  ·simp only [pgs, pgl, pgx, pgf, Nat.reduceEqDiff, reduceIte]
 have e2 : decide ((16 : Int) < (l.length : Int)) = false := decide_eq_false (by omega)
 rw [decide_eq_true h2]
 simp (disch := first | assumption | omega) only [Tryz.f84, pgs, pgl, pgx, pgf, Nat.reduceEqDiff, reduceIte, is9, bD, e1, e2, ixs, Int.reduceToNat]
 have g0 := zQ (l.getD 0 0) 97 122
 cases h3 : bt (l.getD 0 0) 97 122 <;> rw [h3] at g0
 ·refine aP _ g0 rfl rfl rfl rfl ?_
  simp only [pgs, pgl, pgx, pgf, Nat.reduceEqDiff, reduceIte, QQ]
  refine eU [] _ (aG _ _ _) .nil ?_ ?_
  ·simp only [pgs, pgl, pgx, pgf, Nat.reduceEqDiff, reduceIte]
  ·simp only [pgs, pgl, pgx, pgf, Nat.reduceEqDiff, reduceIte]
 refine aP _ g0 rfl rfl rfl rfl ?_
 simp only [pgs, pgl, pgx, pgf, Nat.reduceEqDiff, reduceIte, QQ, is9, bD]
 refine vO (fun i => mkS [.c (.string (sB l)), .top, .top, .c (.int .i64 (i : Nat))] 0) (fun i => i ≤ l.length ∧ (l.take i).all nmC = true) (fun i => l.length - i) 0 [] [] ?_ ⟨Nat.zero_le _, rfl⟩ ?_
 ·refine jm ?_ .nil (Nat.le_refl _)
  simp only [pgs, pgl, pgx, pgf, gy, iL, dB, eY, fJ, Nat.reduceEqDiff, reduceIte, Nat.reduceAdd]
  exact of_eq_true (eY _ _ _)
 ·rintro i ⟨hi, hall⟩ s hs
  simp only [Dn, pgs, pgl, Nat.reduceAdd] at hs
  subst hs
  rcases Nat.lt_or_ge i l.length with hlt | hge
  ·have e4 : decide ((i : Int) < (l.length : Int)) = true := decide_eq_true (by omega)
   simp (disch := first | assumption | omega) only [pgs, pgl, pgx, pgf, Nat.reduceEqDiff, reduceIte, Nat.reduceAdd, is9, bD, e4, ixs, Int.toNat_natCast]
   generalize hcd : l.getD i 0 = c
   have g1 := zQ c 97 122
   have g2 := zQ c 48 57
   have e5 : ((c : Int) != 45) = (c != 45) := neI c 45
   have e6 : ((c : Int) != 46) = (c != 46) := neI c 46
   cases b1 : bt c 97 122 <;> rw [b1] at g1
   ·refine aP _ g1 rfl rfl rfl rfl ?_
    simp (disch := first | assumption | omega) only [pgs, pgl, pgx, pgf, Nat.reduceEqDiff, reduceIte, QQ, ixs, Int.toNat_natCast, hcd]
    cases b2 : bt c 48 57 <;> rw [b2] at g2
    ·refine aP _ g2 rfl rfl rfl rfl ?_
     cases b3 : (c != 45) <;> rw [b3] at e5
     ·have hn : nmC (l.getD i 0) = true := by
       rw [hcd]; unfold nmC; rw [bne_eq_false_iff_eq] at b3; subst b3; rfl
      simp (disch := first | assumption | omega) only [pgs, pgl, pgx, pgf, Nat.reduceEqDiff, reduceIte, QQ, ixs, Int.toNat_natCast, hcd, e5, ou, bu]
      refine bC (i + 1) [] [] ⟨by omega, jQ hlt hall hn⟩ (by omega) (jm ?_ .nil (Nat.le_refl _))
      simp only [pgs, pgl, pgx, pgf, gy, iL, dB, eY, fJ, Nat.reduceEqDiff, reduceIte, Nat.reduceAdd, Int.natCast_add, Int.cast_ofNat_Int]
     ·cases b4 : (c != 46) <;> rw [b4] at e6
      ·have hn : nmC (l.getD i 0) = true := by
        rw [hcd]; unfold nmC; rw [bne_eq_false_iff_eq] at b4; subst b4; rfl
       simp (disch := first | assumption | omega) only [pgs, pgl, pgx, pgf, Nat.reduceEqDiff, reduceIte, QQ, ixs, Int.toNat_natCast, hcd, e5, e6, ou, bu]
       refine bC (i + 1) [] [] ⟨by omega, jQ hlt hall hn⟩ (by omega) (jm ?_ .nil (Nat.le_refl _))
       simp only [pgs, pgl, pgx, pgf, gy, iL, dB, eY, fJ, Nat.reduceEqDiff, reduceIte, Nat.reduceAdd, Int.natCast_add, Int.cast_ofNat_Int]
      ·have hn : nmC (l.getD i 0) = false := by
        rw [hcd]; unfold nmC
        rw [bne_iff_ne] at b3 b4
        simp [b1, b2, b3, b4]
       rw [vS hlt hn]
       simp (disch := first | assumption | omega) only [pgs, pgl, pgx, pgf, Nat.reduceEqDiff, reduceIte, QQ, ixs, Int.toNat_natCast, hcd, e5, e6, ou, rF]
       refine eU [] _ (aG _ _ _) .nil ?_ ?_
       ·simp only [pgs, pgl, pgx, pgf, Nat.reduceEqDiff, reduceIte]
       ·simp only [pgs, pgl, pgx, pgf, Nat.reduceEqDiff, reduceIte]
    ·have hn : nmC (l.getD i 0) = true := by rw [hcd]; unfold nmC; simp [b2]
     refine aP _ g2 rfl rfl rfl rfl ?_
     simp (disch := first | assumption | omega) only [pgs, pgl, pgx, pgf, Nat.reduceEqDiff, reduceIte, QQ, ixs, Int.toNat_natCast, hcd, ou, bu]
     refine bC (i + 1) [] [] ⟨by omega, jQ hlt hall hn⟩ (by omega) (jm ?_ .nil (Nat.le_refl _))
     simp only [pgs, pgl, pgx, pgf, gy, iL, dB, eY, fJ, Nat.reduceEqDiff, reduceIte, Nat.reduceAdd, Int.natCast_add, Int.cast_ofNat_Int]
   ·have hn : nmC (l.getD i 0) = true := by rw [hcd]; unfold nmC; simp [b1]
    refine aP _ g1 rfl rfl rfl rfl ?_
    simp (disch := first | assumption | omega) only [pgs, pgl, pgx, pgf, Nat.reduceEqDiff, reduceIte, QQ, ixs, Int.toNat_natCast, hcd, ou, bu]
    refine bC (i + 1) [] [] ⟨by omega, jQ hlt hall hn⟩ (by omega) (jm ?_ .nil (Nat.le_refl _))
    simp only [pgs, pgl, pgx, pgf, gy, iL, dB, eY, fJ, Nat.reduceEqDiff, reduceIte, Nat.reduceAdd, Int.natCast_add, Int.cast_ofNat_Int]
  ·have hil : i = l.length := by omega
   subst hil
   rw [List.take_length] at hall
   rw [hall]
   have e4 : decide ((l.length : Int) < (l.length : Int)) = false := decide_eq_false (by omega)
   simp only [pgs, pgl, pgx, pgf, Nat.reduceEqDiff, reduceIte, Nat.reduceAdd, is9, bD, e4, ny]
   refine eU [] _ (aG _ _ _) .nil ?_ ?_
   ·simp only [pgs, pgl, pgx, pgf, Nat.reduceEqDiff, reduceIte]
   ·simp only [pgs, pgl, pgx, pgf, Nat.reduceEqDiff, reduceIte]
theorem kV (l : List Nat) : (fH l = true) = (1 ≤ l.length ∧ l.length ≤ 32) := by simp [fH]
theorem yx (l : List Nat) : (fH l = false) = ¬ (1 ≤ l.length ∧ l.length ≤ 32) := by rw [← kV, Bool.not_eq_true]
theorem Ik {l : List Nat} (h : 1 ≤ l.length ∧ l.length ≤ 32) : fH l = true := by rw [kV]; exact h
def eF (l : List Nat) (n : Int) : Int := if 1 ≤ l.length ∧ l.length ≤ 32 then (if 1 ≤ n ∧ n ≤ 4294967295 then 0 else 5) else 7
theorem DD (l : List Nat) (n : Int) : Pg.Good Tryz.prog 180 [.agg [vs l, vi n]] (vi (eF l n)) := by
 refine gI oW Tryz.func180 Tryz.results180 ?_
 skip
 (repeat' first | refine wP trivial trivial ?_ | refine cU (OY _) ?_ | refine tX (aI @kV @yx) ?_ ?_ <;> intro hc | fail)
 all_goals (refine rT [] ?_; first | rfl | simp only [pgo, simprocAttr] | skip)
 all_goals (unfold eF; (repeat' split) <;> first | rfl | omega)
theorem bZ (l : List Nat) (n : Int) : Pg.Good Tryz.prog 138 [.agg [vs l, vi n]] (vi (eF l n)) := by
 refine gI oW Tryz.func138 Tryz.results138 ?_
 (repeat' first | refine wP trivial trivial ?_ | refine cU (uH _) ?_ | refine tX (aI @kV @yx) ?_ ?_ <;> intro hc | fail)
 all_goals (refine rT [] ?_; first | rfl | simp only [pgo, simprocAttr] | skip)
 all_goals (unfold eF; (repeat' split) <;> first | rfl | omega)
def inb (n a b : Int) : Bool := decide (a ≤ n) && decide (n ≤ b)
theorem lS (n a b : Int) : (inb n a b = true) = (a ≤ n ∧ n ≤ b) := by simp [inb]
theorem mi (n a b : Int) : (inb n a b = false) = ¬ (a ≤ n ∧ n ≤ b) := by
 rw [← lS, Bool.not_eq_true]
theorem uI {n a b : Int} (h : a ≤ n ∧ n ≤ b) : inb n a b = true := by rw [lS]; exact h
theorem jY {n a b : Int} (h : ¬ (a ≤ n ∧ n ≤ b)) : inb n a b = false := by rw [mi]; exact h
theorem ZC (n a b : Int) : Pg.Good Tryz.prog 179 [vi n, vi a, vi b] (vb (inb n a b)) := by
 refine gI oW Tryz.func179 Tryz.results179 ?_
 by_cases h1 : a ≤ n <;> by_cases h2 : n ≤ b
 all_goals
  refine wS trivial trivial ?_
  (refine rT [] ?_; first | rfl | simp only [pgo, simprocAttr] | skip)
  try (rw [show inb n a b = _ from by first | exact uI ⟨h1, h2⟩ | exact jY (by omega)])
theorem DF (n a b : Int) : Pg.Good Tryz.prog 139 [vi n, vi a, vi b] (vb (inb n a b)) := by
 refine gI oW Tryz.func139 Tryz.results139 ?_
 by_cases h1 : a ≤ n <;> by_cases h2 : n ≤ b
 all_goals
  refine wS trivial trivial ?_
  (refine rT [] ?_; first | rfl | simp only [pgo, simprocAttr] | skip)
  try (rw [show inb n a b = _ from by first | exact uI ⟨h1, h2⟩ | exact jY (by omega)])
theorem fC (n a b : Int) : Pg.Good Tryz.prog 200 [vi n, vi a, vi b] (vb (inb n a b)) := by
 refine gI oW Tryz.func200 Tryz.results200 ?_
 by_cases h1 : a ≤ n <;> by_cases h2 : n ≤ b
 all_goals
  refine wS trivial trivial ?_
  (refine rT [] ?_; first | rfl | simp only [pgo, simprocAttr] | skip)
  try (rw [show inb n a b = _ from by first | exact uI ⟨h1, h2⟩ | exact jY (by omega)])
def vp (k z d s : Int) : Int :=
 if k = 1 then (if z = 0 ∧ d = 0 ∧ s = 0 then 0 else 10)
 else if k = 2 then (if 1 ≤ d ∧ d ≤ 8 ∧ 1 ≤ z ∧ z ≤ 64 then 0 else 5)
 else if k = 3 then (if 2 ≤ z ∧ z ≤ 8 then (if d = 0 then 0 else 10) else 5)
 else if k = 4 ∨ k = 5 then (if 1 ≤ z ∧ z ≤ 32 then (if d = 0 ∧ s = 0 then 0 else 10) else 5)
 else if k = 6 then (if 2 ≤ z ∧ z ≤ 32 ∧ z % 2 = 0 then (if d = 0 ∧ s = 0 then 0 else 10) else 5)
 else 8
theorem Ri (a b : Int) (h : 0 ≤ a) : a.tmod b = a % b := Int.tmod_eq_emod_of_nonneg h
abbrev pV (k z d s : Int) : List V := [vi k, vi z, vi d, vu s]
theorem zS (k z d s : Int) : Pg.Good Tryz.prog 126 [.agg (pV k z d s)] (vi (vp k z d s)) := by
 refine gI oW Tryz.func126 Tryz.results126 ?_
 skip
 (repeat' first | refine wP @Ri trivial ?_ | refine cU (ZC _ _ _) ?_ | refine tX (aI @lS @mi) ?_ ?_ <;> intro hc | fail)
 all_goals (refine rT [] ?_; first | rfl | simp only [pgo, simprocAttr] | skip)
 (all_goals (unfold vp; (repeat' split) <;> first | rfl | (exfalso; omega)))
theorem bg (k z d s : Int) : Pg.Good Tryz.prog 86 [.agg (pV k z d s)] (vi (vp k z d s)) := by
 refine gI oW Tryz.func86 Tryz.results86 ?_
 (repeat' first | refine wP @Ri trivial ?_ | refine cU (DF _ _ _) ?_ | refine tX (aI @lS @mi) ?_ ?_ <;> intro hc | fail)
 all_goals (refine rT [] ?_; first | rfl | simp only [pgo, simprocAttr] | skip)
 (all_goals (unfold vp; (repeat' split) <;> first | rfl | (exfalso; omega)))
def bwE (n a b : Int) : Int := if n < a ∨ b < n then 5 else 0
theorem lT (n a b : Int) : Pg.Good Tryz.prog 129 [vi n, vi a, vi b] (vi (bwE n a b)) := by
 refine gI oW Tryz.func129 Tryz.results129 ?_
 (repeat' first | refine wP trivial trivial ?_ | refine tS ?_ ?_ <;> intro hc | fail)
 all_goals (refine rT [] ?_; first | rfl | simp only [pgo, simprocAttr] | skip)
 (all_goals (unfold bwE; (repeat' split) <;> first | rfl | (exfalso; omega)))
def nmE (l : List Nat) : Int := if jW l = true then 0 else 6
theorem OZ (l : List Nat) (ho : oct l) : Pg.Good Tryz.prog 124 [vs l] (vi (nmE l)) := by
 have h := aiK l ho
 unfold nmE
 refine gI oW Tryz.func124 Tryz.results124 ?_
 cases hn : jW l <;> rw [hn] at h
 ·exact wR trivial h ah
 ·exact wR trivial h ah
def shE (l : List Nat) (m : Int) : Int := if m < l.length then 11 else 0
theorem Rj (l : List Nat) (m : Int) : Pg.Good Tryz.prog 128 [fzb l, vi m] (vi (shE l m)) := by
 refine gI oW Tryz.func128 Tryz.results128 ?_
 (repeat' first | refine wP @ax trivial ?_ | refine tS ?_ ?_ <;> intro hc | fail)
 all_goals (refine rT [] ?_; first | rfl | simp only [pgo, simprocAttr] | skip)
 (all_goals (unfold shE; (repeat' split) <;> first | rfl | (exfalso; omega)))
def sU {α : Type} (f : α → Int) : List α → Int
 | [] => 0
 | x :: l => if f x ≠ 0 then f x else sU f l
theorem KJ {α : Type} (f : α → Int) (a b : List α) (h : sU f a = 0) : sU f (a ++ b) = sU f b := by
 induction a with
 | nil => rfl
 | cons x a ih =>
  simp only [sU, List.cons_append] at h ⊢
  by_cases hx : f x = 0
  ·rw [if_neg (by omega)] at h ⊢; exact ih h
  ·rw [if_pos hx] at h; exact absurd h hx
theorem BN {α : Type} (f : α → Int) (l : List α) (i : Nat) (x : α) (hx : l[i]? = some x) (h : sU f (l.take i) = 0) (hf : f x ≠ 0) : sU f l = f x := by
 have hi := (List.getElem?_eq_some_iff.1 hx).1
 have e : l = l.take i ++ x :: l.drop (i + 1) := by
  have h1 : l.drop i = x :: l.drop (i + 1) := by rw [List.drop_eq_getElem_cons hi]; simp [(List.getElem?_eq_some_iff.1 hx).2]
  rw [← h1, List.take_append_drop]
 rw [e, KJ f _ _ h]
 simp [sU, hf]
theorem vT {α : Type} (f : α → Int) (l : List α) (i : Nat) (x : α) (hx : l[i]? = some x) (h : sU f (l.take i) = 0) (hf : f x = 0) : sU f (l.take (i + 1)) = 0 := by
 have hi := (List.getElem?_eq_some_iff.1 hx).1
 rw [List.take_succ_eq_append_getElem hi, KJ f _ _ h, (List.getElem?_eq_some_iff.1 hx).2]
 simp [sU, hf]
theorem getD_some {α : Type} (l : List α) (i : Nat) (d : α) (h : i < l.length) : l[i]? = some (l.getD i d) := by simp [List.getD, h]
def lsE (l : List (List Nat)) : Int := if l.length < 1 ∨ 16 < l.length then 5 else sU nmE l
theorem aiL (l : List (List Nat)) (ho : ∀ x ∈ l, oct x) : Pg.Good Tryz.prog 125 [fzs l] (vi (lsE l)) := by
 refine gI oW Tryz.func125 Tryz.results125 ?_
 have hb := lT (l.length : Int) 1 16
 have hl := au l
 unfold lsE
 by_cases hs : l.length < 1 ∨ 16 < l.length
 ·rw [show bwE (l.length : Int) 1 16 = 5 from if_pos (by omega)] at hb
  rw [if_pos hs]
  exact wR @au hb ah
 ·rw [show bwE (l.length : Int) 1 16 = 0 from if_neg (by omega)] at hb
  rw [if_neg hs]
  refine wS @au hb ?_
  refine aK (fun i : Nat => mkA [(13, fzs l), (14, vi l.length), (15, vi i)] [] 0 (fun _ => .top)) (fun i => i ≤ l.length ∧ sU nmE (l.take i) = 0) (fun i => l.length - i) 0 [] [] ?_ ⟨Nat.zero_le _, rfl⟩ ?_
  ·exact kE
  ·rintro i ⟨hi, he⟩
   rcases Nat.lt_or_ge i l.length with hlt | hge
   ·have hg := iK l i hlt
    have hx := getD_some l i [] hlt
    have hn := OZ (l.getD i []) (ho _ (by rw [List.getD_eq_getElem?_getD, List.getElem?_eq_getElem hlt]; exact List.getElem_mem hlt))
    have h1 := BN nmE l i _ hx he
    have h2 := vT nmE l i _ hx he
    generalize l.getD i [] = x at hg hn h1 h2
    by_cases hn0 : nmE x = 0
    ·refine wS (aI @hg (aI @au @hn0)) hn ?_
     exact bE (i + 1) [] [] ⟨hlt, h2 hn0⟩
    ·rw [h1 hn0]
     exact wR (aI @hg (aI @au @hn0)) hn ah
   ·have : i = l.length := by omega
    subst this
    rw [List.take_length] at he
    rw [he]
    exact wR @au trivial ah
def EU (x : List Nat × Int) : Int := eF x.1 x.2
def itE (l : List (List Nat × Int)) : Int := if l.length < 1 ∨ 64 < l.length then 5 else sU EU l
theorem aeO (l : List (List Nat × Int)) : Pg.Good Tryz.prog 127 [fzt l] (vi (itE l)) := by
 refine gI oW Tryz.func127 Tryz.results127 ?_
 have hb := lT (l.length : Int) 1 64
 have hl := aB l
 unfold itE
 by_cases hs : l.length < 1 ∨ 64 < l.length
 ·rw [show bwE (l.length : Int) 1 64 = 5 from if_pos (by omega)] at hb
  rw [if_pos hs]
  exact wR @aB hb ah
 ·rw [show bwE (l.length : Int) 1 64 = 0 from if_neg (by omega)] at hb
  rw [if_neg hs]
  refine wS @aB hb ?_
  refine aK (fun i : Nat => mkA [(13, fzt l), (14, vi l.length), (15, vi i)] [] 0 (fun _ => .top)) (fun i => i ≤ l.length ∧ sU EU (l.take i) = 0) (fun i => l.length - i) 0 [] [] ?_ ⟨Nat.zero_le _, rfl⟩ ?_
  ·exact kE
  ·rintro i ⟨hi, he⟩
   rcases Nat.lt_or_ge i l.length with hlt | hge
   ·have hg := sS l i hlt
    have hx := getD_some l i ([], 0) hlt
    have h1 := BN EU l i _ hx he
    have h2 := vT EU l i _ hx he
    generalize l.getD i ([], 0) = x at hg h1 h2
    obtain ⟨k, n⟩ := x
    have hn := DD k n
    have hv : EU (k, n) = eF k n := rfl
    rw [hv] at h1 h2
    by_cases hn0 : eF k n = 0
    ·refine wS (aI @hg (aI @aB @hn0)) hn ?_
     exact bE (i + 1) [] [] ⟨hlt, h2 hn0⟩
    ·rw [h1 hn0]
     exact wR (aI @hg (aI @aB @hn0)) hn ah
   ·have : i = l.length := by omega
    subst this
    rw [List.take_length] at he
    rw [he]
    exact wR @aB trivial ah
def vq (k : Int) (key : List Nat) (c n d : Int) : Int :=
 if k < 1 ∨ 7 < k then 8 else
 if (k = 2 ∨ k = 6) ∧ ¬ (1 ≤ key.length ∧ key.length ≤ 32) then 7 else
 if k = 5 ∧ (c < 0 ∨ 32 < c) then 5 else
 if k = 7 ∧ (d < 1 ∨ 1000000 < d ∨ n < 0 ∨ d < n) then 5 else
 if (¬ (k = 2 ∨ k = 6) ∧ 0 < key.length) ∨ (k ≠ 5 ∧ c ≠ 0) ∨ (k ≠ 7 ∧ (n ≠ 0 ∨ d ≠ 0)) then 18 else 0
def bJ (k : Int) : List Int :=
 if k = 1 then [0, 3] else if k = 2 then [0] else if k = 3 then [0, 1] else if k = 5 then [0, 12] else if k = 6 then [0, 4, 5] else if k = 7 then [0, 1, 5] else if k = 8 then [0, 1, 5, 6, 7] else if k = 9 then [2]
 else if k = 10 then [8, 9, 12] else if k = 11 then [8] else if k = 12 ∨ k = 15 then [8, 9] else if k = 13 then [10, 11] else if k = 14 then [10] else if k = 16 then [0, 13] else []
def aot (k : Int) : V := if k = 4 ∨ k = 17 then .sl .nn 1 [] else if k < 1 ∨ 17 < k then nls else .sl (.own 0 3) 1 (iv (bJ k))
theorem aiM (k : Int) : Pg.Good Tryz.prog 72 [vi k] (aot k) := by
 refine gI oW Tryz.func72 Tryz.results72 ?_
 (repeat' first | refine wP trivial trivial ?_ | refine tS ?_ ?_ <;> intro hc | fail)
 all_goals (refine rT [0] ?_; first | rfl | simp only [pgo, simprocAttr] | skip)
 all_goals first | (subst_vars; rfl) | (rw [aot, if_neg (by omega), if_pos (by omega)])
def chk (o : O) : Nat → Int
 | 0 => nmE o.name
 | 1 => nmE o.other
 | 2 => lsE o.names
 | 3 => vp o.pk o.pz o.pd o.ps
 | 4 => itE o.items
 | 5 => shE o.coins 64
 | 6 => bwE o.exp 1 1048576
 | 7 => bwE o.src 1 1048576
 | 8 => bwE o.hnd 0 3
 | 9 => bwE o.idx 0 15
 | 10 => bwE o.cur 0 3
 | 11 => bwE o.cnt 0 32
 | 12 => vq o.qk o.qkey o.qc o.qn o.qd
 | _ => shE o.data 65536
def O.Oct (o : O) : Prop := oct o.name ∧ oct o.other ∧ (∀ x ∈ o.names, oct x) ∧ (∀ x ∈ o.items, oct x.1) ∧ oct o.coins ∧ oct o.qkey ∧ oct o.data
theorem aeP (k : Int) (key : List Nat) (c n d : Int) : Pg.Good Tryz.prog 130 [.agg [vi k, vs key, vi c, vi n, vi d]] (vi (vq k key c n d)) := by
 refine gI oW Tryz.func130 Tryz.results130 ?_
 skip
 (repeat' first | refine wP @kG trivial ?_ | refine cU (OY _) ?_ | refine tX (aI @kV @yx) ?_ ?_ <;> intro hc | fail)
 all_goals (refine rT [] ?_; first | rfl | simp only [pgo, simprocAttr] | skip)
 (all_goals (unfold vq; (repeat' split) <;> first | rfl | (exfalso; omega)))
theorem ZE (o : O) (ho : o.Oct) : Pg.Good Tryz.prog 73 [.agg (opF o), vi 0] (vi (chk o 0)) := by
 refine gI oW Tryz.func73 Tryz.results73 ?_
 (repeat' first | refine wP trivial trivial ?_ | refine cU (OZ _ ho.1) ?_ | refine tS ?_ ?_ <;> intro hc | fail)
 exact rE []
theorem ZF (o : O) (ho : o.Oct) : Pg.Good Tryz.prog 73 [.agg (opF o), vi 1] (vi (chk o 1)) := by
 refine gI oW Tryz.func73 Tryz.results73 ?_
 (repeat' first | refine wP trivial trivial ?_ | refine cU (OZ _ ho.2.1) ?_ | refine tS ?_ ?_ <;> intro hc | fail)
 exact rE []
theorem ZG (o : O) (ho : o.Oct) : Pg.Good Tryz.prog 73 [.agg (opF o), vi 2] (vi (chk o 2)) := by
 refine gI oW Tryz.func73 Tryz.results73 ?_
 (repeat' first | refine wP trivial trivial ?_ | refine cU (aiL _ ho.2.2.1) ?_ | refine tS ?_ ?_ <;> intro hc | fail)
 exact rE []
theorem ZH (o : O) (ho : o.Oct) : Pg.Good Tryz.prog 73 [.agg (opF o), vi 3] (vi (chk o 3)) := by
 refine gI oW Tryz.func73 Tryz.results73 ?_
 (repeat' first | refine wP trivial trivial ?_ | refine cU (zS _ _ _ _) ?_ | refine tS ?_ ?_ <;> intro hc | fail)
 exact rE []
theorem ZI (o : O) (ho : o.Oct) : Pg.Good Tryz.prog 73 [.agg (opF o), vi 4] (vi (chk o 4)) := by
 refine gI oW Tryz.func73 Tryz.results73 ?_
 (repeat' first | refine wP trivial trivial ?_ | refine cU (aeO _) ?_ | refine tS ?_ ?_ <;> intro hc | fail)
 exact rE []
theorem ZJ (o : O) (ho : o.Oct) : Pg.Good Tryz.prog 73 [.agg (opF o), vi 5] (vi (chk o 5)) := by
 refine gI oW Tryz.func73 Tryz.results73 ?_
 (repeat' first | refine wP trivial trivial ?_ | refine cU (Rj _ _) ?_ | refine tS ?_ ?_ <;> intro hc | fail)
 exact rE []
theorem ZK (o : O) (ho : o.Oct) : Pg.Good Tryz.prog 73 [.agg (opF o), vi 6] (vi (chk o 6)) := by
 refine gI oW Tryz.func73 Tryz.results73 ?_
 (repeat' first | refine wP trivial trivial ?_ | refine cU (lT _ _ _) ?_ | refine tS ?_ ?_ <;> intro hc | fail)
 exact rE []
theorem ZL (o : O) (ho : o.Oct) : Pg.Good Tryz.prog 73 [.agg (opF o), vi 7] (vi (chk o 7)) := by
 refine gI oW Tryz.func73 Tryz.results73 ?_
 (repeat' first | refine wP trivial trivial ?_ | refine cU (lT _ _ _) ?_ | refine tS ?_ ?_ <;> intro hc | fail)
 exact rE []
theorem ZM (o : O) (ho : o.Oct) : Pg.Good Tryz.prog 73 [.agg (opF o), vi 8] (vi (chk o 8)) := by
 refine gI oW Tryz.func73 Tryz.results73 ?_
 (repeat' first | refine wP trivial trivial ?_ | refine cU (lT _ _ _) ?_ | refine tS ?_ ?_ <;> intro hc | fail)
 exact rE []
theorem ZN (o : O) (ho : o.Oct) : Pg.Good Tryz.prog 73 [.agg (opF o), vi 9] (vi (chk o 9)) := by
 refine gI oW Tryz.func73 Tryz.results73 ?_
 (repeat' first | refine wP trivial trivial ?_ | refine cU (lT _ _ _) ?_ | refine tS ?_ ?_ <;> intro hc | fail)
 exact rE []
theorem U7 (o : O) (ho : o.Oct) : Pg.Good Tryz.prog 73 [.agg (opF o), vi 10] (vi (chk o 10)) := by
 refine gI oW Tryz.func73 Tryz.results73 ?_
 (repeat' first | refine wP trivial trivial ?_ | refine cU (lT _ _ _) ?_ | refine tS ?_ ?_ <;> intro hc | fail)
 exact rE []
theorem U8 (o : O) (ho : o.Oct) : Pg.Good Tryz.prog 73 [.agg (opF o), vi 11] (vi (chk o 11)) := by
 refine gI oW Tryz.func73 Tryz.results73 ?_
 (repeat' first | refine wP trivial trivial ?_ | refine cU (lT _ _ _) ?_ | refine tS ?_ ?_ <;> intro hc | fail)
 exact rE []
theorem U9 (o : O) (ho : o.Oct) : Pg.Good Tryz.prog 73 [.agg (opF o), vi 12] (vi (chk o 12)) := by
 refine gI oW Tryz.func73 Tryz.results73 ?_
 (repeat' first | refine wP trivial trivial ?_ | refine cU (aeP _ _ _ _ _) ?_ | refine tS ?_ ?_ <;> intro hc | fail)
 exact rE []
theorem Va (o : O) (ho : o.Oct) : Pg.Good Tryz.prog 73 [.agg (opF o), vi 13] (vi (chk o 13)) := by
 refine gI oW Tryz.func73 Tryz.results73 ?_
 (repeat' first | refine wP trivial trivial ?_ | refine cU (Rj _ _) ?_ | refine tS ?_ ?_ <;> intro hc | fail)
 exact rE []
theorem Rl (o : O) (ho : o.Oct) (f : Nat) (hf : f < 14) : Pg.Good Tryz.prog 73 [.agg (opF o), vi f] (vi (chk o f)) := by
 match f, hf with
 | 0, _ => exact ZE o ho
 | 1, _ => exact ZF o ho
 | 2, _ => exact ZG o ho
 | 3, _ => exact ZH o ho
 | 4, _ => exact ZI o ho
 | 5, _ => exact ZJ o ho
 | 6, _ => exact ZK o ho
 | 7, _ => exact ZL o ho
 | 8, _ => exact ZM o ho
 | 9, _ => exact ZN o ho
 | 10, _ => exact U7 o ho
 | 11, _ => exact U8 o ho
 | 12, _ => exact U9 o ho
 | 13, _ => exact Va o ho
theorem vbE {a b : Bool} (h : a = b) : vb a = vb b := by rw [h]
def zro (o : O) : Nat → Bool
 | 0 => decide (o.name.length = 0)
 | 1 => decide (o.other.length = 0)
 | 2 => decide (o.names.length = 0)
 | 3 => decide (o.pk = 0 ∧ o.pz = 0 ∧ o.pd = 0 ∧ o.ps = 0)
 | 4 => decide (o.items.length = 0)
 | 5 => decide (o.coins.length = 0)
 | 6 => decide (o.exp = 0)
 | 7 => decide (o.src = 0)
 | 8 => decide (o.hnd = 0)
 | 9 => decide (o.idx = 0)
 | 10 => decide (o.cur = 0)
 | 11 => decide (o.cnt = 0)
 | 12 => decide (o.qk = 0 ∧ o.qkey.length = 0 ∧ o.qc = 0 ∧ o.qn = 0 ∧ o.qd = 0)
 | _ => decide (o.data.length = 0)
theorem alf (o : O) : zro o 0 = decide (o.name.length = 0) := rfl
theorem aeQ (o : O) : Pg.Good Tryz.prog 74 [.agg (opF o), vi 0] (vb (zro o 0)) := by
 refine gI oW Tryz.func74 Tryz.results74 ?_
 have hl := aB o.items
 rw [alf]
 (repeat' first | refine wP (aI @kG (aI @aB (aI @ax @au))) trivial ?_ | refine tS ?_ ?_ <;> intro hc | fail)
 all_goals (refine rT [] ?_; first | rfl | simp only [pgo, simprocAttr] | skip)
 all_goals (refine vbE ?_; rw [Bool.eq_iff_iff]; simp only [decide_eq_true_eq, beq_iff_eq, Bool.and_eq_true] <;> omega)
theorem alg (o : O) : zro o 1 = decide (o.other.length = 0) := rfl
theorem aeR (o : O) : Pg.Good Tryz.prog 74 [.agg (opF o), vi 1] (vb (zro o 1)) := by
 refine gI oW Tryz.func74 Tryz.results74 ?_
 have hl := aB o.items
 rw [alg]
 (repeat' first | refine wP (aI @kG (aI @aB (aI @ax @au))) trivial ?_ | refine tS ?_ ?_ <;> intro hc | fail)
 all_goals (refine rT [] ?_; first | rfl | simp only [pgo, simprocAttr] | skip)
 all_goals (refine vbE ?_; rw [Bool.eq_iff_iff]; simp only [decide_eq_true_eq, beq_iff_eq, Bool.and_eq_true] <;> omega)
theorem alh (o : O) : zro o 2 = decide (o.names.length = 0) := rfl
theorem aeS (o : O) : Pg.Good Tryz.prog 74 [.agg (opF o), vi 2] (vb (zro o 2)) := by
 refine gI oW Tryz.func74 Tryz.results74 ?_
 have hl := aB o.items
 rw [alh]
 (repeat' first | refine wP (aI @kG (aI @aB (aI @ax @au))) trivial ?_ | refine tS ?_ ?_ <;> intro hc | fail)
 all_goals (refine rT [] ?_; first | rfl | simp only [pgo, simprocAttr] | skip)
 all_goals (refine vbE ?_; rw [Bool.eq_iff_iff]; simp only [decide_eq_true_eq, beq_iff_eq, Bool.and_eq_true] <;> omega)
theorem ali (o : O) : zro o 3 = decide (o.pk = 0 ∧ o.pz = 0 ∧ o.pd = 0 ∧ o.ps = 0) := rfl
theorem aeT (o : O) : Pg.Good Tryz.prog 74 [.agg (opF o), vi 3] (vb (zro o 3)) := by
 refine gI oW Tryz.func74 Tryz.results74 ?_
 have hl := aB o.items
 rw [ali]
 (repeat' first | refine wP (aI @kG (aI @aB (aI @ax @au))) trivial ?_ | refine tS ?_ ?_ <;> intro hc | fail)
 all_goals (refine rT [] ?_; first | rfl | simp only [pgo, simprocAttr] | skip)
 all_goals (refine vbE ?_; rw [Bool.eq_iff_iff]; simp only [decide_eq_true_eq, beq_iff_eq, Bool.and_eq_true] <;> omega)
theorem alj (o : O) : zro o 4 = decide (o.items.length = 0) := rfl
theorem aeU (o : O) : Pg.Good Tryz.prog 74 [.agg (opF o), vi 4] (vb (zro o 4)) := by
 refine gI oW Tryz.func74 Tryz.results74 ?_
 have hl := aB o.items
 rw [alj]
 (repeat' first | refine wP (aI @kG (aI @aB (aI @ax @au))) trivial ?_ | refine tS ?_ ?_ <;> intro hc | fail)
 all_goals (refine rT [] ?_; first | rfl | simp only [pgo, simprocAttr] | skip)
 all_goals (refine vbE ?_; rw [Bool.eq_iff_iff]; simp only [decide_eq_true_eq, beq_iff_eq, Bool.and_eq_true] <;> omega)
theorem alk (o : O) : zro o 5 = decide (o.coins.length = 0) := rfl
theorem aeV (o : O) : Pg.Good Tryz.prog 74 [.agg (opF o), vi 5] (vb (zro o 5)) := by
 refine gI oW Tryz.func74 Tryz.results74 ?_
 have hl := aB o.items
 rw [alk]
 (repeat' first | refine wP (aI @kG (aI @aB (aI @ax @au))) trivial ?_ | refine tS ?_ ?_ <;> intro hc | fail)
 all_goals (refine rT [] ?_; first | rfl | simp only [pgo, simprocAttr] | skip)
 all_goals (refine vbE ?_; rw [Bool.eq_iff_iff]; simp only [decide_eq_true_eq, beq_iff_eq, Bool.and_eq_true] <;> omega)
theorem alm (o : O) : zro o 6 = decide (o.exp = 0) := rfl
theorem aeW (o : O) : Pg.Good Tryz.prog 74 [.agg (opF o), vi 6] (vb (zro o 6)) := by
 refine gI oW Tryz.func74 Tryz.results74 ?_
 have hl := aB o.items
 rw [alm]
 (repeat' first | refine wP (aI @kG (aI @aB (aI @ax @au))) trivial ?_ | refine tS ?_ ?_ <;> intro hc | fail)
 all_goals (refine rT [] ?_; first | rfl | simp only [pgo, simprocAttr] | skip)
 all_goals (refine vbE ?_; rw [Bool.eq_iff_iff]; simp only [decide_eq_true_eq, beq_iff_eq, Bool.and_eq_true] <;> omega)
theorem aln (o : O) : zro o 7 = decide (o.src = 0) := rfl
theorem aeX (o : O) : Pg.Good Tryz.prog 74 [.agg (opF o), vi 7] (vb (zro o 7)) := by
 refine gI oW Tryz.func74 Tryz.results74 ?_
 have hl := aB o.items
 rw [aln]
 (repeat' first | refine wP (aI @kG (aI @aB (aI @ax @au))) trivial ?_ | refine tS ?_ ?_ <;> intro hc | fail)
 all_goals (refine rT [] ?_; first | rfl | simp only [pgo, simprocAttr] | skip)
 all_goals (refine vbE ?_; rw [Bool.eq_iff_iff]; simp only [decide_eq_true_eq, beq_iff_eq, Bool.and_eq_true] <;> omega)
theorem alo (o : O) : zro o 8 = decide (o.hnd = 0) := rfl
theorem aeY (o : O) : Pg.Good Tryz.prog 74 [.agg (opF o), vi 8] (vb (zro o 8)) := by
 refine gI oW Tryz.func74 Tryz.results74 ?_
 have hl := aB o.items
 rw [alo]
 (repeat' first | refine wP (aI @kG (aI @aB (aI @ax @au))) trivial ?_ | refine tS ?_ ?_ <;> intro hc | fail)
 all_goals (refine rT [] ?_; first | rfl | simp only [pgo, simprocAttr] | skip)
 all_goals (refine vbE ?_; rw [Bool.eq_iff_iff]; simp only [decide_eq_true_eq, beq_iff_eq, Bool.and_eq_true] <;> omega)
theorem alp (o : O) : zro o 9 = decide (o.idx = 0) := rfl
theorem aeZ (o : O) : Pg.Good Tryz.prog 74 [.agg (opF o), vi 9] (vb (zro o 9)) := by
 refine gI oW Tryz.func74 Tryz.results74 ?_
 have hl := aB o.items
 rw [alp]
 (repeat' first | refine wP (aI @kG (aI @aB (aI @ax @au))) trivial ?_ | refine tS ?_ ?_ <;> intro hc | fail)
 all_goals (refine rT [] ?_; first | rfl | simp only [pgo, simprocAttr] | skip)
 all_goals (refine vbE ?_; rw [Bool.eq_iff_iff]; simp only [decide_eq_true_eq, beq_iff_eq, Bool.and_eq_true] <;> omega)
theorem aiN (o : O) : zro o 10 = decide (o.cur = 0) := rfl
theorem ZO (o : O) : Pg.Good Tryz.prog 74 [.agg (opF o), vi 10] (vb (zro o 10)) := by
 refine gI oW Tryz.func74 Tryz.results74 ?_
 have hl := aB o.items
 rw [aiN]
 (repeat' first | refine wP (aI @kG (aI @aB (aI @ax @au))) trivial ?_ | refine tS ?_ ?_ <;> intro hc | fail)
 all_goals (refine rT [] ?_; first | rfl | simp only [pgo, simprocAttr] | skip)
 all_goals (refine vbE ?_; rw [Bool.eq_iff_iff]; simp only [decide_eq_true_eq, beq_iff_eq, Bool.and_eq_true] <;> omega)
theorem aiO (o : O) : zro o 11 = decide (o.cnt = 0) := rfl
theorem ZP (o : O) : Pg.Good Tryz.prog 74 [.agg (opF o), vi 11] (vb (zro o 11)) := by
 refine gI oW Tryz.func74 Tryz.results74 ?_
 have hl := aB o.items
 rw [aiO]
 (repeat' first | refine wP (aI @kG (aI @aB (aI @ax @au))) trivial ?_ | refine tS ?_ ?_ <;> intro hc | fail)
 all_goals (refine rT [] ?_; first | rfl | simp only [pgo, simprocAttr] | skip)
 all_goals (refine vbE ?_; rw [Bool.eq_iff_iff]; simp only [decide_eq_true_eq, beq_iff_eq, Bool.and_eq_true] <;> omega)
theorem aiP (o : O) : zro o 12 = decide (o.qk = 0 ∧ o.qkey.length = 0 ∧ o.qc = 0 ∧ o.qn = 0 ∧ o.qd = 0) := rfl
theorem ZQ (o : O) : Pg.Good Tryz.prog 74 [.agg (opF o), vi 12] (vb (zro o 12)) := by
 refine gI oW Tryz.func74 Tryz.results74 ?_
 have hl := aB o.items
 rw [aiP]
 (repeat' first | refine wP (aI @kG (aI @aB (aI @ax @au))) trivial ?_ | refine tS ?_ ?_ <;> intro hc | fail)
 all_goals (refine rT [] ?_; first | rfl | simp only [pgo, simprocAttr] | skip)
 all_goals (refine vbE ?_; rw [Bool.eq_iff_iff]; simp only [decide_eq_true_eq, beq_iff_eq, Bool.and_eq_true] <;> omega)
theorem aiQ (o : O) : zro o 13 = decide (o.data.length = 0) := rfl
theorem ZR (o : O) : Pg.Good Tryz.prog 74 [.agg (opF o), vi 13] (vb (zro o 13)) := by
 refine gI oW Tryz.func74 Tryz.results74 ?_
 have hl := aB o.items
 rw [aiQ]
 (repeat' first | refine wP (aI @kG (aI @aB (aI @ax @au))) trivial ?_ | refine tS ?_ ?_ <;> intro hc | fail)
 all_goals (refine rT [] ?_; first | rfl | simp only [pgo, simprocAttr] | skip)
 all_goals (refine vbE ?_; rw [Bool.eq_iff_iff]; simp only [decide_eq_true_eq, beq_iff_eq, Bool.and_eq_true] <;> omega)
theorem ZT (o : O) (f : Nat) (hf : f < 14) : Pg.Good Tryz.prog 74 [.agg (opF o), vi f] (vb (zro o f)) := by
 match f, hf with
 | 0, _ => exact aeQ o
 | 1, _ => exact aeR o
 | 2, _ => exact aeS o
 | 3, _ => exact aeT o
 | 4, _ => exact aeU o
 | 5, _ => exact aeV o
 | 6, _ => exact aeW o
 | 7, _ => exact aeX o
 | 8, _ => exact aeY o
 | 9, _ => exact aeZ o
 | 10, _ => exact ZO o
 | 11, _ => exact ZP o
 | 12, _ => exact ZQ o
 | 13, _ => exact ZR o
end Go.Proofs.YtjiolbcdfgclaaaGreatDoor
