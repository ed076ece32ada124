/-
  Texts of this claim, merged; own names are short.
-/
import Derived.Test.YtaoejnjkmfkbeaaGreatWAP
import Derived.Lib.Split
import Derived.Lib.SplitLaws
import Derived.Lib.CountLaws
import Derived.Lib.IndexMore
import Derived.Lib.Strings
import Derived.Test.YtaoejnjkmfkbeaaGreatWAL
import Derived.Lib.Join
import Derived.Test.YtaoejnjkmfkbeaaGreatWAN
set_option linter.unusedVariables false
set_option linter.unusedSimpArgs false
set_option linter.unusedSectionVars false
set_option linter.defProp false
set_option maxRecDepth 100000
set_option maxHeartbeats 8000000
section
namespace Go.Pg
open Go
def Ip (n : Nat) : Nat → V := fun i => if i < n then .ref i 0 else .top
inductive Pc where
 | v (x : V)
 | h (i c : Nat)
def Pc.inst (u : Nat → Nat → Value) : Pc → V
 | .v x => x
 | .h i c => .c (u i c)
def lB (B : List (TypeId × List V)) : Nat → Option (TypeId × List V) := fun i => B[i]?
def yD (u : Nat → Nat → Value) (B : List (TypeId × List Pc)) : List (TypeId × List V) := B.map fun x => (x.1, x.2.map (Pc.inst u))
def GoodB (P : Program) [Tb P] (g : FuncId) (args : List V) (B : List (TypeId × List Pc)) (k : Nat) (B' : List (TypeId × List Pc)) (k' : Nat) (r : V) : Prop :=
 ∀ u, GoodZ P g args ⟨Ip B.length, lB (yD u B), k, fun _ => .top⟩ ⟨Ip B.length, lB (yD u B'), k', fun _ => .top⟩ r
theorem yE (id : Nat) : aC id .top = .top := by unfold aC; split <;> rfl
def aap (O : List Nat) (n : Nat) : Tag → Tag
 | .fz => .fz
 | .nn => .nn
 | .own j e => .own (if j < O.length then O.getD j 0 else n + (j - O.length)) e
def aaq (Bx : List Nat) (b : Nat) : Nat := Bx.getD b 0
def ja : List Nat → V → V
 | [], v => v
 | i :: O, v => aC i (ja O v)
def vM : List Nat → (Nat → V) → Nat → V
 | [], e => e
 | i :: O, e => iM (aC i) (vM O e)
def Dx : List Nat → (Nat → Option (TypeId × List V)) → Nat → Option (TypeId × List V)
 | [], b => b
 | i :: O, b => mX (aC i) (Dx O b)
theorem Iq (O : List Nat) (e : Nat → V) (t : Nat) : vM O e t = ja O (e t) := by
 induction O with
 | nil => rfl
 | cons i O ih => show aC i (vM O e t) = aC i (ja O (e t)); rw [ih]
theorem VS (O : List Nat) (b : Nat → Option (TypeId × List V)) (t : Nat) : Dx O b t = (b t).map fun x => (x.1, x.2.map (ja O)) := by
 induction O with
 | nil => show b t = _; cases h : b t with
  | none => rfl
  | some x => show some x = some (x.1, x.2.map (fun v => v)); simp
 | cons i O ih =>
  show (Dx O b t).map (fun x => (x.1, x.2.map (aC i))) = _
  rw [ih]
  cases b t with
  | none => rfl
  | some x => simp only [Option.map_some, List.map_map]; rfl
def Ir : List Nat → List (TypeId × List V) → (Nat → Option (TypeId × List V)) → Nat → Option (TypeId × List V)
 | b :: bs, x :: xs, f => upd (Ir bs xs f) b (some x)
 | _, _, f => f
theorem Qm (b : Nat) (bs : List Nat) (x : TypeId × List V) (xs : List (TypeId × List V)) (f : Nat → Option (TypeId × List V)) : Ir (b :: bs) (x :: xs) f = upd (Ir bs xs f) b (some x) := rfl
theorem aar : ∀ (bs : List Nat) (xs : List (TypeId × List V)) (f : Nat → Option (TypeId × List V)) (b : Nat), bs.length = xs.length → Ir bs xs f b = if b ∈ bs then xs[bs.idxOf b]? else f b := by
 intro bs
 induction bs with
 | nil => intro xs f b h; cases xs with
  | nil => simp [Ir]
  | cons _ _ => simp at h
 | cons c bs ih =>
  intro xs f b h
  cases xs with
  | nil => simp at h
  | cons x xs =>
   rw [Qm]
   by_cases hb : b = c
   ·subst hb; simp [upd]
   ·rw [abT _ _ _ _ hb, ih xs f b (by simpa using h)]
    have : (b ∈ c :: bs) ↔ b ∈ bs := by simp [hb]
    by_cases hm : b ∈ bs
    ·rw [if_pos hm, if_pos (this.2 hm), List.idxOf_cons]
     have hc : (c == b) = false := by simpa using fun h => hb h.symm
     rw [hc]
     simp
    ·rw [if_neg hm, if_neg (fun h => hm (this.1 h))]
def Pc.back (O Bx : List Nat) (n : Nat) (H : Nat → Nat → V) : Pc → V
 | .v x => x.map (aap O n) (aaq Bx)
 | .h i c => ja O (H i c)
def Iu (O Bx : List Nat) (n : Nat) (H : Nat → Nat → V) (B : List (TypeId × List Pc)) : List (TypeId × List V) := B.map fun x => (x.1, x.2.map (Pc.back O Bx n H))
def Dy (Bx : List Nat) (b : Nat → Option (TypeId × List V)) (i c : Nat) : V := ((Bx[i]?).bind b).elim .top fun x => x.2.getD c .top
def Qn (O Bx : List Nat) (i : Nat) : Nat → List Pc → List V → Prop
 | _, [], [] => True
 | c, .v x :: ps, y :: ys => (y.any (Tag.notIn O) (oL Bx) false = false ∧ y.map (mQ O) (fun b => Bx.idxOf b) = x) ∧ Qn O Bx i (c + 1) ps ys
 | c, .h i' c' :: ps, _ :: ys => (i' = i ∧ c' = c) ∧ Qn O Bx i (c + 1) ps ys
 | _, _, _ => False
def ac9 (O Bx : List Nat) (b : Nat → Option (TypeId × List V)) : Nat → List Nat → List (TypeId × List Pc) → Prop
 | _, [], [] => True
 | i, c :: cs, x :: xs => (∃ l, b c = some (x.1, l) ∧ Qn O Bx i 0 x.2 l) ∧ ac9 O Bx b (i + 1) cs xs
 | _, _, _ => False
def Tag.outB (no k' : Nat) : Tag → Bool
 | .fz => false
 | .nn => false
 | .own j _ => !decide (j < max no k')
def Pc.okB (no k' nb : Nat) : Pc → Bool
 | .v x => !x.any (Tag.outB no k') (fun b => !decide (b < nb)) false
 | .h _ _ => true
section
variable {L L' : Lay} {w w' : World}
theorem Trans.comp {p p2 : Tag → Bool} {L3 : Lay} {w3 : World} (K : Trans p (fun _ => false) id id L L' w w') (K2 : Trans p2 (fun _ => false) id id L' L3 w' w3) : Trans (fun t => p t || p2 t) (fun _ => false) id id L L3 w w3 where
 fz' := rfl
 A := fun g h => by
  obtain ⟨h1, h2⟩ := K.A g h
  obtain ⟨h3, h4⟩ := K2.A g h1
  exact ⟨h3, fun arr e fr hg => by obtain ⟨fr', h5⟩ := h2 arr e fr hg; exact h4 arr e fr' h5⟩
 own := fun i e hi g h => by
  simp only [Bool.or_eq_false_iff] at hi
  obtain ⟨h1, h2⟩ := K.own i e hi.1 g h
  obtain ⟨h3, h4⟩ := K2.own i e hi.2 g h1.2
  exact ⟨h3, h4.trans h2⟩
 box := fun b _ g h => K2.box b rfl g (K.box b rfl g h)
theorem oh {O : List Nat} (K : Trans (fun t => match t with | .own i _ => O.contains i | _ => false) (fun _ => false) id id L L' w w') {v : V} {u : Value} (h : Rep L w v u) : Rep L' w' (ja O v) u := by
 by_cases hv : v.any (fun t => match t with | .own i _ => O.contains i | _ => false) (fun _ => false) false = false
 ·have h1 := h.trans rfl K hv
  rw [map_id.1] at h1
  have : ∀ O', (∀ i ∈ O', i ∈ O) → ja O' v = v := by
   intro O'
   induction O' with
   | nil => intro _; rfl
   | cons i O' ih =>
    intro hsub
    show aC i (ja O' v) = v
    rw [ih fun j hj => hsub j (List.mem_cons_of_mem _ hj)]
    unfold aC
    rw [if_neg]
    have h2 := (Nq (p := fun t => match t with | .own i _ => O.contains i | _ => false) (p' := Tag.is i) (q := fun _ => false) (q' := fun _ => false) (fun t ht => by
     cases t with
     | own j e =>
      simp only [Tag.is, beq_iff_eq] at ht
      subst ht
      simpa using hsub j (by simp)
     | _ => simp [Tag.is] at ht) (fun b hb => by cases hb)).1 v hv
    simp [V.has, h2]
  rw [this O fun _ h => h]
  exact h1
 ·
  have : ja O v = .top := by
   have key : ∀ O' : List Nat, (ja O' v = .top ∨ (ja O' v = v ∧ ∀ i ∈ O', v.has i = false)) := by
    intro O'
    induction O' with
    | nil => exact .inr ⟨rfl, fun _ h => by cases h⟩
    | cons i O' ih =>
     show aC i (ja O' v) = .top ∨ _
     rcases ih with h1 | ⟨h1, h2⟩
     ·left; rw [h1]; exact yE i
     ·rw [h1]
      cases hi : v.has i with
      | true => left; unfold aC; rw [hi]; rfl
      | false =>
       right
       refine ⟨?_, fun j hj => by rcases List.mem_cons.1 hj with rfl | hj; exact hi; exact h2 j hj⟩
       show aC i (ja O' v) = v
       rw [h1]; unfold aC; rw [hi]; rfl
   rcases key O with h1 | ⟨_, h2⟩
   ·exact h1
   ·exfalso
    apply hv
    have hA : (∀ x : V, (∀ i ∈ O, x.any (Tag.is i) (fun _ => false) false = false) → x.any (fun t => match t with | .own i _ => O.contains i | _ => false) (fun _ => false) false = false) ∧ (∀ l : List V, (∀ i ∈ O, V.anyL (Tag.is i) (fun _ => false) false l = false) → V.anyL (fun t => match t with | .own i _ => O.contains i | _ => false) (fun _ => false) false l = false) := by
     have ht : ∀ t : Tag, (∀ i ∈ O, t.is i = false) → (match t with | .own i _ => O.contains i | _ => false) = false := by
      intro t h
      cases t with
      | own j e =>
       simp only [Tag.is, beq_eq_false_iff_ne] at h
       simp only [List.contains_eq_mem, decide_eq_false_iff_not]
       exact fun hj => h j hj rfl
      | _ => rfl
     refine V.ind ?_ ?_ ?_ ?_ ?_ ?_ ?_ ?_ ?_ ?_ ?_ ?_
     ·intro _ _; rfl
     ·intro _; rfl
     ·intro t k xs _ h; exact ht t h
     ·intro t es h; exact ht t h
     ·intro cs ih h; exact ih h
     ·intro cs ih h; exact ih h
     ·intro _ _ _; rfl
     ·intro t k xs i o _ h; exact ht t h
     ·intro f fs cs ih1 ih2 h
      simp only [V.any, Bool.or_eq_false_iff] at h ⊢
      exact ⟨ih1 fun i hi => (h i hi).1, ih2 fun i hi => (h i hi).2⟩
     ·intro _; rfl
     ·intro _; rfl
     ·intro x xs ih1 ih2 h
      simp only [V.anyL, Bool.or_eq_false_iff] at h ⊢
      exact ⟨ih1 fun i hi => (h i hi).1, ih2 fun i hi => (h i hi).2⟩
    exact hA.1 v h2
  rw [this]; trivial
end
theorem aas {O Bx : List Nat} {b : Nat → Option (TypeId × List V)} : ∀ (cs : List Nat) (i : Nat) (B : List (TypeId × List Pc)), ac9 O Bx b i cs B → cs.length = B.length ∧ ∀ j x, B[j]? = some x → ∃ c l, cs[j]? = some c ∧ b c = some (x.1, l) ∧ Qn O Bx (i + j) 0 x.2 l := by
 intro cs
 induction cs with
 | nil => intro i B h; cases B with
  | nil => exact ⟨rfl, fun j x hj => by simp at hj⟩
  | cons _ _ => exact h.elim
 | cons c cs ih =>
  intro i B h
  cases B with
  | nil => exact h.elim
  | cons x B =>
   obtain ⟨⟨l, h1, h2⟩, h3⟩ := h
   obtain ⟨h4, h5⟩ := ih (i + 1) B h3
   refine ⟨by simp [h4], fun j y hj => ?_⟩
   cases j with
   | zero => simp at hj; subst hj; exact ⟨c, l, rfl, h1, h2⟩
   | succ j =>
    obtain ⟨c', l', k1, k2, k3⟩ := h5 j y (by simpa using hj)
    exact ⟨c', l', by simpa using k1, k2, by rw [show i + (j + 1) = i + 1 + j by omega]; exact k3⟩
theorem Qo {O Bx : List Nat} {i : Nat} {L L0 : Lay} {w : World} {u : Nat → Nat → Value} (K : Trans (Tag.notIn O) (oL Bx) (mQ O) (fun b => Bx.idxOf b) L L0 w w) : ∀ (ps : List Pc) (l : List V) (us : List Value) (c : Nat),
  Qn O Bx i c ps l → Reps L w l us → (∀ j x, us[j]? = some x → u i (c + j) = x) → Reps L0 w (ps.map (Pc.inst u)) us := by
 intro ps
 induction ps with
 | nil => intro l us c h hr _; cases l with
  | nil => exact hr
  | cons _ _ => exact h.elim
 | cons p ps ih =>
  intro l us c h hr hu
  cases l with
  | nil => cases p <;> exact h.elim
  | cons y ys =>
   obtain ⟨x, r, rfl, h1, h2⟩ := hr
   have hn := fun h' => ih ys r (c + 1) h' h2 (fun j z hj => by have := hu (j + 1) z (by simpa using hj); rw [show c + (j + 1) = c + 1 + j by omega] at this; exact this)
   cases p with
   | v q =>
    obtain ⟨⟨h3, h4⟩, h5⟩ := h
    refine ⟨x, r, rfl, ?_, hn h5⟩
    have := h1.trans rfl K h3
    rw [h4] at this
    exact this
   | h i' c' =>
    obtain ⟨⟨rfl, rfl⟩, h5⟩ := h
    refine ⟨x, r, rfl, ?_, hn h5⟩
    exact (hu 0 x rfl).symm
theorem GoodB.frame {P : Program} [Tb P] {g : FuncId} {args0 : List V} {B B' : List (TypeId × List Pc)} {k k' : Nat} {r : V} (hg : GoodB P g args0 B k B' k' r) (O Bx : List Nat) {args : List V} {e : Nat → V} {bx : Nat → Option (TypeId × List V)} {n : Nat} {h : Nat → V}
  (hargs : V.anyL (Tag.notIn O) (oL Bx) false args = false ∧ V.mapL (mQ O) (fun b => Bx.idxOf b) args = args0) (hfit : ac9 O Bx bx 0 Bx B)
  (hO : O.Nodup) (hBx : Bx.Nodup) (hOn : ∀ j ∈ O, j < n) (hkO : O.length ≤ k) (hkB : B.length ≤ k) (hl : B'.length = B.length)
  (hok : (B'.all fun x => x.2.all (Pc.okB O.length k' B.length)) = true) (hrok : r.any (Tag.outB O.length k') (fun b => !decide (b < B.length)) false = false) :
  GoodZ P g args ⟨e, bx, n, h⟩ ⟨vM O e, Ir Bx (Iu O Bx n (Dy Bx bx) B') (Dx O bx), n + (k' - O.length), vM O h⟩ (r.map (aap O n) (aaq Bx)) := by
 intro C L a w cargs hT S hr
 have W := S.wf
 obtain ⟨hlen, hfit⟩ := aas Bx 0 B hfit
 let T : Nat → Prop := fun g => (∃ j ∈ O, L.own j = some g) ∨ (∃ b ∈ Bx, L.box b = some g)
 have hTlt : ∀ g, T g → g < w.heap.size ∧ (C.B ≤ g ∨ C.Wr g) ∧ ¬ L.A g := by
  rintro g (⟨j, _, h⟩ | ⟨b, _, h⟩)
  ·exact W.own j g h
  ·exact W.boxW b g h
 let blk : Nat → Nat := fun i => ((Bx[i]?).bind L.box).getD 0
 let u : Nat → Nat → Value := fun i c => match w.heap[blk i]? with | some (.cells arr _ _) => arr.getD c undef | _ => undef
 let C0 : Cx := { n := B.length, A0 := L.A, Wr := T, w0 := w }
 let a0 : Act := { tmps := ((List.range B.length).map fun i => Value.pointer (some ⟨blk i, 0, none⟩)).toArray, defers := [] }
 let L0 : Lay := { A := L.A, own := fun j => (O[j]?).bind L.own, box := fun i => (Bx[i]?).bind L.box }
 have hB := S.hB
 have hkp : ∀ w', Kp T w.heap.size w w' → Kp C.Wr C.B C.w0 w' := fun w' hk => S.kp.trans (hk.mono hB fun g hgB hg => by
  rcases (hTlt g hg).2.1 with h1 | h1
  ·omega
  ·exact h1)
 have hT0 : C0.TOk P := fun w' hk => hT w' (hkp w' hk)
 have K0 : Trans (Tag.notIn O) (oL Bx) (mQ O) (fun b => Bx.idxOf b) L L0 w w := by
  refine ⟨rfl, fun g h => ⟨h, .of rfl⟩, fun i e hi g h => ⟨⟨rfl, ?_⟩, rfl⟩, fun b hb g h => ?_⟩
  ·have hm : i ∈ O := by simpa [Tag.notIn] using hi
   simp only [L0, iU O i hm, Option.bind_some, h]
  ·have hm : b ∈ Bx := by simpa [oL] using hb
   simp only [L0, iU Bx b hm, Option.bind_some, h]
 have hbox : ∀ i x, B[i]? = some x → ∃ c l g arr, Bx[i]? = some c ∧ bx c = some (x.1, l) ∧ Qn O Bx i 0 x.2 l ∧ L.box c = some g ∧ blk i = g ∧ w.heap[g]? = some (.cells arr x.1 (0, 0)) ∧ Reps L w l arr.toList := by
  intro i x hx
  obtain ⟨c, l, h1, h2, h3⟩ := hfit i x hx
  obtain ⟨g, arr, h4, h5, h6⟩ := S.box c _ h2
  rw [Nat.zero_add] at h3
  exact ⟨c, l, g, arr, h1, h2, h3, h4, by simp only [blk, h1, Option.bind_some, h4, Option.getD_some], h5, h6⟩
 have hsome : ∀ i, i < B.length → ∃ x, B[i]? = some x := fun i hi => ⟨B[i], List.getElem?_eq_getElem hi⟩
 have lt : ∀ (x : List Nat) (f : Nat → Option Nat) j g, (x[j]?).bind f = some g → j < x.length ∧ ∃ i, x[j]? = some i ∧ f i = some g := by
  intro x f j g h
  simp only [Option.bind_eq_some_iff] at h
  obtain ⟨i, h1, h2⟩ := h
  exact ⟨(List.getElem?_eq_some_iff.1 h1).1, i, h1, h2⟩
 have S0 : Sim C0 ⟨Ip B.length, lB (yD u B), k, fun _ => .top⟩ L0 a0 w := by
  refine ⟨rfl, by simp [a0, C0], fun t => ?_, fun _ => trivial, fun i cs hc => ?_, ?_, Kp.refl _ _ _⟩
  ·show Rep L0 w (Ip B.length t) (a0.tmps.getD t undef)
   unfold Ip
   split
   ·rename_i ht
    obtain ⟨x, hx⟩ := hsome t ht
    obtain ⟨c, l, g, arr, h1, h2, h3, h4, h5, h6, h7⟩ := hbox t x hx
    refine ⟨g, by simp only [L0, h1, Option.bind_some, h4], ?_⟩
    simp [a0, ht, h5]
   ·trivial
  ·have hc : lB (yD u B) i = some cs := hc
   simp only [lB, yD, List.getElem?_map, Option.map_eq_some_iff] at hc
   obtain ⟨x, hx, rfl⟩ := hc
   obtain ⟨c, l, g, arr, h1, h2, h3, h4, h5, h6, h7⟩ := hbox i x hx
   refine ⟨g, arr, by simp only [L0, h1, Option.bind_some, h4], h6, ?_⟩
   refine Qo K0 x.2 l arr.toList 0 h3 h7 (fun j z hj => ?_)
   simp only [u, h5, h6, Nat.zero_add]
   simp only [Array.getElem?_toList] at hj
   simp [Array.getD_eq_getD_getElem?, hj]
  ·exact {
    nidO := fun j g h => by have := (lt O L.own j g h).1; show j < k; omega
    nidB := fun j g h => by have := (lt Bx L.box j g h).1; show j < k; omega
    own := fun j g h => by
     obtain ⟨_, i, h1, h2⟩ := lt O L.own j g h
     exact ⟨(W.own i g h2).1, .inr (.inl ⟨i, List.mem_of_getElem? h1, h2⟩), (W.own i g h2).2.2⟩
    boxW := fun j g h => by
     obtain ⟨_, i, h1, h2⟩ := lt Bx L.box j g h
     exact ⟨(W.boxW i g h2).1, .inr (.inr ⟨i, List.mem_of_getElem? h1, h2⟩), (W.boxW i g h2).2.2⟩
    injO := fun i j g hi hj => by
     obtain ⟨h0, i', h1, h2⟩ := lt O L.own i g hi
     obtain ⟨_, j', h3, h4⟩ := lt O L.own j g hj
     have := W.injO i' j' g h2 h4
     subst this
     exact (List.getElem?_inj h0 hO).1 (h1.trans h3.symm)
    injB := fun i j g hi hj => by
     obtain ⟨h0, i', h1, h2⟩ := lt Bx L.box i g hi
     obtain ⟨_, j', h3, h4⟩ := lt Bx L.box j g hj
     have := W.injB i' j' g h2 h4
     subst this
     exact (List.getElem?_inj h0 hBx).1 (h1.trans h3.symm)
    dis := fun i j g hi hj => by
     obtain ⟨_, i', _, h2⟩ := lt O L.own i g hi
     obtain ⟨_, j', _, h4⟩ := lt Bx L.box j g hj
     exact W.dis i' j' g h2 h4
    old := W.old
    frz := fun g h => .inl h }
 have hr0 : Reps L0 w args0 cargs := by
  have := hr.trans rfl K0 hargs.1
  rw [hargs.2] at this
  exact this
 have post : ∀ w' L' (x : Value), Sim C0 ⟨Ip B.length, lB (yD u B'), k', fun _ => .top⟩ L' a0 w' → Rep L' w' r x →
   ∃ L2, Sim C ⟨vM O e, Ir Bx (Iu O Bx n (Dy Bx bx) B') (Dx O bx), n + (k' - O.length), vM O h⟩ L2 a w' ∧ Rep L2 w' (r.map (aap O n) (aaq Bx)) x := by
  intro w' L' x S' hx
  have W' := S'.wf
  have hk0 : Kp T w.heap.size w w' := S'.kp
  have hsz := hk0.size
  have pin : ∀ i c g, Bx[i]? = some c → L.box c = some g → i < B.length → L'.box i = some g := by
   intro i c g h1 h2 hi
   have h3 := S'.env i
   have e1 : (⟨Ip B.length, lB (yD u B'), k', fun _ => .top⟩ : St).env i = .ref i 0 := by simp [Ip, hi]
   rw [e1] at h3
   obtain ⟨g', h4, h5⟩ := h3
   have h6 : a0.tmps.getD i undef = .pointer (some ⟨blk i, 0, none⟩) := by simp [a0, hi]
   rw [h6] at h5
   have h7 : blk i = g := by simp only [blk, h1, Option.bind_some, h2, Option.getD_some]
   simp only [Value.pointer.injEq, Option.some.injEq, Addr.mk.injEq, h7] at h5
   rw [h4, ← h5.1]
  have hin : ∀ i g, L'.box i = some g → i < B.length → ∃ c, Bx[i]? = some c ∧ L.box c = some g := by
   intro i g hg hi
   obtain ⟨y, hy⟩ := hsome i hi
   obtain ⟨c, l, g1, arr, h1, h2, h3, h4, h5, h6, h7⟩ := hbox i y hy
   have := pin i c g1 h1 h4 hi
   rw [this] at hg
   simp only [Option.some.injEq] at hg
   subst hg
   exact ⟨c, h1, h4⟩
  let L2 : Lay := { A := fun g => L.A g ∨ (L'.A g ∧ (w.heap.size ≤ g ∨ T g)), own := fun j => if j < n then (if j ∈ O then L'.own (O.idxOf j) else L.own j) else if j - n + O.length < max O.length k' then L'.own (j - n + O.length) else none, box := L.box }
  have own_cases : ∀ j g, L2.own j = some g → (j < n ∧ j ∉ O ∧ L.own j = some g) ∨ (j < n ∧ j ∈ O ∧ L'.own (O.idxOf j) = some g) ∨ (n ≤ j ∧ j - n + O.length < max O.length k' ∧ L'.own (j - n + O.length) = some g) := by
   intro j g hg
   simp only [L2] at hg
   split at hg
   ·rename_i h1
    split at hg
    ·rename_i h2; exact .inr (.inl ⟨h1, h2, hg⟩)
    ·rename_i h2; exact .inl ⟨h1, h2, hg⟩
   ·rename_i h1
    split at hg
    ·rename_i h2; exact .inr (.inr ⟨by omega, h2, hg⟩)
    ·cases hg
  have notT : ∀ j g, j ∉ O → L.own j = some g → ¬ T g := by
   rintro j g hj h1 (⟨i, hi, h2⟩ | ⟨b, hb, h2⟩)
   ·exact hj (W.injO i j g h2 h1 ▸ hi)
   ·exact W.dis j b g h1 h2
  have newO : ∀ j g, L'.own j = some g → g < w'.heap.size ∧ (w.heap.size ≤ g ∨ T g) ∧ ¬ L'.A g := fun j g hg => W'.own j g hg
  have wf : Wf C (n + (k' - O.length)) L2 w' := {
   nidO := fun j g hg => by
    rcases own_cases j g hg with h1 | h1 | h1
    ·omega
    ·omega
    ·omega
   nidB := fun b g hg => by have := W.nidB b g hg; have h1 : b < n := this; omega
   own := fun j g hg => by
    rcases own_cases j g hg with ⟨_, h1, h2⟩ | ⟨_, _, h2⟩ | ⟨_, _, h2⟩
    ·obtain ⟨h3, h4, h5⟩ := W.own j g h2
     refine ⟨by omega, h4, ?_⟩
     rintro (h6 | ⟨_, h6 | h6⟩)
     ·exact h5 h6
     ·omega
     ·exact notT j g h1 h2 h6
    all_goals
     obtain ⟨h3, h4, h5⟩ := newO _ g h2
     refine ⟨h3, ?_, ?_⟩
     ·rcases h4 with h4 | h4
      ·left; omega
      ·exact (hTlt g h4).2.1
     ·rintro (h6 | ⟨h6, _⟩)
      ·rcases h4 with h4 | h4
       ·have := W.old g h6; omega
       ·exact (hTlt g h4).2.2 h6
      ·exact h5 h6
   boxW := fun b g hg => by
    have hg : L.box b = some g := hg
    obtain ⟨h3, h4, h5⟩ := W.boxW b g hg
    refine ⟨by omega, h4, ?_⟩
    rintro (h6 | ⟨h6, h7 | h7⟩)
    ·exact h5 h6
    ·omega
    ·rcases h7 with ⟨i, _, h8⟩ | ⟨c, hc, h8⟩
     ·exact W.dis i b g h8 hg
     ·have hb := W.injB b c g hg h8
      subst hb
      have h9 := iU Bx b hc
      have h10 : Bx.idxOf b < B.length := by rw [← hlen]; exact List.idxOf_lt_length_of_mem hc
      exact (W'.boxW _ g (pin _ b g h9 hg h10)).2.2 h6
   injO := fun i j g hi hj => by
    have cl : ∀ m g, L.own m = some g → m ∉ O → (w.heap.size ≤ g ∨ T g) → False := fun m g h1 h2 h3 => by
     rcases h3 with h3 | h3
     ·have := (W.own m g h1).1; omega
     ·exact notT m g h2 h1 h3
    have ix : ∀ a b : Nat, a ∈ O → b ∈ O → O.idxOf a = O.idxOf b → a = b := fun a b h1 h2 h3 => by
     have e1 := iU O a h1
     have e2 := iU O b h2
     rw [h3, e2] at e1
     exact (Option.some.inj e1).symm
    have il : ∀ a : Nat, a ∈ O → O.idxOf a < O.length := fun a h => List.idxOf_lt_length_of_mem h
    rcases own_cases i g hi with ⟨_, h1, h2⟩ | ⟨_, h1, h2⟩ | ⟨h0, h1, h2⟩ <;> rcases own_cases j g hj with ⟨_, h3, h4⟩ | ⟨_, h3, h4⟩ | ⟨h5, h3, h4⟩
    ·exact W.injO i j g h2 h4
    ·exact (cl i g h2 h1 (newO _ g h4).2.1).elim
    ·exact (cl i g h2 h1 (newO _ g h4).2.1).elim
    ·exact (cl j g h4 h3 (newO _ g h2).2.1).elim
    ·exact ix i j h1 h3 (W'.injO _ _ g h2 h4)
    ·have := W'.injO _ _ g h2 h4; have := il i h1; omega
    ·exact (cl j g h4 h3 (newO _ g h2).2.1).elim
    ·have := W'.injO _ _ g h2 h4; have := il j h3; omega
    ·have := W'.injO _ _ g h2 h4; omega
   injB := W.injB
   dis := fun i b g hi hb => by
    have hb : L.box b = some g := hb
    have key : ∀ m, L'.own m = some g → False := fun m hm => by
     obtain ⟨h1, h2, h3⟩ := newO m g hm
     rcases h2 with h2 | h2
     ·have := (W.boxW b g hb).1; omega
     ·rcases h2 with ⟨i, _, h4⟩ | ⟨c, hc, h4⟩
      ·exact W.dis i b g h4 hb
      ·have hbc := W.injB b c g hb h4
       subst hbc
       have h9 := iU Bx b hc
       have h10 : Bx.idxOf b < B.length := by rw [← hlen]; exact List.idxOf_lt_length_of_mem hc
       exact W'.dis m _ g hm (pin _ b g h9 hb h10)
    rcases own_cases i g hi with ⟨_, h1, h2⟩ | ⟨_, _, h2⟩ | ⟨_, _, h2⟩
    ·exact W.dis i b g h2 hb
    ·exact key _ h2
    ·exact key _ h2
   old := fun g hg => by
    rcases hg with h1 | ⟨h1, _⟩
    ·have := W.old g h1; omega
    ·exact W'.old g h1
   frz := fun g hg => by
    rcases hg with h1 | ⟨h1, h2 | h2⟩
    ·exact W.frz g h1
    ·right; left; omega
    ·exact .inr (hTlt g h2).2.1 }
  have same : ∀ g, g < w.heap.size → ¬ T g → w'.heap[g]? = w.heap[g]? := fun g h1 h2 => hk0.block g h1 h2
  have K : Trans (fun t => match t with | .own i _ => O.contains i | _ => false) (fun _ => false) id id L L2 w w' := by
   refine ⟨rfl, fun g hg => ⟨.inl hg, .of (same g (W.old g hg) fun h1 => (hTlt g h1).2.2 hg)⟩, fun i e hi g hg => ⟨⟨rfl, ?_⟩, ?_⟩, fun b _ g hg => hg⟩
   ·have h1 : i ∉ O := by simpa using hi
    have h2 : i < n := W.nidO i g hg
    simp only [L2, if_pos h2, if_neg h1, hg]
   ·have h1 : i ∉ O := by simpa using hi
    exact same g (W.own i g hg).1 (notT i g h1 hg)
  have K2 : Trans (Tag.outB O.length k') (fun b => !decide (b < B.length)) (aap O n) (aaq Bx) L' L2 w' w' := by
   refine ⟨rfl, fun g hg => ⟨?_, .of rfl⟩, fun j e hj g hg => ⟨⟨rfl, ?_⟩, rfl⟩, fun b hb g hg => ?_⟩
   ·rcases W'.frz g hg with h1 | h1 | h1
    ·exact .inl h1
    ·exact .inr ⟨hg, .inl h1⟩
    ·exact .inr ⟨hg, .inr h1⟩
   ·have hj : j < max O.length k' := by simpa [Tag.outB] using hj
    show L2.own (if j < O.length then O.getD j 0 else n + (j - O.length)) = some g
    by_cases h1 : j < O.length
    ·rw [if_pos h1]
     have e1 : O.getD j 0 = O[j] := by simp [List.getD, h1]
     have h2 : O[j] ∈ O := List.getElem_mem h1
     have h3 : O[j] < n := hOn _ h2
     rw [e1]
     simp only [L2, if_pos h3, if_pos h2, List.Nodup.idxOf_getElem hO j h1, hg]
    ·rw [if_neg h1]
     have h2 : ¬ n + (j - O.length) < n := by omega
     have h3 : n + (j - O.length) - n + O.length = j := by omega
     simp only [L2, if_neg h2, h3, if_pos hj, hg]
   ·have hb : b < B.length := by simpa using hb
    obtain ⟨c, h1, h2⟩ := hin b g hg hb
    show L.box (Bx.getD b 0) = some g
    rw [List.getD_eq_getElem?_getD, h1]
    exact h2
  refine ⟨L2, ⟨S.defers, S.size, fun t => ?_, fun t => ?_, fun b cs hb => ?_, wf, hkp w' hk0⟩, hx.trans rfl K2 hrok⟩
  ·show Rep L2 w' (vM O e t) _
   rw [Iq]; exact oh K (S.env t)
  ·show Rep L2 w' (vM O h t) _
   rw [Iq]; exact oh K (S.hid t)
  ·have hb : Ir Bx (Iu O Bx n (Dy Bx bx) B') (Dx O bx) b = some cs := hb
   rw [aar _ _ _ _ (by simp [Iu, hl, hlen])] at hb
   split at hb
   ·rename_i hm
    have h9 := iU Bx b hm
    have h10 : Bx.idxOf b < B.length := by rw [← hlen]; exact List.idxOf_lt_length_of_mem hm
    generalize Bx.idxOf b = i at hb h9 h10
    simp only [Iu, List.getElem?_map, Option.map_eq_some_iff] at hb
    obtain ⟨y, hy, rfl⟩ := hb
    obtain ⟨g, arr, h1, h2, h3⟩ := S'.box i (y.1, y.2.map (Pc.inst u)) (by simp [lB, yD, hy])
    obtain ⟨c, h4, h5⟩ := hin i g h1 h10
    rw [h9] at h4
    simp only [Option.some.injEq] at h4
    subst h4
    refine ⟨g, arr, h5, h2, ?_⟩
    have hyok : ∀ p ∈ y.2, p.okB O.length k' B.length = true := by
     have := List.all_eq_true.1 hok y (List.mem_of_getElem? hy)
     exact fun p hp => List.all_eq_true.1 this p hp
    have hcell : ∀ i c, Rep L2 w' (ja O (Dy Bx bx i c)) (u i c) := by
     intro i c
     refine oh K ?_
     unfold Dy
     cases hi : Bx[i]? with
     | none => trivial
     | some b1 =>
      simp only [Option.bind_some]
      cases hb1 : bx b1 with
      | none => trivial
      | some z =>
       show Rep L w (z.2.getD c .top) (u i c)
       obtain ⟨g1, arr1, k1, k2, k3⟩ := S.box b1 z hb1
       have e1 : blk i = g1 := by simp only [blk, hi, Option.bind_some, k1, Option.getD_some]
       have e2 : u i c = arr1.getD c undef := by simp only [u, e1, k2]
       rw [e2, List.getD_eq_getElem?_getD]
       cases hc : z.2[c]? with
       | none => trivial
       | some v =>
        obtain ⟨x1, k4, k5⟩ := k3.get hc
        simp only [Array.getElem?_toList] at k4
        simpa [Array.getD_eq_getD_getElem?, k4] using k5
    have fin : ∀ (ps : List Pc) (us : List Value), (∀ p ∈ ps, p.okB O.length k' B.length = true) → Reps L' w' (ps.map (Pc.inst u)) us → Reps L2 w' (ps.map (Pc.back O Bx n (Dy Bx bx))) us := by
     intro ps
     induction ps with
     | nil => intro us _ h; exact h
     | cons p ps ih =>
      rintro us hp ⟨x, r, rfl, k1, k2⟩
      refine ⟨x, r, rfl, ?_, ih r (fun q hq => hp q (List.mem_cons_of_mem _ hq)) k2⟩
      have hp0 := hp p (by simp)
      cases p with
      | v q =>
       have k1 : Rep L' w' q x := k1
       exact k1.trans rfl K2 (by simpa [Pc.okB] using hp0)
      | h i c =>
       have k1 : x = u i c := k1
       subst k1
       exact hcell i c
    exact fin y.2 arr.toList hyok h3
   ·rename_i hm
    rw [VS] at hb
    simp only [Option.map_eq_some_iff] at hb
    obtain ⟨y, hy, rfl⟩ := hb
    obtain ⟨g, arr, h1, h2, h3⟩ := S.box b y hy
    have hnt : ¬ T g := by
     rintro (⟨i, _, h4⟩ | ⟨c, hc, h4⟩)
     ·exact W.dis i b g h4 h1
     ·exact hm (W.injB c b g h4 h1 ▸ hc)
    refine ⟨g, arr, h1, (same g (W.boxW b g h1).1 hnt).trans h2, ?_⟩
    exact zT (fun v x hv => oh K hv) h3
 rcases hg u C0 L0 a0 w cargs hT0 S0 hr0 with ⟨h1, h2⟩ | ⟨x, w', L', h1, h2, h3⟩
 ·exact .inl ⟨h1, h2.mono fun _ w' ⟨x, L', he, hs, hr⟩ => by
   obtain ⟨L2, k1, k2⟩ := post w' L' x hs hr
   exact ⟨x, L2, he, k1, k2⟩⟩
 ·obtain ⟨L2, k1, k2⟩ := post w' L' x h2 h3
  exact .inr ⟨x, w', L2, h1, k1, k2⟩
end Go.Pg
end
section
namespace Go.Pg
open Go
section
variable {α : Type} [DecidableEq α]
end
end Go.Pg
end
namespace Go.Pg
open Go
end Go.Pg
namespace Go.Proofs.YtaoejnjkmfkbeaaGreat
open Go Go.Pg
theorem dqz {p : Prop} (h : p := by first | assumption | omega | (simp only [Fits, maxLen, pgq] at *; omega)) : p := h
def pgz := aI pgo (aI pgb (aI tyf @kZ))
def aeu := aI pgo (aI pgb tyf)
theorem rT {P : Program} {rs : List ResultVar} {r r0 : V} {s : St} (l : List Nat) (hr : r0.map (mQ l) id = r)
  (h : o7 P s rs = some r0 := by first | exact bU _ _ _ | exact Az _ _ _ _ | exact uA _ _ _ _ _ | exact xx _ _ _ _ _ _ | (simp (disch := first | exact dqz | fail) only [pgr, pgo, tyf, simprocAttr]; rfl))
  (hl : l.Nodup := by decide) (hi : r0.any (Tag.notIn l) (fun _ => true) false = false := by simp only [pgo, simprocAttr]) : PR P rs r s := AA l r0 h hl hi hr
theorem rE {P : Program} {rs : List ResultVar} {r r0 : V} {s : St} (l : List Nat)
  (h : o7 P s rs = some r0 := by first | exact bU _ _ _ | exact Az _ _ _ _ | exact uA _ _ _ _ _ | exact xx _ _ _ _ _ _ | (simp (disch := first | exact dqz | fail) only [pgr, pgo, tyf, simprocAttr]; rfl))
  (hl : l.Nodup := by decide) (hi : r0.any (Tag.notIn l) (fun _ => true) false = false := by simp only [pgo, simprocAttr]) (hr : r0.map (mQ l) id = r := by first | rfl | (simp only [pgo, simprocAttr]; done)) : PR P rs r s := AA l r0 h hl hi hr
def Ids (l : List Nat) : Prop := True
theorem ids (l : List Nat) : Ids l := trivial
theorem ah : Ids [] := trivial
theorem rI {P : Program} {rs : List ResultVar} {r r0 : V} {s : St} {l : List Nat} (hi0 : Ids l)
  (h : o7 P s rs = some r0 := by first | exact bU _ _ _ | exact Az _ _ _ _ | exact uA _ _ _ _ _ | exact xx _ _ _ _ _ _ | (simp (disch := first | exact dqz | fail) only [pgr, pgo, tyf, simprocAttr]; rfl))
  (hl : l.Nodup := by decide) (hi : r0.any (Tag.notIn l) (fun _ => true) false = false := by simp only [pgo, simprocAttr]) (hr : r0.map (mQ l) id = r := by first | rfl | (simp only [pgo, simprocAttr]; done)) : PR P rs r s := AA l r0 h hl hi hr
theorem cU {P : Program} [Tb P] {g : FuncId} {args : List Operand} {d : Option Nat} {s : St} {K : Kd → St → Prop} {vs : List V} {r : V} (hg : Pg.Good P g vs r) (hK : K (kc (.fn g [] [] :: args.map s.ev) [] r) (St.put { s with nid := s.nid + r.idb } d (r.shift s.nid)))
  (hvs : (args.map s.ev).map V.erase = vs := by exact rfl) (h1 : noRefs (args.map s.ev) = true := by exact rfl) (h2 : r.noRef = true := by exact rfl) (h3 : (ownFree (args.map s.ev) || r.flat) = true := by exact rfl) : cu P (.fn g [] []) args d s K := xw r hg hvs h1 h2 h3 hK
theorem cF {P : Program} [Tb P] {g : FuncId} {args : List Operand} {d : Option Nat} {s : St} {K : Kd → St → Prop} {vs : List V} {r : V} (hg : Pg.Good P g vs r) (hf : r.flat = true) (hK : K (kc (.fn g [] [] :: args.map s.ev) [] r) (St.put { s with nid := s.nid + r.idb } d (r.shift s.nid)))
  (hvs : (args.map s.ev).map V.erase = vs := by exact rfl) (h1 : noRefs (args.map s.ev) = true := by exact rfl) (h2 : r.noRef = true := by exact rfl) : cu P (.fn g [] []) args d s K := xw r hg hvs h1 h2 (by rw [Bool.or_eq_true]; exact .inr hf) hK
theorem cG {P : Program} [Tb P] {g : FuncId} {args : List Operand} {d : Option Nat} {s : St} {K : Kd → St → Prop} {vs : List V} (ids : List Nat) {r : V} (hg : Pg.Good P g vs r) (hK : K (kc (.fn g [] [] :: args.map s.ev) ids r) (St.put { s.freezeAll ids with nid := s.nid + r.idb } d (r.shift s.nid)))
  (hvs : (args.map (s.freezeAll ids).ev).map V.erase = vs := by exact rfl) (h1 : noRefs (args.map (s.freezeAll ids).ev) = true := by exact rfl) (h2 : r.noRef = true := by exact rfl) (h3 : (ownFree (args.map (s.freezeAll ids).ev) || r.flat) = true := by exact rfl) : cu P (.fn g [] []) args d s K := dh ids r hg hvs h1 h2 h3 hK
theorem cZ {P : Program} [Tb P] {g : FuncId} {args : List Operand} {d : Option Nat} {s s' : St} {K : Kd → St → Prop} {vs : List V} {r : V} (hg : Pg.GoodZ P g vs s s' r) (hK : K .z (s'.put d r)) (hvs : args.map s.ev = vs := by exact rfl) : cu P (.fn g [] []) args d s K := eu r hg hvs hK
theorem cA {P : Program} [Tb P] {m : Nat} {g : FuncId} {fs cs : List V} {args : List Operand} {d : Option Nat} {s : St} {K : Ka → St → Prop} {vs : List V} {r : V} (hg : Pg.Good P g vs r) (hK : K .q (St.put s d (r.shift m))) (hvs : (fs ++ args.map s.ev ++ cs).map V.erase = vs := by exact rfl) (h0 : ownFree (fs ++ cs) = true := by exact rfl) (h1 : noRefs (fs ++ args.map s.ev ++ cs) = true := by exact rfl)
  (h2 : r.noRef = true := by exact rfl) (h3 : (ownFree (args.map s.ev) || r.flat) = true := by exact rfl) (h5 : r.idb ≤ 1 := by exact Nat.le_of_ble_eq_true rfl) : qW P m (.fn g fs cs) args d s K := Qh r hg hvs h0 h1 h2 h3 h5 hK
theorem cAZ {P : Program} [Tb P] {m : Nat} {g : FuncId} {fs cs : List V} {args : List Operand} {d : Option Nat} {s s1 : St} {K : Ka → St → Prop} {vs : List V} {r : V} (hg : Pg.GoodZ P g vs s s1 r) (hK : K .z (s1.put d r)) (hvs : fs ++ args.map s.ev ++ cs = vs := by exact rfl) : qW P m (.fn g fs cs) args d s K := aag r hg hvs hK
theorem cK {ops : List Oper} {ks : List Kd} {q : Prop} (h2 : q) (h1 : xm ops ks = true := by kernel_rfl) : xm ops ks = true ∧ q := acQ h1 h2
theorem cKA {ops : List Oper} {ks : List Ka} {q : Prop} (h2 : q) (h1 : EJ ops ks = true := by kernel_rfl) : EJ ops ks = true ∧ q := aac h1 h2
theorem gI {D : Dw} (hD : jW Tryz.prog D) {f : FuncId} {fn : Func} {c : Code} {rs : List ResultVar} {args : List V} {r : V} (hf : Tryz.prog.funcs[f]? = some fn) (hrs : fn.results = rs.toArray) (h : wpS D Tryz.prog c (Yx Tryz.prog rs r) (Gv args))
  (hb : fn.body = some c := by exact rfl) (hn : (fn.name == "runtime.NumGoroutine") = false := by kernel_rfl) (hfit : wY fn.ntmps c = true := by kernel_rfl) (hlen : args.length ≤ fn.ntmps := by exact Nat.le_of_ble_eq_true (by kernel_rfl)) : Pg.Good Tryz.prog f args r := ji hD hf hb hrs hn hfit hlen h
theorem gZ {D : Dw} (hD : jW Tryz.prog D) {f : FuncId} {fn : Func} {c : Code} {rs : List ResultVar} {args : List V} {r : V} {s s' : St} (hf : Tryz.prog.funcs[f]? = some fn) (hrs : fn.results = rs.toArray) (h : wpS D Tryz.prog c (YF Tryz.prog rs s' r) (YE args s))
  (hb : fn.body = some c := by exact rfl) (hn : (fn.name == "runtime.NumGoroutine") = false := by kernel_rfl) (hfit : wY fn.ntmps c = true := by kernel_rfl) (hlen : args.length ≤ fn.ntmps := by exact Nat.le_of_ble_eq_true (by kernel_rfl)) : Pg.GoodZ Tryz.prog f args s s' r := G5 hD hf hb hrs hn hfit hlen h
theorem oW (l : List Nat := []) : jW Tryz.prog (dC l) := qR l mix
theorem oD (l : List Nat := []) : jW Tryz.prog (Pg.dD l) := VG l mix
theorem oG (l : List Nat := []) : jW Tryz.prog (Pg.dG l) := VP l mix
theorem tS {p q r : Prop} (hq : q) (hr : r) (h : q → r → p := by
  intro hq hr
  (with_reducible first | refine aQ (fun hc => ?_) (fun hc => ?_) | refine aB (fun hc => ?_) (fun hc => ?_) | refine bz (fun hc => ?_) (fun hc => ?_) | refine oM _ _ (fun hc => ?_) (fun hc => ?_))
  ·(try simp only [hc]); (try simp only [pgd] at hc); revert hc; exact hq
  ·(try simp only [hc]); (try simp only [pgd] at hc); revert hc; exact hr) : p := h hq hr
theorem tX {F p q r : Prop} (fx : F) (hq : q) (hr : r) (h : F → q → r → p := by
  intro fx hq hr
  (with_reducible first | refine aQ (fun hc => ?_) (fun hc => ?_) | refine aB (fun hc => ?_) (fun hc => ?_) | refine bz (fun hc => ?_) (fun hc => ?_) | refine oM _ _ (fun hc => ?_) (fun hc => ?_))
  ·(try simp only [hc]); (try simp only [pgd, fx] at hc); revert hc; exact hq
  ·(try simp only [hc]); (try simp only [pgd, fx] at hc); revert hc; exact hr) : p := h fx hq hr
theorem cS {C p q : Prop} (cx : C) (hq : q) (h : C → q → p := by
  intro cx hq
  (first
   | ((with_reducible show cu _ _ _ _ _ _); first | refine cU cx ?_ | refine cZ cx ?_ | refine cU cx.1 ?_ | refine cZ cx.1 ?_ | refine cU cx.2 ?_ | refine cZ cx.2 ?_ | refine cU cx.2.1 ?_ | refine cZ cx.2.1 ?_ | refine cU cx.2.2 ?_ | refine cZ cx.2.2 ?_ | refine cU cx.2.2.1 ?_ | refine cZ cx.2.2.1 ?_ | refine cU cx.2.2.2 ?_ | refine cZ cx.2.2.2 ?_ | refine cU cx.2.2.2.1 ?_ | refine cZ cx.2.2.2.1 ?_ | refine cU cx.2.2.2.2 ?_ | refine cZ cx.2.2.2.2 ?_ | refine cU cx.2.2.2.2.1 ?_ | refine cZ cx.2.2.2.2.1 ?_ | refine cU cx.2.2.2.2.2 ?_ | refine cZ cx.2.2.2.2.2 ?_ | refine cU cx.2.2.2.2.2.1 ?_ | refine cZ cx.2.2.2.2.2.1 ?_ | refine cU cx.2.2.2.2.2.2 ?_ | refine cZ cx.2.2.2.2.2.2 ?_ | refine cU cx.2.2.2.2.2.2.1 ?_ | refine cZ cx.2.2.2.2.2.2.1 ?_ | refine cU cx.2.2.2.2.2.2.2 ?_ | refine cZ cx.2.2.2.2.2.2.2 ?_ | refine cU cx.2.2.2.2.2.2.2.1 ?_ | refine cZ cx.2.2.2.2.2.2.2.1 ?_ | refine cU cx.2.2.2.2.2.2.2.2 ?_ | refine cZ cx.2.2.2.2.2.2.2.2 ?_ | refine cU cx.2.2.2.2.2.2.2.2.1 ?_ | refine cZ cx.2.2.2.2.2.2.2.2.1 ?_ | refine cU cx.2.2.2.2.2.2.2.2.2 ?_ | refine cZ cx.2.2.2.2.2.2.2.2.2 ?_ | refine cU cx.2.2.2.2.2.2.2.2.2.1 ?_ | refine cZ cx.2.2.2.2.2.2.2.2.2.1 ?_ | refine cU cx.2.2.2.2.2.2.2.2.2.2 ?_ | refine cZ cx.2.2.2.2.2.2.2.2.2.2 ?_ | refine cU cx.2.2.2.2.2.2.2.2.2.2.1 ?_ | refine cZ cx.2.2.2.2.2.2.2.2.2.2.1 ?_ | refine cU cx.2.2.2.2.2.2.2.2.2.2.2 ?_ | refine cZ cx.2.2.2.2.2.2.2.2.2.2.2 ?_ | refine cU cx.2.2.2.2.2.2.2.2.2.2.2.1 ?_ | refine cZ cx.2.2.2.2.2.2.2.2.2.2.2.1 ?_ | refine cU cx.2.2.2.2.2.2.2.2.2.2.2.2 ?_ | refine cZ cx.2.2.2.2.2.2.2.2.2.2.2.2 ?_ | refine cU cx.2.2.2.2.2.2.2.2.2.2.2.2.1 ?_ | refine cZ cx.2.2.2.2.2.2.2.2.2.2.2.2.1 ?_ | refine cU cx.2.2.2.2.2.2.2.2.2.2.2.2.2 ?_ | refine cZ cx.2.2.2.2.2.2.2.2.2.2.2.2.2 ?_)
   | ((with_reducible show qW _ _ _ _ _ _ _); first | refine cA cx ?_ | refine cAZ cx ?_ | refine cA cx.1 ?_ | refine cAZ cx.1 ?_ | refine cA cx.2 ?_ | refine cAZ cx.2 ?_ | refine cA cx.2.1 ?_ | refine cAZ cx.2.1 ?_ | refine cA cx.2.2 ?_ | refine cAZ cx.2.2 ?_ | refine cA cx.2.2.1 ?_ | refine cAZ cx.2.2.1 ?_ | refine cA cx.2.2.2 ?_ | refine cAZ cx.2.2.2 ?_ | refine cA cx.2.2.2.1 ?_ | refine cAZ cx.2.2.2.1 ?_ | refine cA cx.2.2.2.2 ?_ | refine cAZ cx.2.2.2.2 ?_ | refine cA cx.2.2.2.2.1 ?_ | refine cAZ cx.2.2.2.2.1 ?_ | refine cA cx.2.2.2.2.2 ?_ | refine cAZ cx.2.2.2.2.2 ?_ | refine cA cx.2.2.2.2.2.1 ?_ | refine cAZ cx.2.2.2.2.2.1 ?_ | refine cA cx.2.2.2.2.2.2 ?_ | refine cAZ cx.2.2.2.2.2.2 ?_ | refine cA cx.2.2.2.2.2.2.1 ?_ | refine cAZ cx.2.2.2.2.2.2.1 ?_ | refine cA cx.2.2.2.2.2.2.2 ?_ | refine cAZ cx.2.2.2.2.2.2.2 ?_ | refine cA cx.2.2.2.2.2.2.2.1 ?_ | refine cAZ cx.2.2.2.2.2.2.2.1 ?_ | refine cA cx.2.2.2.2.2.2.2.2 ?_ | refine cAZ cx.2.2.2.2.2.2.2.2 ?_ | refine cA cx.2.2.2.2.2.2.2.2.1 ?_ | refine cAZ cx.2.2.2.2.2.2.2.2.1 ?_ | refine cA cx.2.2.2.2.2.2.2.2.2 ?_ | refine cAZ cx.2.2.2.2.2.2.2.2.2 ?_ | refine cA cx.2.2.2.2.2.2.2.2.2.1 ?_ | refine cAZ cx.2.2.2.2.2.2.2.2.2.1 ?_ | refine cA cx.2.2.2.2.2.2.2.2.2.2 ?_ | refine cAZ cx.2.2.2.2.2.2.2.2.2.2 ?_ | refine cA cx.2.2.2.2.2.2.2.2.2.2.1 ?_ | refine cAZ cx.2.2.2.2.2.2.2.2.2.2.1 ?_ | refine cA cx.2.2.2.2.2.2.2.2.2.2.2 ?_ | refine cAZ cx.2.2.2.2.2.2.2.2.2.2.2 ?_ | refine cA cx.2.2.2.2.2.2.2.2.2.2.2.1 ?_ | refine cAZ cx.2.2.2.2.2.2.2.2.2.2.2.1 ?_ | refine cA cx.2.2.2.2.2.2.2.2.2.2.2.2 ?_ | refine cAZ cx.2.2.2.2.2.2.2.2.2.2.2.2 ?_ | refine cA cx.2.2.2.2.2.2.2.2.2.2.2.2.1 ?_ | refine cAZ cx.2.2.2.2.2.2.2.2.2.2.2.2.1 ?_ | refine cA cx.2.2.2.2.2.2.2.2.2.2.2.2.2 ?_ | refine cAZ cx.2.2.2.2.2.2.2.2.2.2.2.2.2 ?_))
  exact hq) : p := h cx hq
theorem wS {F C p q : Prop} (fx : F) (cx : C) (hq : q) (h : F → C → q → p := by intro fx cx hq; (repeat' (first | (simp (maxSteps := 2000000) (disch := first | exact dqz | fail) only [pgz, simprocAttr, fx]) | ((with_reducible first | apply aQ | apply aB | apply bz) <;> intro hc <;> (try simp only [hc]) <;> (try simp only [pgd] at hc)) | (with_reducible refine cK ?_) | (refine cS cx ?_) | fail)); all_goals exact hq) : p := h fx cx hq
theorem wP {F C p q : Prop} (fx : F) (cx : C) (hq : q) (h : F → C → q → p := by intro fx cx hq; (repeat1' (first | (simp (maxSteps := 2000000) (disch := first | exact dqz | fail) only [pgz, simprocAttr, fx]) | (with_reducible refine cK ?_) | (refine cS cx ?_) | fail)); all_goals exact hq) : p := h fx cx hq
theorem wR {F C p : Prop} (fx : F) (cx : C) {l : List Nat} (hi : Ids l) (h : F → C → Ids l → p := by intro fx cx hi; (repeat' (first | (simp (maxSteps := 2000000) (disch := first | exact dqz | fail) only [pgz, simprocAttr, fx]) | ((with_reducible first | apply aQ | apply aB | apply bz) <;> intro hc <;> (try simp only [hc]) <;> (try simp only [pgd] at hc)) | (with_reducible refine cK ?_) | (refine cS cx ?_) | fail)); all_goals exact rI hi) : p := h fx cx hi
theorem wP' {F C p q : Prop} (fx : F) (cx : C) (hq : q) (h : F → C → q → p := by intro fx cx hq; (repeat1' (first | (simp (maxSteps := 2000000) (disch := first | exact dqz | fail) only [aeu, simprocAttr, fx]) | (with_reducible refine cK ?_) | (refine cS cx ?_) | fail)); all_goals exact hq) : p := h fx cx hq
theorem wSA {F C p q : Prop} (fx : F) (cx : C) (hq : q) (h : F → C → q → p := by intro fx cx hq; (repeat' (first | (simp (maxSteps := 2000000) (disch := first | exact dqz | fail) only [pgz, pga, simprocAttr, fx]) | ((with_reducible first | apply aQ | apply aB | apply bz) <;> intro hc <;> (try simp only [hc]) <;> (try simp only [pgd] at hc)) | (with_reducible refine cKA ?_) | ((with_reducible show vK _ _ _ _ _); first | refine zy (by decide +kernel) ?_ | refine zA (by decide +kernel) ?_) | (with_reducible refine cK ?_) | (refine cS cx ?_) | fail)); all_goals exact hq) : p := h fx cx hq
theorem wPA {F C p q : Prop} (fx : F) (cx : C) (hq : q) (h : F → C → q → p := by intro fx cx hq; (repeat1' (first | (simp (maxSteps := 2000000) (disch := first | exact dqz | fail) only [pgz, pga, simprocAttr, fx]) | (with_reducible refine cKA ?_) | ((with_reducible show vK _ _ _ _ _); first | refine zy (by decide +kernel) ?_ | refine zA (by decide +kernel) ?_) | (with_reducible refine cK ?_) | (refine cS cx ?_) | fail)); all_goals exact hq) : p := h fx cx hq
theorem wRA {F C p : Prop} (fx : F) (cx : C) {l : List Nat} (hi : Ids l) (h : F → C → Ids l → p := by intro fx cx hi; (repeat' (first | (simp (maxSteps := 2000000) (disch := first | exact dqz | fail) only [pgz, pga, simprocAttr, fx]) | ((with_reducible first | apply aQ | apply aB | apply bz) <;> intro hc <;> (try simp only [hc]) <;> (try simp only [pgd] at hc)) | (with_reducible refine cKA ?_) | ((with_reducible show vK _ _ _ _ _); first | refine zy (by decide +kernel) ?_ | refine zA (by decide +kernel) ?_) | (with_reducible refine cK ?_) | (refine cS cx ?_) | fail)); all_goals exact rI hi) : p := h fx cx hi
theorem wRG {F C p : Prop} (fx : F) (cx : C) {l : List Nat} (hi : Ids l) (h : F → C → Ids l → p := by intro fx cx hi; (repeat' (first | (simp (maxSteps := 2000000) (disch := first | exact dqz | fail) only [pgz, pga, pgG, simprocAttr, fx]) | ((with_reducible first | apply aQ | apply aB | apply bz) <;> intro hc <;> (try simp only [hc]) <;> (try simp only [pgd] at hc)) | (with_reducible refine cKA ?_) | ((with_reducible show vK _ _ _ _ _); first | refine zy (by decide +kernel) ?_ | refine zA (by decide +kernel) ?_ | refine aan (by decide +kernel) ?_ | refine aao (by decide +kernel) ?_) | (with_reducible refine cK ?_) | (refine cS cx ?_) | fail)); all_goals exact rI hi) : p := h fx cx hi
theorem gz {p : Prop} (h : p := by first | exact trivial | exact au (by omega) | exact aU rfl | exact ak rfl rfl | exact bg rfl | exact di rfl) : p := h
theorem kM {l m : List Nat} {s : St} {X : List (Nat × V)} {B : List (Nat × TypeId × List V)} {n : Nat} (hX : GenA l m s.env X) (hB : GenB l m s.bx B) (hl : l.Nodup := by decide) (hm : m.Nodup := by decide) (hn : l.length ≤ n := by decide) (hn' : m.length ≤ n := by decide) : Keep l m s (mkA X B n (fun _ => .top)) := aN hX hB (bG _ _ _) hl hm hn hn'
def pgk := aI pgo (aI @ay (aI @aJ (aI @az (aI @aK (aI @aZ (aI @bV @bD))))))
theorem kE {p : Prop} (h : p := by refine kM ?_ ?_; (repeat' (first | exact trivial | refine aG _ _ rfl rfl ?_ ?_)); all_goals (try simp only [pgk, simprocAttr]); all_goals (try (repeat' apply aI)); all_goals exact gz) : p := h
theorem kL {p q : Prop} (hq : q) (h : q → p := by intro hq; refine kM ?_ ?_; (repeat' (first | exact trivial | refine aG _ _ rfl rfl ?_ ?_)); all_goals (try simp only [pgk, simprocAttr]); all_goals (try (repeat' apply aI)); all_goals (first | exact gz | exact hq)) : p := h hq
theorem bE {ι : Type} {S : ι → St} {Inv : ι → Prop} {μ : ι → Nat} {i : ι} {s : St} (j : ι) (l m : List Nat) (h1 : Inv j) (h2 : μ j < μ i := by first | omega | (simp only [List.length_cons]; omega)) (h3 : Keep l m s (S j) := by exact kE) : Dt S Inv μ i s := bu j l m h1 h2 h3
theorem bL {ι : Type} {S : ι → St} {Inv : ι → Prop} {μ : ι → Nat} {i : ι} {s : St} (j : ι) (l m : List Nat) (h1 : Inv j) (h3 : Keep l m s (S j)) (h2 : μ j < μ i := by first | omega | (simp only [List.length_cons]; omega)) : Dt S Inv μ i s := bu j l m h1 h2 h3
end Go.Proofs.YtaoejnjkmfkbeaaGreat
