/-
  The pure layer: contracts (Good), calls, regions, code.
-/
import Derived.Test.YtkgebocldjhflaaPgStore
namespace Go.Pg
open Go

/-! ### What a call hands back -/
structure ResLay (A : Nat → Prop) (w w' : World) (L : Lay) : Prop where
  A : ∀ g, L.A g → A g ∨ (w.heap.size ≤ g ∧ g < w'.heap.size)
  own : ∀ id g, L.own id = some g → w.heap.size ≤ g ∧ g < w'.heap.size ∧ ¬ L.A g
  inj : ∀ i j g, L.own i = some g → L.own j = some g → i = j

/-- The function may be entered. -/
def enters (P : Program) (f : FuncId) : Bool :=
  match P.funcs[f]? with
  | some fn => !(fn.name == "runtime.NumGoroutine") && fn.body.isSome
  | none => false

/-- A CONTRACT: called with values that stand for 'args' it returns one that stands for 'r'; nothing that was there has turned. -/
def Good (P : Program) (f : FuncId) (args : List V) (r : V) : Prop :=
  enters P f = true ∧ ∀ (A : Nat → Prop) (w : World) (cargs : List Value), (∀ g, A g → g < w.heap.size) → Reps ⟨A, fun _ => none, fun _ => none⟩ w args cargs →
    Calls P f cargs.toArray w fun e w' => ∃ u L, e = .returned u ∧ Rep L w' r u ∧ Kp (fun _ => False) w.heap.size w w' ∧ ResLay A w w' L

mutual
/-- One more than the greatest name. -/
def V.idb : V → Nat
  | .c _ => 0
  | .sl (.own id _) _ _ => id + 1
  | .sl .fz _ _ => 0
  | .agg cs => V.idbL cs
  | .tup cs => V.idbL cs
  | .ref _ _ => 0
  | .el (.own id _) _ _ _ _ => id + 1
  | .el .fz _ _ _ _ => 0
  | .fn _ fs cs => max (V.idbL fs) (V.idbL cs)
  | .top => 0
def V.idbL : List V → Nat
  | [] => 0
  | x :: xs => max (V.idb x) (V.idbL xs)
end

mutual
/-- No frozen memory in it, however deep. -/
def V.flat : V → Bool
  | .c _ => true
  | .sl (.own _ _) _ xs => V.flatL xs
  | .sl .fz _ _ => false
  | .agg cs => V.flatL cs
  | .tup cs => V.flatL cs
  | .ref _ _ => false
  | .el _ _ _ _ _ => false
  | .fn _ fs cs => V.flatL fs && V.flatL cs
  | .top => true
def V.flatL : List V → Bool
  | [] => true
  | x :: xs => V.flat x && V.flatL xs
end

def Tag.ge (n : Nat) : Tag → Bool
  | .fz => false
  | .own id _ => !decide (id < n)

theorem idb_any (n : Nat) : (∀ v : V, v.idb ≤ n → v.any (Tag.ge n) (fun _ => false) false = false) ∧ (∀ l, V.idbL l ≤ n → V.anyL (Tag.ge n) (fun _ => false) false l = false) := by
  refine V.ind ?_ ?_ ?_ ?_ ?_ ?_ ?_ ?_ ?_ ?_
  · intro v _; rfl
  · intro t k xs _ h; cases t with
    | fz => rfl
    | own id e => simp only [V.idb] at h; simp [V.any, Tag.ge]; omega
  · intro cs ih h; exact ih h
  · intro cs ih h; exact ih h
  · intro b o _; rfl
  · intro t k xs i o _ h; cases t with
    | fz => rfl
    | own id e => simp only [V.idb] at h; simp [V.any, Tag.ge]; omega
  · intro f fs cs h1 h2 h; simp only [V.idb] at h; simp [V.any, h1 (by omega), h2 (by omega)]
  · intro _; rfl
  · intro _; rfl
  · intro x xs h1 h2 h; simp only [V.idbL] at h; simp [V.anyL, h1 (by omega), h2 (by omega)]

theorem rep_flat {L : Lay} {w : World} (A : Nat → Prop) : (∀ v u, V.flat v = true → Rep L w v u → Rep { L with A := A } w v u) ∧
    (∀ l, (∀ us, V.flatL l = true → Reps L w l us → Reps { L with A := A } w l us) ∧ (∀ k us, V.flatL l = true → RepE L w k l us → RepE { L with A := A } w k l us)) := by
  refine V.ind ?_ ?_ ?_ ?_ ?_ ?_ ?_ ?_ ?_ ?_
  · intro v u _ h; exact h
  · rintro t k xs ⟨_, ih⟩ u hf ⟨a, cap, cells, h1, h2, h3⟩
    cases t with
    | fz => simp [V.flat] at hf
    | own id e => exact ⟨a, cap, cells, h1, ih k cells hf h2, h3⟩
  · rintro cs ⟨ih, _⟩ u hf ⟨a, h1, h2⟩; exact ⟨a, h1, ih _ hf h2⟩
  · rintro cs ⟨ih, _⟩ u hf ⟨a, h1, h2⟩; exact ⟨a, h1, ih _ hf h2⟩
  · intro b o u hf; simp [V.flat] at hf
  · intro t k xs i o _ u hf; simp [V.flat] at hf
  · rintro f fs cs ⟨ih1, _⟩ ⟨ih2, _⟩ u hf ⟨a, b, h1, h2, h3⟩
    simp only [V.flat, Bool.and_eq_true] at hf
    exact ⟨a, b, h1, ih1 _ hf.1 h2, ih2 _ hf.2 h3⟩
  · intro u _ _; trivial
  · exact ⟨fun us _ h => h, fun k us _ h => h⟩
  · rintro x xs ihx ⟨ih1, ih2⟩
    refine ⟨?_, ?_⟩
    · rintro us hf ⟨u, r, h1, h2, h3⟩
      simp only [V.flatL, Bool.and_eq_true] at hf
      exact ⟨u, r, h1, ihx u hf.1 h2, ih1 r hf.2 h3⟩
    · rintro k us hf ⟨u, r, h1, h2, h3, h4, h5⟩
      simp only [V.flatL, Bool.and_eq_true] at hf
      exact ⟨u, r, h1, h2, h3, ihx u hf.1 h4, ih2 k r hf.2 h5⟩

/-- As a callee sees an argument: nothing that it may write. -/
def V.erase (v : V) : V := v.map (fun _ => .fz) id
def V.shift (n : Nat) (v : V) : V := v.map (fun t => match t with | .fz => .fz | .own id e => .own (id + n) e) id
def V.noRef (v : V) : Bool := !v.any (fun _ => false) (fun _ => true) false
def ownFree (l : List V) : Bool := !V.anyL Tag.isOwn (fun _ => false) false l
def noRefs (l : List V) : Bool := !V.anyL (fun _ => false) (fun _ => true) false l

def St.freezeAll (s : St) : List Nat → St
  | [] => s
  | id :: ids => (s.mapV (frz id)).freezeAll ids

/-- How an operation stands to those beside it: it computes from what may not turn; it computes; it reads a variable; it makes or writes memory; it freezes. -/
inductive Kd where
  | p | q | r | x | z

/-- It says nothing of memory that may turn. -/
def V.calm (v : V) : Bool := !v.any Tag.isOwn (fun _ => true) false
/-- The kind of an operation that computes 'v' from 'l'. -/
def kq (l : List V) (v : V) : Kd := if l.all V.free && v.calm then .p else .q
def kc (l : List V) (ids : List Nat) (r : V) : Kd :=
  match ids with
  | [] => if r.idb = 0 then kq l r else .x
  | _ => .z

def callW (P : Program) (f : V) (args : List Operand) (d : Option Nat) (s : St) (K : Kd → St → Prop) : Prop :=
  match f with
  | .fn g fs cs => ∃ (ids : List Nat) (r : V), Good P g ((fs ++ args.map (s.freezeAll ids).ev ++ cs).map V.erase) r ∧ ownFree (fs ++ cs) = true ∧ noRefs (fs ++ args.map (s.freezeAll ids).ev ++ cs) = true ∧ r.noRef = true ∧
      (ownFree (args.map (s.freezeAll ids).ev) || r.flat) = true ∧ K (kc (f :: args.map s.ev) ids r) (St.put { s.freezeAll ids with nid := s.nid + r.idb } d (r.shift s.nid))
  | _ => False

section
variable {P : Program} {C : Cx} {s : St} {L L' : Lay} {a : Act} {w w' : World}

theorem freezeAll_nid (ids : List Nat) : ∀ s : St, (s.freezeAll ids).nid = s.nid := by
  induction ids with
  | nil => intro s; rfl
  | cons i ids ih => intro s; exact ih _

theorem Sim.freezeAll (ids : List Nat) : ∀ {s : St} {L : Lay}, Sim C s L a w → ∃ L', Sim C (s.freezeAll ids) L' a w ∧ ∀ v u, ownFree [v] = true → Rep L w v u → Rep L' w v u := by
  induction ids with
  | nil => intro s L S; exact ⟨L, S, fun v u _ h => h⟩
  | cons i ids ih =>
    intro s L S
    obtain ⟨S1, hψ⟩ := S.freeze i
    obtain ⟨L2, S2, h2⟩ := ih S1
    refine ⟨L2, S2, fun v u hv h => h2 v u hv ?_⟩
    have K : Trans Tag.isOwn (fun _ => false) _root_.id _root_.id L (L.freeze i) w w :=
      ⟨rfl, fun g h => ⟨.inl h, .of rfl⟩, fun j e hj g h => by simp [Tag.isOwn] at hj, fun _ _ _ h => h⟩
    have := h.trans rfl K (by simpa [ownFree, V.anyL] using hv)
    rwa [map_id.1] at this

theorem anyL_append (p : Tag → Bool) (q : Nat → Bool) (tp : Bool) (l l' : List V) : V.anyL p q tp (l ++ l') = (V.anyL p q tp l || V.anyL p q tp l') := by
  induction l with
  | nil => simp [V.anyL]
  | cons x xs ih => simp [V.anyL, ih, Bool.or_assoc]

theorem any_or {p p' : Tag → Bool} {q q' : Nat → Bool} : (∀ v : V, v.any p q false = false → v.any p' q' false = false → v.any (fun t => p t || p' t) (fun b => q b || q' b) false = false) ∧
    (∀ l, V.anyL p q false l = false → V.anyL p' q' false l = false → V.anyL (fun t => p t || p' t) (fun b => q b || q' b) false l = false) := by
  refine V.ind ?_ ?_ ?_ ?_ ?_ ?_ ?_ ?_ ?_ ?_ <;> simp_all [V.any, V.anyL]

/-- THE CALL, in a state in which nothing that the callee may hand back is written later. -/
theorem call_step {f : FuncId} {vs : List V} {us : List Value} {r : V} (S : Sim C s L a w) (hr : Reps L w vs us) (hg : Good P f (vs.map V.erase) r) (href : noRefs vs = true) (hrr : r.noRef = true) (hof : (ownFree vs || r.flat) = true) :
    Calls P f us.toArray w fun e w' => ∃ u L', e = .returned u ∧ Sim C { s with nid := s.nid + r.idb } L' a w' ∧ Rep L' w' (r.shift s.nid) u := by
  have hB := S.hB
  -- what the callee may read
  let A1 : Nat → Prop := fun g => L.A g ∨ (r.flat = true ∧ ∃ id, L.own id = some g)
  have hA1 : ∀ g, A1 g → g < w.heap.size := fun g h => h.elim (S.wf.old g) (fun ⟨_, id, h⟩ => (S.wf.own id g h).1)
  have hargs : Reps ⟨A1, fun _ => none, fun _ => none⟩ w (vs.map V.erase) us := by
    cases hfl : r.flat with
    | true =>
      have K : Trans (fun _ => false) (fun _ => true) (fun _ => .fz) id L ⟨A1, fun _ => none, fun _ => none⟩ w w :=
        ⟨rfl, fun g h => ⟨.inl h, .of rfl⟩, fun i e _ g h => ⟨.inr ⟨hfl, i, h⟩, rfl⟩, fun b hb => by simp at hb⟩
      have := hr.trans rfl K (by simpa [noRefs] using href)
      rwa [mapL_eq] at this
    | false =>
      have K : Trans Tag.isOwn (fun _ => true) (fun _ => .fz) id L ⟨A1, fun _ => none, fun _ => none⟩ w w :=
        ⟨rfl, fun g h => ⟨.inl h, .of rfl⟩, fun i e h => by simp [Tag.isOwn] at h, fun b hb => by simp at hb⟩
      have h1 : ownFree vs = true := by simpa [hfl] using hof
      have h3 := (any_or (p := Tag.isOwn) (p' := fun _ => false) (q := fun _ => false) (q' := fun _ => true)).2 vs (by simpa [ownFree] using h1) (by simpa [noRefs] using href)
      have := hr.trans (p := Tag.isOwn) (q := fun _ => true) rfl K (by simpa using h3)
      rwa [mapL_eq] at this
  refine (hg.2 A1 w us hA1 hargs).mono ?_
  rintro e w' ⟨u, L1, rfl, hru, hkp, hlay⟩
  have G : Grow w w' := ⟨hkp.os, hkp.tape, hkp.output, hkp.size, fun k hk => hkp.block k hk (fun h => h)⟩
  -- the layout behind the call
  let L2 : Lay := { A := fun g => L.A g ∨ (L1.A g ∧ w.heap.size ≤ g), own := fun j => if j < s.nid then L.own j else if j - s.nid < r.idb then L1.own (j - s.nid) else none, box := L.box }
  have E : L.Le L2 := ⟨fun g h => .inl h, fun i g h => by simp [L2, S.wf.nidO i g h, h], fun _ _ h => h⟩
  have W := S.wf
  have wf : Wf C (s.nid + r.idb) L2 w' := {
    nidO := fun j g h => by
      simp only [L2] at h
      split at h
      · omega
      · split at h
        · omega
        · cases h
    nidB := fun b g h => by have := W.nidB b g h; omega
    own := fun j g h => by
      simp only [L2] at h
      split at h
      · obtain ⟨h1, h2, h3⟩ := W.own j g h
        exact ⟨by have := G.size; omega, h2, fun h' => h'.elim h3 (fun ⟨_, h'⟩ => by omega)⟩
      · split at h
        · obtain ⟨h1, h2, h3⟩ := hlay.own _ g h
          exact ⟨h2, .inl (by omega), fun h' => h'.elim (fun h' => by have := W.old g h'; omega) (fun ⟨h', _⟩ => h3 h')⟩
        · cases h
    boxW := fun b g h => by
      obtain ⟨h1, h2, h3⟩ := W.boxW b g h
      exact ⟨by have := G.size; omega, h2, fun h' => h'.elim h3 (fun ⟨_, h'⟩ => by omega)⟩
    injO := fun i j g h h' => by
      simp only [L2] at h h'
      split at h
      · split at h'
        · exact W.injO i j g h h'
        · split at h'
          · have := (W.own i g h).1; have := (hlay.own _ g h').1; omega
          · cases h'
      · split at h
        · split at h'
          · have := (W.own j g h').1; have := (hlay.own _ g h).1; omega
          · split at h'
            · have := hlay.inj _ _ g h h'; omega
            · cases h'
        · cases h
    injB := W.injB
    dis := fun i j g h h' => by
      simp only [L2] at h
      split at h
      · exact W.dis i j g h h'
      · split at h
        · have := (hlay.own _ g h).1; have := (W.boxW j g h').1; omega
        · cases h
    old := fun g h => h.elim (fun h => by have := W.old g h; have := G.size; omega) (fun ⟨h, h'⟩ => by
      rcases hlay.A g h with h1 | h1
      · have := hA1 g h1; omega
      · exact h1.2)
    frz := fun g h => h.elim (W.frz g) (fun ⟨_, h'⟩ => .inr (.inl (by omega))) }
  refine ⟨u, L2, rfl, S.grow G E rfl (fun b cs h => .inl h) wf, ?_⟩
  have hsh : ∀ id e, Tag.ge r.idb (.own id e) = false → ∀ g, L1.own id = some g → L2.own (id + s.nid) = some g := by
    intro id e hid g h
    simp only [Tag.ge, Bool.not_eq_eq_eq_not, Bool.not_false, decide_eq_true_eq] at hid
    have h1 : ¬ id + s.nid < s.nid := by omega
    have h2 : id + s.nid - s.nid = id := by omega
    simp only [L2, if_neg h1, h2, if_pos hid, h]
  have hany : r.any (fun t => Tag.ge r.idb t || false) (fun b => false || true) false = false := by
    have := (any_or (p := Tag.ge r.idb) (p' := fun _ => false) (q := fun _ => false) (q' := fun _ => true)).1 r ((idb_any r.idb).1 r (Nat.le_refl _)) (by simpa [V.noRef] using hrr)
    exact this
  cases hfl : r.flat with
  | true =>
    have hru' := (rep_flat (fun _ => False)).1 r u hfl hru
    have K : Trans (fun t => Tag.ge r.idb t || false) (fun b => false || true) (fun t => match t with | .fz => .fz | .own id e => .own (id + s.nid) e) id { L1 with A := fun _ => False } L2 w' w' :=
      ⟨rfl, fun g h => h.elim, fun id e hid g h => ⟨⟨rfl, hsh id e (by simpa using hid) g h⟩, rfl⟩, fun b hb => by simp at hb⟩
    exact hru'.trans rfl K hany
  | false =>
    have K : Trans (fun t => Tag.ge r.idb t || false) (fun b => false || true) (fun t => match t with | .fz => .fz | .own id e => .own (id + s.nid) e) id L1 L2 w' w' := by
      refine ⟨rfl, fun g h => ⟨?_, .of rfl⟩, fun id e hid g h => ⟨⟨rfl, hsh id e (by simpa using hid) g h⟩, rfl⟩, fun b hb => by simp at hb⟩
      rcases hlay.A g h with h1 | h1
      · rcases h1 with h1 | ⟨h1, _⟩
        · exact .inl h1
        · rw [hfl] at h1; cases h1
      · exact .inr ⟨h, h1.1⟩
    exact hru.trans rfl K hany
end
end Go.Pg
