/-
  The pure layer: whatever order is drawn comes to what the text's order comes to.
-/
import Derived.Test.YtkgebocldjhflaaPgDraw
import Derived.Orders
namespace Go.Pg
open Go

/-- One operation with its guard: its kind and the state behind it. -/
def StepD (P : Program) (dsts : List (Option Nat)) (o : Oper) (κ : Kd) (s s' : St) : Prop :=
  match o.guard with
  | none => stepW P s o (fun k s1 => k = κ ∧ s1 = s')
  | some (j, want) => ∃ b, guardV s dsts j = some (.c (.bool b)) ∧ (if b = want then stepW P s o (fun k s1 => k = κ ∧ s1 = s') else κ = .p ∧ s' = s.put o.dst .top)

def tmpOf : Operand → Option Nat
  | .tmp t => some t
  | _ => none
/-- The temporaries that it looks at. -/
def lkO (o : Oper) : List Nat := o.op.operands.toList.filterMap tmpOf
def lkG (dsts : List (Option Nat)) (o : Oper) : List Nat := match o.guard with | some (j, _) => (match dsts[j]? with | some (some d) => [d] | _ => []) | none => []
def lk (dsts : List (Option Nat)) (o : Oper) : List Nat := lkO o ++ lkG dsts o

section
variable {P : Program} {dsts : List (Option Nat)} {s s' s1 s2 : St} {o o1 o2 : Oper} {κ κ1 κ2 : Kd}

theorem lkO_ev (h : ∀ t ∈ lkO o, s'.env t = s.env t) : ∀ x ∈ o.op.operands.toList, s'.ev x = s.ev x := by
  intro x hx
  cases x with
  | tmp t => exact h t (List.mem_filterMap.2 ⟨_, hx, rfl⟩)
  | _ => rfl

theorem guardV_congr {j : Nat} {want : Bool} (hg : o.guard = some (j, want)) (h : ∀ t ∈ lkG dsts o, s'.env t = s.env t) : guardV s' dsts j = guardV s dsts j := by
  unfold guardV
  unfold lkG at h
  rw [hg] at h
  simp only at h
  cases hd : dsts[j]? with
  | none => rfl
  | some x =>
    cases x with
    | none => rfl
    | some d =>
      rw [hd] at h
      simp only [h d (by simp)]

theorem put_comm' {a b : Option Nat} {v u : V} (h : ∀ d, a = some d → b ≠ some d) : (s.put a v).put b u = (s.put b u).put a v := by
  cases a with
  | none => rfl
  | some d =>
    cases b with
    | none => rfl
    | some e => exact put_comm (fun x => h d rfl (by rw [x]))

theorem put_env {a : Option Nat} {v : V} {t : Nat} (h : a ≠ some t) : (s.put a v).env t = s.env t := by
  cases a with
  | none => rfl
  | some d => simp [St.put, upd, show t ≠ d from fun e => h (by rw [e])]

theorem put_bx {a : Option Nat} {v : V} : (s.put a v).bx = s.bx := by cases a <;> rfl

/-- A step that only puts a value: what it looks at, and that it is the same step wherever that is the same. -/
theorem stepD_val (h : StepD P dsts o κ s s') (hk : κ = .p ∨ κ = .q ∨ κ = .r) :
    ∃ (v : V) (N : List Nat), s' = s.put o.dst v ∧ (∀ t ∈ N, t ∈ lk dsts o) ∧ (κ = .p → v.calm = true ∧ ∀ t ∈ N, (s.env t).free = true) ∧
      ∀ s2 : St, (∀ t ∈ N, s2.env t = s.env t) → (κ = .r → s2.bx = s.bx) → StepD P dsts o κ s2 (s2.put o.dst v) := by
  -- the operation itself
  have opCase : stepW P s o (fun k s1 => k = κ ∧ s1 = s') → ∃ (v : V), s' = s.put o.dst v ∧ (κ = .p → v.calm = true ∧ ∀ t ∈ lkO o, (s.env t).free = true) ∧
      ∀ s2 : St, (∀ t ∈ lkO o, s2.env t = s.env t) → (κ = .r → s2.bx = s.bx) → stepW P s2 o (fun k s1 => k = κ ∧ s1 = s2.put o.dst v) := by
    intro h
    rcases stepW_cases h with ⟨v, hv, hκ, rfl⟩ | ⟨v, hv, rfl, rfl⟩ | ⟨_, _, _, rfl, _⟩ | rfl
    · refine ⟨v, rfl, fun hp => ?_, fun s2 he _ => ?_⟩
      · rw [hp] at hκ
        unfold kq at hκ
        split at hκ
        · rename_i hc
          simp only [Bool.and_eq_true] at hc
          refine ⟨hc.2, fun t ht => ?_⟩
          obtain ⟨x, hx, hxt⟩ := List.mem_filterMap.1 ht
          cases x with
          | tmp t' =>
            simp only [tmpOf, Option.some.injEq] at hxt
            subst hxt
            exact List.all_eq_true.1 hc.1 _ (List.mem_map.2 ⟨_, hx, rfl⟩)
          | _ => simp [tmpOf] at hxt
        · cases hκ
      · have he' := lkO_ev he
        have := valQ_step (valQ_congr he' hv)
        have e : opsV s2 o = opsV s o := List.map_congr_left fun x hx => he' x hx
        rw [e, ← hκ] at this
        exact this
    · refine ⟨v, rfl, ?_, fun s2 he hb => ?_⟩
      · intro hp; cases hp
      · exact rv_step (by rw [rv_congr (lkO_ev he) (hb rfl)]; exact hv)
    · simp at hk
    · simp at hk
  unfold StepD at h
  split at h
  · rename_i hg
    obtain ⟨v, h1, h2, h3⟩ := opCase h
    refine ⟨v, lkO o, h1, fun t ht => by simp [lk, ht], h2, fun s2 he hb => ?_⟩
    unfold StepD
    rw [hg]
    exact h3 s2 he hb
  · rename_i j want hg
    obtain ⟨b, hb, h⟩ := h
    have gslot : ∀ t ∈ lkG dsts o, (s.env t).free = true := by
      intro t ht
      unfold lkG at ht
      rw [hg] at ht
      simp only at ht
      unfold guardV at hb
      cases hd : dsts[j]? with
      | none => rw [hd] at ht; cases ht
      | some x =>
        cases x with
        | none => rw [hd] at ht; cases ht
        | some d =>
          rw [hd] at ht hb
          simp only [List.mem_singleton] at ht
          subst ht
          simp only [Option.some.injEq] at hb
          rw [hb]; rfl
    split at h
    · rename_i hbw
      obtain ⟨v, h1, h2, h3⟩ := opCase h
      refine ⟨v, lk dsts o, h1, fun t ht => ht, fun hp => ⟨(h2 hp).1, fun t ht => ?_⟩, fun s2 he hbx => ?_⟩
      · rcases List.mem_append.1 ht with ht | ht
        · exact (h2 hp).2 t ht
        · exact gslot t ht
      · unfold StepD
        rw [hg]
        refine ⟨b, ?_, ?_⟩
        · rw [guardV_congr hg (fun t ht => he t (by simp [lk, ht]))]; exact hb
        · rw [if_pos hbw]; exact h3 s2 (fun t ht => he t (by simp [lk, ht])) hbx
    · rename_i hbw
      obtain ⟨rfl, rfl⟩ := h
      refine ⟨.top, lkG dsts o, rfl, fun t ht => by simp [lk, ht], fun _ => ⟨rfl, gslot⟩, fun s2 he hbx => ?_⟩
      unfold StepD
      rw [hg]
      exact ⟨b, by rw [guardV_congr hg he]; exact hb, by rw [if_neg hbw]; exact ⟨rfl, rfl⟩⟩

theorem lkO_ne {d : Nat} (h : d ∉ lkO o) : ∀ x ∈ o.op.operands.toList, x ≠ .tmp d := by
  rintro x hx rfl
  exact h (List.mem_filterMap.2 ⟨_, hx, rfl⟩)

/-- A step that makes or writes memory. -/
theorem stepD_x (h : StepD P dsts o .x s s') : ∃ (v : V) (sA : St) (ψ : V → V), Turns ψ ∧ (∀ t, sA.env t = ψ (s.env t)) ∧ s' = sA.put o.dst v ∧
    ∀ d y, d ∉ lk dsts o → y.calm = true → StepD P dsts o .x (s.put (some d) y) ((sA.put (some d) y).put o.dst v) := by
  have opCase : stepW P s o (fun k s1 => k = .x ∧ s1 = s') → ∃ (v : V) (sA : St) (ψ : V → V), Turns ψ ∧ (∀ t, sA.env t = ψ (s.env t)) ∧ s' = sA.put o.dst v ∧
      ∀ d y, d ∉ lk dsts o → y.calm = true → stepW P (s.put (some d) y) o (fun k s1 => k = .x ∧ s1 = (sA.put (some d) y).put o.dst v) := by
    intro h
    rcases stepW_cases h with ⟨v, hv, hκ, rfl⟩ | ⟨v, hv, hκ, _⟩ | ⟨v, sA, hv, _, rfl⟩ | hκ
    · unfold kq at hκ; split at hκ <;> cases hκ
    · cases hκ
    · obtain ⟨ψ, h1, h2⟩ := valX_turns hv
      refine ⟨v, sA, ψ, h1, h2, rfl, fun d y hd hy => ?_⟩
      exact valX_step ((valX_put (lkO_ne (fun hm => hd (by simp [lk, hm]))) hy).2 ⟨sA, hv, rfl⟩)
    · cases hκ
  unfold StepD at h
  split at h
  · rename_i hg
    obtain ⟨v, sA, ψ, h1, h2, h3, h4⟩ := opCase h
    refine ⟨v, sA, ψ, h1, h2, h3, fun d y hd hy => ?_⟩
    unfold StepD
    rw [hg]
    exact h4 d y hd hy
  · rename_i j want hg
    obtain ⟨b, hb, h⟩ := h
    split at h
    · rename_i hbw
      obtain ⟨v, sA, ψ, h1, h2, h3, h4⟩ := opCase h
      refine ⟨v, sA, ψ, h1, h2, h3, fun d y hd hy => ?_⟩
      unfold StepD
      rw [hg]
      refine ⟨b, ?_, by rw [if_pos hbw]; exact h4 d y hd hy⟩
      rw [guardV_congr hg (s := s) (fun t ht => put_env (fun e => by simp only [Option.some.injEq] at e; subst e; exact hd (by simp [lk, ht])))]
      exact hb
    · cases h.1

theorem stepD_x_back {d : Nat} {y : V} (h : StepD P dsts o .x (s.put (some d) y) s') (hd : d ∉ lk dsts o) (hy : y.calm = true) :
    ∃ (v : V) (sA : St) (ψ : V → V), Turns ψ ∧ (∀ t, sA.env t = ψ (s.env t)) ∧ StepD P dsts o .x s (sA.put o.dst v) ∧ s' = (sA.put (some d) y).put o.dst v := by
  have opCase : stepW P (s.put (some d) y) o (fun k s1 => k = .x ∧ s1 = s') → ∃ (v : V) (sA : St) (ψ : V → V), Turns ψ ∧ (∀ t, sA.env t = ψ (s.env t)) ∧ stepW P s o (fun k s1 => k = .x ∧ s1 = sA.put o.dst v) ∧ s' = (sA.put (some d) y).put o.dst v := by
    intro h
    rcases stepW_cases h with ⟨v, hv, hκ, rfl⟩ | ⟨v, hv, hκ, _⟩ | ⟨v, sB, hv, _, rfl⟩ | hκ
    · unfold kq at hκ; split at hκ <;> cases hκ
    · cases hκ
    · obtain ⟨sA, h1, rfl⟩ := (valX_put (lkO_ne (fun hm => hd (by simp [lk, hm]))) hy).1 hv
      obtain ⟨ψ, h2, h3⟩ := valX_turns h1
      exact ⟨v, sA, ψ, h2, h3, valX_step h1, rfl⟩
    · cases hκ
  unfold StepD at h
  split at h
  · rename_i hg
    obtain ⟨v, sA, ψ, h1, h2, h3, h4⟩ := opCase h
    refine ⟨v, sA, ψ, h1, h2, ?_, h4⟩
    unfold StepD
    rw [hg]
    exact h3
  · rename_i j want hg
    obtain ⟨b, hb, h⟩ := h
    split at h
    · rename_i hbw
      obtain ⟨v, sA, ψ, h1, h2, h3, h4⟩ := opCase h
      refine ⟨v, sA, ψ, h1, h2, ?_, h4⟩
      unfold StepD
      rw [hg]
      refine ⟨b, ?_, by rw [if_pos hbw]; exact h3⟩
      rw [guardV_congr hg (s' := s.put (some d) y) (fun t ht => put_env (fun e => by simp only [Option.some.injEq] at e; subst e; exact hd (by simp [lk, ht])))] at hb
      exact hb
    · cases h.1

/-- Which kinds may stand beside each other. -/
def compat : Kd → Kd → Bool
  | .p, .p | .p, .q | .p, .r | .q, .p | .q, .q | .q, .r | .r, .p | .r, .q | .r, .r => true
  | .p, .x | .x, .p => true
  | _, _ => false

def apartB (dsts : List (Option Nat)) (a b : Oper) : Bool :=
  (match a.dst with | some d => !(lk dsts b).contains d && !(b.dst == some d) | none => true) && (match b.dst with | some d => !(lk dsts a).contains d | none => true)

theorem apartB_spec (h : apartB dsts o1 o2 = true) : (∀ d, o1.dst = some d → d ∉ lk dsts o2) ∧ (∀ d, o1.dst = some d → o2.dst ≠ some d) ∧ (∀ d, o2.dst = some d → d ∉ lk dsts o1) := by
  simp only [apartB, Bool.and_eq_true] at h
  refine ⟨fun d hd => ?_, fun d hd => ?_, fun d hd => ?_⟩
  · have h1 := h.1
    rw [hd] at h1
    simp at h1
    exact h1.1
  · have h1 := h.1
    rw [hd] at h1
    simp at h1
    exact h1.2
  · have h1 := h.2
    rw [hd] at h1
    simpa using h1

/-- **Two operations, neither of which waits for the other, may be carried out in either order.** -/
theorem swap (h1 : StepD P dsts o1 κ1 s s1) (h2 : StepD P dsts o2 κ2 s1 s2) (hap : apartB dsts o1 o2 = true) (hc : compat κ1 κ2 = true) : ∃ s1', StepD P dsts o2 κ2 s s1' ∧ StepD P dsts o1 κ1 s1' s2 := by
  obtain ⟨ha, hb, hc'⟩ := apartB_spec hap
  have hb' : ∀ d, o2.dst = some d → o1.dst ≠ some d := fun d h h' => hb d h' h
  have vv : (κ1 = .p ∨ κ1 = .q ∨ κ1 = .r) → (κ2 = .p ∨ κ2 = .q ∨ κ2 = .r) → ∃ s1', StepD P dsts o2 κ2 s s1' ∧ StepD P dsts o1 κ1 s1' s2 := by
    intro k1 k2
    obtain ⟨v1, N1, rfl, hN1, _, ht1⟩ := stepD_val h1 k1
    obtain ⟨v2, N2, rfl, hN2, _, ht2⟩ := stepD_val h2 k2
    refine ⟨s.put o2.dst v2, ht2 s (fun t ht => (put_env (fun e => ha t e (hN2 t ht))).symm) (fun _ => put_bx.symm), ?_⟩
    rw [put_comm' hb]
    exact ht1 _ (fun t ht => put_env (fun e => hc' t e (hN1 t ht))) (fun _ => put_bx)
  have px : κ1 = .p → κ2 = .x → ∃ s1', StepD P dsts o2 κ2 s s1' ∧ StepD P dsts o1 κ1 s1' s2 := by
    rintro rfl rfl
    obtain ⟨v1, N1, rfl, hN1, hp, ht1⟩ := stepD_val h1 (.inl rfl)
    obtain ⟨hcalm, hfree⟩ := hp rfl
    have main : ∀ (v : V) (sA : St) (ψ : V → V), Turns ψ → (∀ t, sA.env t = ψ (s.env t)) → StepD P dsts o1 .p (sA.put o2.dst v) ((sA.put o2.dst v).put o1.dst v1) := by
      intro v sA ψ hψ he
      refine ht1 _ (fun t ht => ?_) (fun h => by cases h)
      rw [put_env (fun e => hc' t e (hN1 t ht)), he, hψ.calm _ (free_calm (hfree t ht))]
    cases hd : o1.dst with
    | none =>
      rw [hd] at h2
      obtain ⟨v, sA, ψ, hψ, he, rfl, _⟩ := stepD_x h2
      refine ⟨_, h2, ?_⟩
      have := main v sA ψ hψ he
      rw [hd] at this
      exact this
    | some d =>
      rw [hd] at h2
      obtain ⟨v, sA, ψ, hψ, he, h3, rfl⟩ := stepD_x_back h2 (ha d hd) hcalm
      refine ⟨_, h3, ?_⟩
      have := main v sA ψ hψ he
      rw [hd] at this
      rw [put_comm' (fun e h => by simp only [Option.some.injEq] at h; subst h; exact hb d hd)]
      exact this
  have xp : κ1 = .x → κ2 = .p → ∃ s1', StepD P dsts o2 κ2 s s1' ∧ StepD P dsts o1 κ1 s1' s2 := by
    rintro rfl rfl
    obtain ⟨v, sA, ψ, hψ, he, rfl, hfwd⟩ := stepD_x h1
    obtain ⟨v2, N2, rfl, hN2, hp, ht2⟩ := stepD_val h2 (.inl rfl)
    obtain ⟨hcalm, hfree⟩ := hp rfl
    have hsame : ∀ t ∈ N2, s.env t = (sA.put o1.dst v).env t := by
      intro t ht
      have hf := hfree t ht
      rw [put_env (fun e => ha t e (hN2 t ht)), he] at hf ⊢
      exact (hψ.back _ hf).symm
    have h3 := ht2 s hsame (fun h => by cases h)
    refine ⟨_, h3, ?_⟩
    rw [put_comm' hb]
    cases hd : o2.dst with
    | none => exact h1
    | some d => exact hfwd d v2 (hc' d hd) hcalm
  cases κ1 <;> cases κ2 <;> first
    | exact absurd hc Bool.false_ne_true
    | exact vv (by first | exact .inl rfl | exact .inr (.inl rfl) | exact .inr (.inr rfl)) (by first | exact .inl rfl | exact .inr (.inl rfl) | exact .inr (.inr rfl))
    | exact px rfl rfl
    | exact xp rfl rfl

/-! ### A run of operations -/
/-- One that is to come: its number, itself, its kind. -/
abbrev Ent := Nat × Oper × Kd

def ChainD (P : Program) (dsts : List (Option Nat)) : List Ent → St → St → Prop
  | [], s, s' => s = s'
  | e :: r, s, s' => ∃ s1, StepD P dsts e.2.1 e.2.2 s s1 ∧ ChainD P dsts r s1 s'

/-- Beside each other, or the second waits for the first. -/
def Beside (dsts : List (Option Nat)) (x y : Ent) : Bool := compat x.2.2 y.2.2 && apartB dsts x.2.1 y.2.1

theorem chain_front {x : Ent} : ∀ {l1 l2 : List Ent} {s s' : St}, ChainD P dsts (l1 ++ x :: l2) s s' → (∀ y ∈ l1, Beside dsts y x = true) → ChainD P dsts (x :: (l1 ++ l2)) s s' := by
  intro l1
  induction l1 with
  | nil => intro l2 s s' h _; exact h
  | cons y l1 ih =>
    rintro l2 s s' ⟨s1, h1, h2⟩ hb
    obtain ⟨s2, h3, h4⟩ := ih h2 (fun z hz => hb z (by simp [hz]))
    have hy := hb y (by simp)
    simp only [Beside, Bool.and_eq_true] at hy
    obtain ⟨s1', h5, h6⟩ := swap h1 h3 hy.2 hy.1
    exact ⟨s1', h5, s2, h6, h4⟩
end

/-! ### Which waits for which -/
def edgesOf (o : Oper) : List Nat := (o.after.toList.filter fun e => Region.binds .any e).map (·.on)
def maskOf (acc : List Nat) (es : List Nat) : Nat := es.foldr (fun j m => m ||| (2 ^ j ||| acc.getD j 0)) 0
def befGo (acc : List Nat) : List Oper → List Nat
  | [] => acc
  | o :: r => befGo (acc ++ [maskOf acc (edgesOf o)]) r

theorem mask_bit {acc es : List Nat} {j : Nat} (h : (maskOf acc es).testBit j = true) : ∃ e ∈ es, j = e ∨ (acc.getD e 0).testBit j = true := by
  induction es with
  | nil => simp [maskOf] at h
  | cons e es ih =>
    simp only [maskOf, List.foldr_cons, Nat.testBit_or, Bool.or_eq_true, Nat.testBit_two_pow, decide_eq_true_eq] at h
    rcases h with h | h | h
    · obtain ⟨e', h1, h2⟩ := ih h
      exact ⟨e', by simp [h1], h2⟩
    · exact ⟨e, by simp, .inl h.symm⟩
    · exact ⟨e, by simp, .inr h⟩

theorem befGo_keep : ∀ (l : List Oper) (acc : List Nat) (i : Nat), i < acc.length → (befGo acc l).getD i 0 = acc.getD i 0 := by
  intro l
  induction l with
  | nil => intro acc i _; rfl
  | cons o r ih =>
    intro acc i hi
    rw [befGo, ih _ i (by simp; omega)]
    simp [List.getD, List.getElem?_append_left hi]

theorem bef_closed (D : Nat → Prop) : ∀ (l : List Oper) (acc : List Nat), (∀ k j, D k → (acc.getD k 0).testBit j = true → D j) →
    (∀ k o, l[k]? = some o → D (acc.length + k) → ∀ e ∈ edgesOf o, D e) → ∀ k o, l[k]? = some o → (∀ e ∈ edgesOf o, D e) → ∀ j, ((befGo acc l).getD (acc.length + k) 0).testBit j = true → D j := by
  intro l
  induction l with
  | nil => intro acc _ _ k o h; simp at h
  | cons o r ih =>
    intro acc hinv hcl k o' hk he j hj
    have hm : ∀ j, (∀ e ∈ edgesOf o, D e) → (maskOf acc (edgesOf o)).testBit j = true → D j := by
      intro j he hj
      obtain ⟨e, h1, h2⟩ := mask_bit hj
      rcases h2 with rfl | h2
      · exact he _ h1
      · exact hinv e j (he e h1) h2
    cases k with
    | zero =>
      simp only [List.getElem?_cons_zero, Option.some.injEq] at hk
      subst hk
      rw [befGo, Nat.add_zero, befGo_keep _ _ _ (by simp)] at hj
      simp only [List.getD, List.getElem?_append_right (Nat.le_refl _), Nat.sub_self, List.getElem?_cons_zero, Option.getD_some] at hj
      exact hm j he hj
    | succ k =>
      simp only [List.getElem?_cons_succ] at hk
      refine ih (acc ++ [maskOf acc (edgesOf o)]) ?_ ?_ k o' hk he j (by rw [befGo] at hj; simpa [Nat.add_assoc, Nat.add_comm 1 k] using hj)
      · intro i j hi hj
        rcases Nat.lt_trichotomy i acc.length with hlt | heq | hgt
        · simp only [List.getD, List.getElem?_append_left hlt] at hj
          exact hinv i j hi hj
        · subst heq
          simp only [List.getD, List.getElem?_append_right (Nat.le_refl _), Nat.sub_self, List.getElem?_cons_zero, Option.getD_some] at hj
          exact hm j (hcl 0 o (by simp) (by simpa using hi)) hj
        · simp [List.getD, List.getElem?_eq_none (show (acc ++ [maskOf acc (edgesOf o)]).length ≤ i by simp; omega)] at hj
      · intro i o2 hi hD
        refine hcl (i + 1) o2 (by simpa using hi) ?_
        simpa [Nat.add_assoc, Nat.add_comm 1 i] using hD

/-- All pairs: beside each other, or the later waits for the earlier. -/
def chkAll (dsts : List (Option Nat)) (b : List Nat) : List Ent → Bool
  | [] => true
  | x :: r => (r.all fun y => (b.getD y.1 0).testBit x.1 || Beside dsts x y) && chkAll dsts b r

def entries (k : Nat) : List Oper → List Kd → List Ent
  | o :: os, κ :: ks => (k, o, κ) :: entries (k + 1) os ks
  | _, _ => []

/-- What is asked of a region and its operations' kinds: the kernel reckons it. -/
def chkD (ops : List Oper) (ks : List Kd) : Bool :=
  ops.length == ks.length && (ops.zipIdx.all fun x => (edgesOf x.1).all fun e => decide (e < x.2)) && chkAll (ops.map (·.dst)) (befGo [] ops) (entries 0 ops ks)

/-- The region, operation by operation in the text's order. -/
def wpDgo (P : Program) (dsts : List (Option Nat)) (ops : List Oper) (K : St → Prop) : List Oper → List Kd → St → Prop
  | [], ks, s => chkD ops ks.reverse = true ∧ K s
  | o :: rest, ks, s =>
    match o.guard with
    | none => stepW P s o (fun κ s' => wpDgo P dsts ops K rest (κ :: ks) s')
    | some (j, want) => match guardV s dsts j with
      | some (.c (.bool b)) => if b = want then stepW P s o (fun κ s' => wpDgo P dsts ops K rest (κ :: ks) s') else wpDgo P dsts ops K rest (.p :: ks) (s.put o.dst .top)
      | _ => False

def drawW (P : Program) (ops : Array Oper) (K : St → Prop) (s : St) : Prop := wpDgo P (ops.toList.map (·.dst)) ops.toList K ops.toList [] s

section
variable {P : Program} {dsts : List (Option Nat)} {s s' : St} {o : Oper}

theorem wpDgo_chain {ops : List Oper} {K : St → Prop} : ∀ (rest : List Oper) (ks : List Kd) (k : Nat) (s : St), wpDgo P dsts ops K rest ks s →
    ∃ ks' s', rest.length = ks'.length ∧ ChainD P dsts (entries k rest ks') s s' ∧ chkD ops (ks.reverse ++ ks') = true ∧ K s' := by
  intro rest
  induction rest with
  | nil => intro ks k s h; exact ⟨[], s, rfl, rfl, by simpa using h.1, h.2⟩
  | cons o rest ih =>
    intro ks k s h
    have step : stepW P s o (fun κ s' => wpDgo P dsts ops K rest (κ :: ks) s') → (∀ κ s', stepW P s o (fun k s1 => k = κ ∧ s1 = s') → StepD P dsts o κ s s') →
        ∃ ks' s', (o :: rest).length = ks'.length ∧ ChainD P dsts (entries k (o :: rest) ks') s s' ∧ chkD ops (ks.reverse ++ ks') = true ∧ K s' := by
      intro h hd
      obtain ⟨κ, s1, h1, h2⟩ := stepW_ex h
      obtain ⟨ks', s', h3, h4, h5, h6⟩ := ih (κ :: ks) (k + 1) s1 h2
      exact ⟨κ :: ks', s', by simp [h3], ⟨s1, hd κ s1 h1, h4⟩, by simpa using h5, h6⟩
    unfold wpDgo at h
    split at h
    · rename_i hg
      exact step h (fun κ s' h => by unfold StepD; rw [hg]; exact h)
    · rename_i j want hg
      split at h
      · rename_i b hb
        split at h
        · rename_i hbw
          exact step h (fun κ s' h => by unfold StepD; rw [hg]; exact ⟨b, hb, by rw [if_pos hbw]; exact h⟩)
        · rename_i hbw
          obtain ⟨ks', s', h3, h4, h5, h6⟩ := ih (.p :: ks) (k + 1) _ h
          exact ⟨.p :: ks', s', by simp [h3], ⟨_, by unfold StepD; rw [hg]; exact ⟨b, hb, by rw [if_neg hbw]; exact ⟨rfl, rfl⟩⟩, h4⟩, by simpa using h5, h6⟩
      · cases h

/-- The operation in the model. -/
theorem stepD_wp {C : Cx} {ops : Array Oper} {i : Nat} {κ : Kd} {L : Lay} {a : Act} {w : World} {K : Act → World → Prop} {Q : Exit → Act → World → Prop} (ho : ops[i]? = some o) (h : StepD P (ops.toList.map (·.dst)) o κ s s') (S : Sim C s L a w)
    (hd : ∀ t, o.dst = some t → t < C.n) (hK : ∀ L' a' w', Sim C s' L' a' w' → K a' w') : wpOp P ops Q i K a w := by
  unfold wpOp
  rw [ho]
  simp only
  unfold StepD at h
  split at h
  · rename_i hg
    rw [if_pos (by simp [Region.wanted, hg])]
    exact .inl (stepW_sound h S hd (fun κ' s1 L' a' w' h' S' => by obtain ⟨_, rfl⟩ := h'; exact hK L' a' w' S'))
  · rename_i j want hg
    obtain ⟨b, hb, h⟩ := h
    have hy := guard_yielded S hb
    split at h
    · rename_i hbw
      rw [if_pos (by simp [Region.wanted, hg, hy, hbw])]
      exact .inl (stepW_sound h S hd (fun κ' s1 L' a' w' h' S' => by obtain ⟨_, rfl⟩ := h'; exact hK L' a' w' S'))
    · rename_i hbw
      obtain ⟨_, rfl⟩ := h
      rw [if_neg (by simp [Region.wanted, hg, hy, hbw])]
      exact hK L _ _ (S.putTop undef hd)

theorem entries_get : ∀ (os : List Oper) (ks : List Kd) (k : Nat) (x : Ent), x ∈ entries k os ks → k ≤ x.1 ∧ os[x.1 - k]? = some x.2.1 := by
  intro os
  induction os with
  | nil => intro ks k x h; simp [entries] at h
  | cons o os ih =>
    intro ks k x h
    cases ks with
    | nil => simp [entries] at h
    | cons κ ks =>
      simp only [entries, List.mem_cons] at h
      rcases h with rfl | h
      · simp
      · obtain ⟨h1, h2⟩ := ih ks (k + 1) x h
        refine ⟨by omega, ?_⟩
        rw [show x.1 - k = (x.1 - (k + 1)) + 1 by omega]
        simpa using h2

theorem entries_nums : ∀ (os : List Oper) (ks : List Kd) (k : Nat), os.length = ks.length → (entries k os ks).map (·.1) = List.range' k os.length := by
  intro os
  induction os with
  | nil => intro ks k h; cases ks <;> rfl
  | cons o os ih =>
    intro ks k h
    cases ks with
    | nil => simp at h
    | cons κ ks => simp only [entries, List.map_cons, List.length_cons, List.range'_succ]; rw [ih ks (k + 1) (by simpa using h)]

theorem chkAll_pairs {b : List Nat} : ∀ {l : List Ent}, chkAll dsts b l = true → l.Pairwise fun x y => ((b.getD y.1 0).testBit x.1 || Beside dsts x y) = true := by
  intro l
  induction l with
  | nil => intro _; exact .nil
  | cons x r ih =>
    intro h
    simp only [chkAll, Bool.and_eq_true] at h
    exact .cons (fun y hy => List.all_eq_true.1 h.1 y hy) (ih h.2)

/-- **Whatever order is drawn.** -/
theorem any_order {C : Cx} {ops : Array Oper} {Q : Exit → Act → World → Prop} (hidx : ∀ i o, ops[i]? = some o → ∀ e ∈ edgesOf o, e < i) (hd : ∀ o ∈ ops.toList, ∀ t, o.dst = some t → t < C.n)
    (hQ : ∀ L a w, Sim C s' L a w → Q .normal a w) : ∀ (fuel : Nat) (l : List Ent) (listed : Array Bool) (s : St) (L : Lay) (a : Act) (w : World), l.length ≤ fuel → listed.size = ops.size →
    (∀ x ∈ l, ops[x.1]? = some x.2.1 ∧ listed.getD x.1 true = false) → (∀ i, i < ops.size → listed.getD i true = false → ∃ x ∈ l, x.1 = i) → (l.map (·.1)).Pairwise (· < ·) →
    (∀ i o, ops[i]? = some o → listed.getD i false = true → ∀ e ∈ edgesOf o, listed.getD e false = true) →
    l.Pairwise (fun x y => ((((befGo [] ops.toList).getD y.1 0).testBit x.1) || Beside (ops.toList.map (·.dst)) x y) = true) →
    ChainD P (ops.toList.map (·.dst)) l s s' → Sim C s L a w → wpAny P .any ops Q fuel listed a w := by
  intro fuel
  induction fuel with
  | zero =>
    intro l listed s L a w hlen hsz hmem hall hsort hcl hpair hch S
    have hl : l = [] := List.eq_nil_of_length_eq_zero (by omega)
    subst hl
    have hss : s = s' := hch
    subst hss
    refine ⟨?_, hQ L a w S⟩
    rw [List.eq_nil_iff_forall_not_mem]
    intro i hi
    obtain ⟨h0, o, ho, _⟩ := mem_ready.1 hi
    obtain ⟨x, hx, _⟩ := hall i (by have := (Array.getElem?_eq_some_iff.1 ho).1; exact this) h0
    cases hx
  | succ fuel ih =>
    intro l listed s L a w hlen hsz hmem hall hsort hcl hpair hch S
    refine ⟨fun hno => ?_, fun i hi => ?_⟩
    · -- nothing is ready: nothing is left
      cases l with
      | nil => have hss : s = s' := hch; subst hss; exact hQ L a w S
      | cons x r =>
        exfalso
        obtain ⟨h1, h2⟩ := hmem x (by simp)
        have : x.1 ∈ Region.ready .any ops listed := by
          refine mem_ready.2 ⟨h2, x.2.1, h1, fun e he hb => ?_⟩
          have hlt := hidx x.1 x.2.1 h1 e.on (by simp [edgesOf]; exact ⟨e, ⟨by simpa using he, hb⟩, rfl⟩)
          have hx1 : x.1 < ops.size := (Array.getElem?_eq_some_iff.1 h1).1
          cases hle : listed.getD e.on false with
          | true => rfl
          | false =>
            exfalso
            have hle' : listed.getD e.on true = false := by
              have : e.on < listed.size := by omega
              simpa [Array.getD, this] using hle
            obtain ⟨y, hy, hye⟩ := hall e.on (by omega) hle'
            rcases List.mem_cons.1 hy with rfl | hy
            · omega
            · have := (List.pairwise_cons.1 (by simpa using hsort)).1 y.1 (List.mem_map.2 ⟨y, hy, rfl⟩)
              omega
        rw [hno] at this
        cases this
    · obtain ⟨h0, o, ho, hedge⟩ := mem_ready.1 hi
      have hisz : i < ops.size := (Array.getElem?_eq_some_iff.1 ho).1
      obtain ⟨x, hx, rfl⟩ := hall i hisz h0
      obtain ⟨l1, l2, rfl⟩ := List.append_of_mem hx
      have hxo : x.2.1 = o := by
        have := (hmem x hx).1
        rw [ho] at this
        simpa using this.symm
      -- those ahead stand beside it
      have hbes : ∀ y ∈ l1, Beside (ops.toList.map (·.dst)) y x = true := by
        intro y hy
        have h1 := (List.pairwise_append.1 hpair).2.2 y hy x (by simp)
        simp only [Bool.or_eq_true] at h1
        rcases h1 with h1 | h1
        · exfalso
          have hcl' := bef_closed (fun i => listed.getD i false = true) ops.toList [] (fun k j _ h => by simp at h)
            (fun k o hk hD e he => hcl k o (by simpa using hk) (by simpa using hD) e he) x.1 o (by simpa using ho)
            (fun e he => by
              simp only [edgesOf, List.mem_map, List.mem_filter] at he
              obtain ⟨e', ⟨h2, h3⟩, rfl⟩ := he
              exact hedge e' (by simpa using h2) h3) y.1 (by simpa using h1)
          have h2 := (hmem y (by simp [hy])).2
          have h3 : y.1 < listed.size := by
            have := (Array.getElem?_eq_some_iff.1 (hmem y (by simp [hy])).1).1; omega
          simp [Array.getD, h3] at hcl' h2
          rw [h2] at hcl'
          cases hcl'
        · exact h1
      obtain ⟨s1, hstep, hrest⟩ := chain_front hch hbes
      rw [hxo] at hstep
      refine stepD_wp ho hstep S (hd o (by rw [← Array.mem_toList_iff.symm]; exact Array.mem_of_getElem? ho)) (fun L' a' w' S' => ?_)
      have hne : ∀ y ∈ l1 ++ l2, y.1 ≠ x.1 := by
        intro y hy
        rw [List.map_append, List.map_cons] at hsort
        have hp := List.pairwise_append.1 hsort
        rcases List.mem_append.1 hy with hy | hy
        · have := hp.2.2 y.1 (List.mem_map.2 ⟨y, hy, rfl⟩) x.1 (by simp); omega
        · have := (List.pairwise_cons.1 hp.2.1).1 y.1 (List.mem_map.2 ⟨y, hy, rfl⟩); omega
      refine ih (l1 ++ l2) (listed.setIfInBounds x.1 true) s1 L' a' w' (by simp at hlen ⊢; omega) (by simp [hsz]) ?_ ?_ ?_ ?_ ?_ hrest S'
      · intro y hy
        obtain ⟨h4, h5⟩ := hmem y (by rcases List.mem_append.1 hy with h | h <;> simp [h])
        exact ⟨h4, by rw [getD_set_ne true (Ne.symm (hne y hy))]; exact h5⟩
      · intro j hj hjl
        by_cases hji : j = x.1
        · subst hji
          have : x.1 < listed.size := by omega
          simp [Array.getD, this] at hjl
        · rw [getD_set_ne true (fun e => hji e.symm)] at hjl
          obtain ⟨y, hy, rfl⟩ := hall j hj hjl
          refine ⟨y, ?_, rfl⟩
          rcases List.mem_append.1 hy with hy | hy
          · simp [hy]
          · rcases List.mem_cons.1 hy with rfl | hy
            · exact absurd rfl hji
            · simp [hy]
      · exact hsort.sublist (by simp only [List.map_append, List.map_cons]; exact (List.Sublist.refl _).append (List.sublist_cons_self _ _))
      · intro j o' hj hjl e he
        by_cases hji : j = x.1
        · subst hji
          rw [ho] at hj
          simp only [Option.some.injEq] at hj
          subst hj
          simp only [edgesOf, List.mem_map, List.mem_filter] at he
          obtain ⟨e', ⟨h2, h3⟩, rfl⟩ := he
          exact getD_set_true (hedge e' (by simpa using h2) h3)
        · rw [getD_set_ne false (fun e => hji e.symm)] at hjl
          exact getD_set_true (hcl j o' hj hjl e he)
      · exact hpair.sublist ((List.Sublist.refl _).append (List.sublist_cons_self _ _))

theorem drawW_ok (hm : P.follows .mixedOrders = true) : DrawOk P drawW := by
  intro id C ops K Q s L a w hfit hQK h S
  unfold drawW at h
  obtain ⟨ks, s', hlen, hch, hchk, hK⟩ := wpDgo_chain ops.toList [] 0 s h
  simp only [List.reverse_nil, List.nil_append, chkD, Bool.and_eq_true] at hchk
  obtain ⟨⟨_, hidx⟩, hpairs⟩ := hchk
  have S1 : Sim C s L a { w with drawn := w.drawn + 1 } := by
    have K : Whole L L w w.drew := ⟨rfl, fun g h => ⟨h, .of rfl⟩, fun id e _ g h => ⟨⟨rfl, h⟩, rfl⟩, fun _ _ _ h => h⟩
    exact ⟨S.defers, S.size, fun t => (S.env t).whole K, fun b cs h => by obtain ⟨g, arr, e, h1, h2, h3⟩ := S.box b cs h; exact ⟨g, arr, e, h1, h2, h3.whole K⟩, S.wf.mono (Nat.le_refl _) (Nat.le_refl _), S.kp.drew⟩
  have hnums := entries_nums ops.toList ks 0 (by simpa using hlen)
  refine wp_region_any hm (any_order (s' := s') ?_ (opsFit_all hfit) (fun L a w S' => ⟨s', L, by rw [hQK]; exact hK, S'⟩) ops.size (entries 0 ops.toList ks) (Array.replicate ops.size false) s L a _ ?_ (by simp) ?_ ?_ ?_ ?_ (chkAll_pairs hpairs) hch S1)
  · intro i o ho e he
    have hm : (o, i) ∈ ops.toList.zipIdx := by
      rw [List.mem_zipIdx_iff_getElem?]
      simpa using ho
    have := List.all_eq_true.1 (List.all_eq_true.1 hidx (o, i) hm) e he
    simpa using this
  · have : (entries 0 ops.toList ks).length = ops.size := by
      have := congrArg List.length hnums
      simpa using this
    omega
  · intro x hx
    obtain ⟨_, h2⟩ := entries_get ops.toList ks 0 x hx
    simp only [Nat.sub_zero, Array.getElem?_toList] at h2
    have hlt := (Array.getElem?_eq_some_iff.1 h2).1
    exact ⟨h2, by simp [Array.getD, hlt]⟩
  · intro i hi _
    have : i ∈ (entries 0 ops.toList ks).map (·.1) := by
      rw [hnums]; simp; exact hi
    obtain ⟨x, hx, rfl⟩ := List.mem_map.1 this
    exact ⟨x, hx, rfl⟩
  · rw [hnums]
    exact List.pairwise_lt_range'
  · intro i o ho hl
    have hlt := (Array.getElem?_eq_some_iff.1 ho).1
    simp [Array.getD, hlt] at hl
end
end Go.Pg
