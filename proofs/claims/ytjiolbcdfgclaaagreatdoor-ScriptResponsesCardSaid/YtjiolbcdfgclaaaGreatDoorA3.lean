/-
  Texts of this claim, merged: PgDraw, PgAny, PgInl, PgAlo. Each bears its own remark.
-/
import Derived.Test.YtjiolbcdfgclaaaGreatDoorA2
import Derived.Orders
set_option linter.unusedVariables false
set_option linter.unusedSimpArgs false
set_option linter.unusedSectionVars false
section
/-
  The pure layer: a region that draws its order. It is carried out in the text's order, and whatever order is drawn comes to the same.
-/
namespace Go.Pg
open Go
set_option linter.unusedSectionVars false

/-! ### One operation beside others -/
def opsV (s : St) (o : Oper) : List V := o.op.operands.toList.map s.ev

/-- It computes: a value of its operands alone. -/
def ValQ (P : Program) [Tb P] (s : St) (o : Oper) (v : V) : Prop :=
  qv P s o.op = some v ∨ ∃ f args ts g fs cs, o.op = .call { callee := .value f, args := args, argTypes := ts } ∧ s.ev f = .fn g fs cs ∧ Good P g ((fs ++ args.toList.map s.ev ++ cs).map V.erase) v ∧
    ownFree (fs ++ cs) = true ∧ noRefs (fs ++ args.toList.map s.ev ++ cs) = true ∧ v.noRef = true ∧ (ownFree (args.toList.map s.ev) || v.flat) = true ∧ v.idb = 0

/-- It makes or writes memory. -/
def ValX (P : Program) [Tb P] (s : St) (o : Oper) (v : V) (s1 : St) : Prop :=
  xv P s o.op = some (v, s1) ∨ ∃ f args ts g fs cs r, o.op = .call { callee := .value f, args := args, argTypes := ts } ∧ s.ev f = .fn g fs cs ∧ Good P g ((fs ++ args.toList.map s.ev ++ cs).map V.erase) r ∧
    ownFree (fs ++ cs) = true ∧ noRefs (fs ++ args.toList.map s.ev ++ cs) = true ∧ r.noRef = true ∧ (ownFree (args.toList.map s.ev) || r.flat) = true ∧ r.idb ≠ 0 ∧ v = r.shift s.nid ∧ s1 = { s with nid := s.nid + r.idb }

theorem shift_none {r : V} {n : Nat} (h : r.idb = 0) : r.shift n = r := by
  have h1 := (idb_any 0).1 r (by omega)
  have main : (∀ v : V, v.any (Tag.ge 0) (fun _ => false) false = false → v.map (fun t => match t with | .fz => .fz | .nn => .nn | .own id e => .own (id + n) e) id = v) ∧
      (∀ l, V.anyL (Tag.ge 0) (fun _ => false) false l = false → V.mapL (fun t => match t with | .fz => .fz | .nn => .nn | .own id e => .own (id + n) e) id l = l) := by
    refine V.ind ?_ ?_ ?_ ?_ ?_ ?_ ?_ ?_ ?_ ?_
    · intro v _; rfl
    · intro t k xs _ h; cases t with
      | fz => rfl
      | nn => rfl
      | own id e => simp [V.any, Tag.ge] at h
    · intro cs ih h; simp [V.map, ih h]
    · intro cs ih h; simp [V.map, ih h]
    · intro b o _; rfl
    · intro t k xs i o _ h; cases t with
      | fz => rfl
      | nn => rfl
      | own id e => simp [V.any, Tag.ge] at h
    · intro f fs cs h1 h2 h
      simp only [V.any, Bool.or_eq_false_iff] at h
      simp [V.map, h1 h.1, h2 h.2]
    · intro _; rfl
    · intro _; rfl
    · intro x xs h1 h2 h
      simp only [V.anyL, Bool.or_eq_false_iff] at h
      simp [V.mapL, h1 h.1, h2 h.2]
  exact main.1 r h1

section
variable {P : Program} [Tb P] {s s' : St} {o : Oper}

theorem stepW_mono {K K' : Kd → St → Prop} (h : stepW P s o K) (hk : ∀ κ s', K κ s' → K' κ s') : stepW P s o K' := by
  unfold stepW at *
  split at h
  · unfold callW at *
    split at h
    · rcases h with ⟨ids, r, h1, h2, h3, h4, h5, h6⟩ | ⟨s1, r, h1, h2⟩
      · exact .inl ⟨ids, r, h1, h2, h3, h4, h5, hk _ _ h6⟩
      · exact .inr ⟨s1, r, h1, hk _ _ h2⟩
    · cases h
  · refine h.imp ?_ (Or.imp ?_ (Or.imp ?_ ?_))
    · unfold optQ; split
      · exact hk _ _
      · exact id
    · unfold optR; split
      · exact hk _ _
      · exact id
    · unfold optK; split
      · exact hk _ _
      · exact id
    · unfold optK; split
      · exact hk _ _
      · exact id

/-- What a step comes to. -/
theorem stepW_ex {K : Kd → St → Prop} (h : stepW P s o K) : ∃ κ s', stepW P s o (fun k s1 => k = κ ∧ s1 = s') ∧ K κ s' := by
  unfold stepW at *
  split at h
  · unfold callW at *
    split at h
    · rcases h with ⟨ids, r, h1, h2, h3, h4, h5, h6⟩ | ⟨s1, r, h1, h2⟩
      · exact ⟨_, _, .inl ⟨ids, r, h1, h2, h3, h4, h5, rfl, rfl⟩, h6⟩
      · exact ⟨_, _, .inr ⟨s1, r, h1, rfl, rfl⟩, h2⟩
    · cases h
  · rcases h with h | h | h | h
    · unfold optQ at h; split at h
      · rename_i r hr; exact ⟨_, _, .inl (by unfold optQ; rw [hr]; exact ⟨rfl, rfl⟩), h⟩
      · cases h
    · unfold optR at h; split at h
      · rename_i r hr; exact ⟨_, _, .inr (.inl (by unfold optR; rw [hr]; exact ⟨rfl, rfl⟩)), h⟩
      · cases h
    · unfold optK at h; split at h
      · rename_i r s1 hr; exact ⟨_, _, .inr (.inr (.inl (by unfold optK; rw [hr]; exact ⟨rfl, rfl⟩))), h⟩
      · cases h
    · unfold optK at h; split at h
      · rename_i r s1 hr; exact ⟨_, _, .inr (.inr (.inr (by unfold optK; rw [hr]; exact ⟨rfl, rfl⟩))), h⟩
      · cases h

theorem stepW_cases {κ : Kd} (h : stepW P s o (fun k s1 => k = κ ∧ s1 = s')) :
    (∃ v, ValQ P s o v ∧ κ = kq (opsV s o) v ∧ s' = s.put o.dst v) ∨ (∃ v, rv P s o.op = some v ∧ κ = .r ∧ s' = s.put o.dst v) ∨ (∃ v s1, ValX P s o v s1 ∧ κ = .x ∧ s' = s1.put o.dst v) ∨ κ = .z := by
  unfold stepW at h
  split at h
  · rename_i f args ts heq
    unfold callW at h
    split at h
    · rename_i g fs cs hf
      rcases h with ⟨ids, r, h1, h2, h3, h4, h5, h6, h7⟩ | ⟨s1, r, _, h6, _⟩
      case inr => exact .inr (.inr (.inr h6.symm))
      cases ids with
      | cons i ids => exact .inr (.inr (.inr h6.symm))
      | nil =>
        simp only [kc] at h6
        simp only [St.freezeAll] at h1 h3 h5 h7
        split at h6
        · rename_i h0
          refine .inl ⟨r, .inr ⟨f, args, ts, g, fs, cs, heq, hf, h1, h2, h3, h4, h5, h0⟩, ?_, ?_⟩
          · rw [← h6, opsV, heq]
            simp [Op.operands, Call.operands]
          · rw [← h7, h0, shift_none h0]; rfl
        · rename_i h0
          exact .inr (.inr (.inl ⟨_, _, .inr ⟨f, args, ts, g, fs, cs, r, heq, hf, h1, h2, h3, h4, h5, h0, rfl, rfl⟩, h6.symm, h7.symm⟩))
    · cases h
  · rcases h with h | h | h | h
    · unfold optQ at h; split at h
      · rename_i r hr; exact .inl ⟨r, .inl hr, h.1.symm, h.2.symm⟩
      · cases h
    · unfold optR at h; split at h
      · rename_i r hr; exact .inr (.inl ⟨r, hr, h.1.symm, h.2.symm⟩)
      · cases h
    · unfold optK at h; split at h
      · rename_i r s1 hr; exact .inr (.inr (.inl ⟨r, s1, .inl hr, h.1.symm, h.2.symm⟩))
      · cases h
    · unfold optK at h; split at h
      · exact .inr (.inr (.inr h.1.symm))
      · cases h

theorem valQ_step {v : V} (h : ValQ P s o v) : stepW P s o (fun k s1 => k = kq (opsV s o) v ∧ s1 = s.put o.dst v) := by
  rcases h with h | ⟨f, args, ts, g, fs, cs, heq, hf, h1, h2, h3, h4, h5, h6⟩
  · unfold stepW
    split
    · rename_i f args ts heq
      rw [heq] at h
      simp [qv] at h
    · left; unfold optQ; rw [h]; exact ⟨rfl, rfl⟩
  · unfold stepW
    rw [heq]
    simp only
    unfold callW
    rw [hf]
    refine .inl ⟨[], v, h1, h2, h3, h4, h5, ?_, ?_⟩
    · rw [kc, if_pos h6, opsV, heq]
      simp [Op.operands, Call.operands, hf]
    · rw [h6, shift_none h6]; rfl

theorem rv_step {v : V} (h : rv P s o.op = some v) : stepW P s o (fun k s1 => k = .r ∧ s1 = s.put o.dst v) := by
  unfold stepW
  split
  · rename_i f args ts heq
    rw [heq] at h
    simp [rv] at h
  · right; left; unfold optR; rw [h]; exact ⟨rfl, rfl⟩

theorem valX_step {v : V} {s1 : St} (h : ValX P s o v s1) : stepW P s o (fun k s2 => k = .x ∧ s2 = s1.put o.dst v) := by
  rcases h with h | ⟨f, args, ts, g, fs, cs, r, heq, hf, h1, h2, h3, h4, h5, h0, rfl, rfl⟩
  · unfold stepW
    split
    · rename_i f args ts heq
      rw [heq] at h
      simp [xv] at h
    · right; right; left; unfold optK; rw [h]; exact ⟨rfl, rfl⟩
  · unfold stepW
    rw [heq]
    simp only
    unfold callW
    rw [hf]
    refine .inl ⟨[], r, h1, h2, h3, h4, h5, ?_, rfl⟩
    rw [kc, if_neg h0]

/-! ### What lies beside -/
theorem qv_congr {op : Op} (he : ∀ x ∈ op.operands.toList, s'.ev x = s.ev x) : qv P s' op = qv P s op := by
  have hm : ∀ (l : List Operand), (∀ x ∈ l, s'.ev x = s.ev x) → l.map s'.ev = l.map s.ev := fun l h => List.map_congr_left h
  have ho : ∀ (o : Option Operand), (∀ x, o = some x → s'.ev x = s.ev x) → o.map s'.ev = o.map s.ev := by
    intro o h; cases o with
    | none => rfl
    | some x => simp [h x rfl]
  unfold qv
  split
  case h_14 t parts =>
    congr 1
    refine List.map_congr_left fun p hp => ?_
    rw [he p.2 (by simp only [Op.operands]; simpa using ⟨p.1, by simpa using hp⟩)]
  case h_13 f fs cs => rw [hm fs.toList (fun x hx => he x (by simp [Op.operands] at hx ⊢; simp [hx])), hm cs.toList (fun x hx => he x (by simp [Op.operands] at hx ⊢; simp [hx]))]
  case h_15 t x lo hi =>
    rw [he x (by simp [Op.operands]), ho lo (fun y hy => he y (by simp [Op.operands, hy])), ho hi (fun y hy => he y (by simp [Op.operands, hy]))]
  case h_17 args ts =>
    split
    · rename_i x t hx ht
      have e1 : args = #[x] := by apply Array.ext'; simpa using hx
      subst e1
      rw [he x (by simp [Op.operands, Call.operands])]
    · rfl
  case h_18 args ts =>
    split
    · rename_i x hx
      have e1 : args = #[x] := by apply Array.ext'; simpa using hx
      subst e1
      rw [he x (by simp [Op.operands, Call.operands])]
    · rfl
  case h_19 args ts =>
    split
    · rename_i x y hx
      have e1 : args = #[x, y] := by apply Array.ext'; simpa using hx
      subst e1
      rw [he x (by simp [Op.operands, Call.operands]), he y (by simp [Op.operands, Call.operands])]
    · rfl
  case h_20 args ts =>
    split
    · rename_i x y hx
      have e1 : args = #[x, y] := by apply Array.ext'; simpa using hx
      subst e1
      rw [he x (by simp [Op.operands, Call.operands]), he y (by simp [Op.operands, Call.operands])]
    · rfl
  case h_3 c x y => rw [he c (by simp [Op.operands]), he x (by simp [Op.operands]), he y (by simp [Op.operands])]
  all_goals first
    | rfl
    | (rename_i x; rw [he x (by simp [Op.operands])]; done)
    | (rename_i x _; rw [he x (by simp [Op.operands])]; done)
    | (rename_i x y; rw [he x (by simp [Op.operands]), he y (by simp [Op.operands])]; done)
    | (rename_i x y _; rw [he x (by simp [Op.operands]), he y (by simp [Op.operands])]; done)

theorem valQ_congr {v : V} (he : ∀ x ∈ o.op.operands.toList, s'.ev x = s.ev x) (h : ValQ P s o v) : ValQ P s' o v := by
  rcases h with h | ⟨f, args, ts, g, fs, cs, heq, hf, h1, h2, h3, h4, h5, h6⟩
  · exact .inl (by rw [qv_congr he]; exact h)
  · rw [heq] at he
    have hfe : s'.ev f = s.ev f := he f (by simp [Op.operands, Call.operands])
    have hae : args.toList.map s'.ev = args.toList.map s.ev := List.map_congr_left fun x hx => he x (by simp [Op.operands, Call.operands] at hx ⊢; simp [hx])
    exact .inr ⟨f, args, ts, g, fs, cs, heq, by rw [hfe]; exact hf, by rw [hae]; exact h1, h2, by rw [hae]; exact h3, h4, by rw [hae]; exact h5, h6⟩

theorem rv_congr {op : Op} (he : ∀ x ∈ op.operands.toList, s'.ev x = s.ev x) (hb : s'.bx = s.bx) : rv P s' op = rv P s op := by
  unfold rv
  split
  · rename_i t x
    rw [he x (by simp [Op.operands])]
    split
    · simp only [loadB, hb]
    · rfl
  · rename_i src dst x
    rw [he x (by simp [Op.operands])]
    unfold unsafeV
    split
    · rw [hb]
    · rfl
  · rfl

theorem ev_put {d : Nat} {v : V} {x : Operand} (h : x ≠ .tmp d) : (s.put (some d) v).ev x = s.ev x := by
  cases x with
  | tmp t => simp [St.put, St.ev, upd, show t ≠ d from fun e => h (by rw [e])]
  | _ => rfl

theorem put_comm {d d' : Nat} {v v' : V} (h : d ≠ d') : (s.put (some d) v).put (some d') v' = (s.put (some d') v').put (some d) v := by
  simp only [St.put, St.mk.injEq, and_true]
  funext t
  simp only [upd]
  split <;> split <;> first | rfl | (subst_vars; exact absurd rfl h)

theorem calm_has {v : V} (h : v.calm = true) (id : Nat) : v.has id = false := by
  have main : (∀ v : V, v.any Tag.isOwn (fun _ => true) false = false → v.any (Tag.is id) (fun _ => false) false = false) ∧ (∀ l, V.anyL Tag.isOwn (fun _ => true) false l = false → V.anyL (Tag.is id) (fun _ => false) false l = false) := by
    refine V.ind ?_ ?_ ?_ ?_ ?_ ?_ ?_ ?_ ?_ ?_
    · intro v _; rfl
    · intro t k xs _ h; cases t with
      | fz => rfl
      | nn => rfl
      | own j e => simp [V.any, Tag.isOwn] at h
    · intro cs ih h; exact ih h
    · intro cs ih h; exact ih h
    · intro b o h; simp [V.any] at h
    · intro t k xs i o _ h; cases t with
      | fz => rfl
      | nn => rfl
      | own j e => simp [V.any, Tag.isOwn] at h
    · intro f fs cs h1 h2 h
      simp only [V.any, Bool.or_eq_false_iff] at h ⊢
      exact ⟨h1 h.1, h2 h.2⟩
    · intro _; rfl
    · intro _; rfl
    · intro x xs h1 h2 h
      simp only [V.anyL, Bool.or_eq_false_iff] at h ⊢
      exact ⟨h1 h.1, h2 h.2⟩
  exact main.1 v (by simpa [V.calm] using h)

theorem free_calm {v : V} (h : v.free = true) : v.calm = true := by
  have main : (∀ v : V, v.any Tag.isOwn (fun _ => true) true = false → v.any Tag.isOwn (fun _ => true) false = false) ∧ (∀ l, V.anyL Tag.isOwn (fun _ => true) true l = false → V.anyL Tag.isOwn (fun _ => true) false l = false) := by
    refine V.ind ?_ ?_ ?_ ?_ ?_ ?_ ?_ ?_ ?_ ?_ <;> simp_all [V.any, V.anyL]
  simpa [V.calm] using main.1 v (by simpa [V.free] using h)

/-- How an operation may turn the values beside it. -/
structure Turns (ψ : V → V) : Prop where
  calm : ∀ v : V, v.calm = true → ψ v = v
  back : ∀ v : V, (ψ v).free = true → ψ v = v

theorem turns_id : Turns _root_.id := ⟨fun _ _ => rfl, fun _ _ => rfl⟩
theorem turns_poison (id : Nat) : Turns (poison id) := by
  refine ⟨fun v h => by simp [poison, calm_has h], fun v h => ?_⟩
  unfold poison at *
  split
  · rename_i hv; rw [if_pos hv] at h; simp [V.free, V.any] at h
  · rfl
theorem turns_setOwn (id k i : Nat) (x : V) : Turns (setOwn id k i x) := by
  refine ⟨fun v h => ?_, fun v h => ?_⟩
  · unfold setOwn
    split
    · simp [V.calm, V.any, Tag.isOwn] at h
    · exact (turns_poison id).calm v h
  · unfold setOwn at *
    split
    · rename_i j e k' xs
      split
      · rename_i hj
        split
        · rename_i hk
          simp only [hj, hk, if_true] at h
          simp [V.free, V.any, Tag.isOwn] at h
        · rename_i hk
          simp only [hj, hk, if_true, if_false] at h
          simp [V.free, V.any] at h
      · rfl
    · rename_i hne
      split at h
      · exact absurd rfl (hne _ _ _ _)
      · exact (turns_poison id).back v h

theorem mapV_put {ψ : V → V} {d : Nat} {v : V} (hψ : ψ v = v) : (s.put (some d) v).mapV ψ = (s.mapV ψ).put (some d) v := by
  have e : (fun t => ψ (upd s.env d v t)) = upd (fun t => ψ (s.env t)) d v := by
    funext t
    simp only [upd]
    split
    · exact hψ
    · rfl
  show (⟨fun t => ψ (upd s.env d v t), _, _, _⟩ : St) = ⟨upd (fun t => ψ (s.env t)) d v, _, _, _⟩
  rw [e]
  rfl

/-- An operation that makes or writes memory: what it does to the values; that a value beside it makes no difference. -/
theorem xv_turns {op : Op} {r : V} {s1 : St} (h : xv P s op = some (r, s1)) : ∃ ψ, Turns ψ ∧ ∀ t, s1.env t = ψ (s.env t) := by
  unfold xv at h
  split at h
  · simp only [allocV, Option.map_eq_some_iff, newBox, Prod.mk.injEq] at h
    obtain ⟨_, _, _, rfl⟩ := h; exact ⟨_, turns_id, fun t => rfl⟩
  · simp only [boxV, Option.map_eq_some_iff, newBox, Prod.mk.injEq] at h
    obtain ⟨_, _, _, rfl⟩ := h; exact ⟨_, turns_id, fun t => rfl⟩
  · simp only [buildSliceV, Option.bind_eq_some_iff, Option.ite_none_right_eq_some, Option.some.injEq, Prod.mk.injEq, Prod.exists] at h
    obtain ⟨_, _, _, _, _, _, _, _, _, _, _, rfl⟩ := h; exact ⟨_, turns_id, fun t => rfl⟩
  · split at h
    · simp only [storeB, Option.map_eq_some_iff, Option.bind_eq_some_iff, Option.ite_none_right_eq_some, Option.some.injEq, Prod.mk.injEq] at h
      obtain ⟨_, ⟨_, _, _, _, _, rfl⟩, _, rfl⟩ := h; exact ⟨_, turns_id, fun t => rfl⟩
    · simp only [storeE, Option.map_eq_some_iff, Option.bind_eq_some_iff, Option.ite_none_right_eq_some, Option.some.injEq, Prod.mk.injEq] at h
      obtain ⟨_, ⟨_, _, _, _, _, _, _, _, _, rfl⟩, _, rfl⟩ := h; exact ⟨_, turns_setOwn _ _ _ _, fun t => rfl⟩
    · cases h
  · unfold makeV at h
    split at h
    · simp only [Option.bind_eq_some_iff, Option.ite_none_right_eq_some, Option.some.injEq, Prod.mk.injEq, Prod.exists] at h
      obtain ⟨_, _, _, _, _, _, _, _, _, rfl⟩ := h; exact ⟨_, turns_id, fun t => rfl⟩
    · cases h
  · simp only [Option.map_eq_some_iff, Prod.mk.injEq] at h
    obtain ⟨_, _, _, rfl⟩ := h; exact ⟨_, turns_id, fun t => rfl⟩
  · split at h
    · simp only [appendV, Option.bind_eq_some_iff, Prod.exists] at h
      obtain ⟨_, _, _, _, _, _, _, h⟩ := h
      split at h
      · simp only [Option.ite_none_right_eq_some, Option.some.injEq, Prod.mk.injEq] at h
        obtain ⟨_, _, rfl⟩ := h; exact ⟨_, turns_id, fun t => rfl⟩
      · simp only [Option.ite_none_right_eq_some, Option.some.injEq, Prod.mk.injEq] at h
        obtain ⟨_, _, rfl⟩ := h; exact ⟨_, turns_poison _, fun t => rfl⟩
      · cases h
    · cases h
  · cases h

theorem xv_put {op : Op} {d : Nat} {v : V} (hd : ∀ x ∈ op.operands.toList, x ≠ .tmp d) (hc : v.calm = true) :
    xv P (s.put (some d) v) op = (xv P s op).map fun p => (p.1, p.2.put (some d) v) := by
  have he : ∀ x ∈ op.operands.toList, (s.put (some d) v).ev x = s.ev x := fun x hx => ev_put (hd x hx)
  unfold xv
  split
  · rename_i e
    simp only [allocV, Option.map_map]
    rfl
  · rename_i e x
    rw [he x (by simp [Op.operands])]
    simp only [boxV, Option.map_map]
    rfl
  · rename_i t len parts
    have : (parts.toList.map fun p => (p.1, (s.put (some d) v).ev p.2)) = parts.toList.map fun p => (p.1, s.ev p.2) := by
      refine List.map_congr_left fun p hp => ?_
      rw [he p.2 (by simp only [Op.operands]; simpa using ⟨p.1, by simpa using hp⟩)]
    rw [this]
    simp only [buildSliceV]
    cases elemT P t with
    | none => rfl
    | some e =>
      simp only [Option.bind_some]
      cases tapp P e with
      | none => rfl
      | some kb =>
        simp only [Option.bind_some]
        cases zelem P e with
        | none => rfl
        | some z =>
          simp only [Option.bind_some]
          cases setAll kb.1 (List.replicate len z) (parts.toList.map fun p => (p.1, s.ev p.2)) with
          | none => rfl
          | some xs =>
            simp only [Option.bind_some]
            split <;> rfl
  · rename_i t x y
    rw [he x (by simp [Op.operands]), he y (by simp [Op.operands])]
    split
    · rename_i b off hb
      simp only [storeB, Option.map_map]
      have : (s.put (some d) v).bx = s.bx := rfl
      rw [this]
      cases s.bx b with
      | none => rfl
      | some cs =>
        simp only [Option.bind_some]
        cases (s.ev y).cs with
        | none => rfl
        | some l =>
          simp only [Option.bind_some]
          split <;> rfl
    · rename_i id e k xs i off hb
      simp only [storeE, Option.map_map]
      cases xs[i]? with
      | none => rfl
      | some x0 =>
        simp only [Option.bind_some]
        cases x0.cs with
        | none => rfl
        | some c0 =>
          simp only [Option.bind_some]
          cases (s.ev y).cs with
          | none => rfl
          | some l =>
            simp only [Option.bind_some]
            cases rebuild x0 (c0.take off ++ l ++ c0.drop (off + l.length)) with
            | none => rfl
            | some x1 =>
              simp only [Option.bind_some]
              split
              · simp only [Option.map_some, Function.comp, mapV_put ((turns_setOwn id k i x1).calm v hc)]
              · rfl
    · rfl
  · rename_i t l c
    rw [he l (by simp [Op.operands]), he c (by simp [Op.operands])]
    unfold makeV
    split
    · cases elemT P t with
      | none => rfl
      | some e =>
        simp only [Option.bind_some]
        cases tapp P e with
        | none => rfl
        | some kb =>
          simp only [Option.bind_some]
          cases zelem P e with
          | none => rfl
          | some z =>
            simp only [Option.bind_some]
            split <;> rfl
    · rfl
  · rename_i src dst x
    rw [he x (by simp [Op.operands])]
    simp only [Option.map_map]
    rfl
  · rename_i args ts
    split
    · rename_i x y t t2 hx ht
      have e1 : args = #[x, y] := by apply Array.ext'; simpa using hx
      subst e1
      rw [he x (by simp [Op.operands, Call.operands]), he y (by simp [Op.operands, Call.operands])]
      simp only [appendV]
      cases elemT P t with
      | none => rfl
      | some e =>
        simp only [Option.bind_some]
        cases tapp P e with
        | none => rfl
        | some kb =>
          simp only [Option.bind_some]
          cases srcV P t2 kb.1 (s.ev y) with
          | none => rfl
          | some ys =>
            simp only [Option.bind_some]
            split
            · split <;> rfl
            · rename_i id e' k' xs _
              split
              · simp only [Option.map_some, mapV_put ((turns_poison id).calm v hc)]
                rfl
              · rfl
            · rfl
    · rfl
  · rfl

theorem valX_turns {v : V} {s1 : St} (h : ValX P s o v s1) : ∃ ψ, Turns ψ ∧ ∀ t, s1.env t = ψ (s.env t) := by
  rcases h with h | ⟨f, args, ts, g, fs, cs, r, heq, hf, h1, h2, h3, h4, h5, h0, rfl, rfl⟩
  · exact xv_turns h
  · exact ⟨_, turns_id, fun t => rfl⟩

theorem valX_put {v x : V} {s1 : St} {d : Nat} (hd : ∀ y ∈ o.op.operands.toList, y ≠ .tmp d) (hc : x.calm = true) :
    ValX P (s.put (some d) x) o v s1 ↔ ∃ s2, ValX P s o v s2 ∧ s1 = s2.put (some d) x := by
  have he : ∀ y ∈ o.op.operands.toList, (s.put (some d) x).ev y = s.ev y := fun y hy => ev_put (hd y hy)
  constructor
  · rintro (h | ⟨f, args, ts, g, fs, cs, r, heq, hf, h1, h2, h3, h4, h5, h0, rfl, rfl⟩)
    · rw [xv_put hd hc] at h
      simp only [Option.map_eq_some_iff, Prod.mk.injEq] at h
      obtain ⟨⟨v', s2⟩, h, rfl, rfl⟩ := h
      exact ⟨s2, .inl h, rfl⟩
    · rw [heq] at he
      have hfe := he f (by simp [Op.operands, Call.operands])
      have hae : args.toList.map (s.put (some d) x).ev = args.toList.map s.ev := List.map_congr_left fun y hy => he y (by simp [Op.operands, Call.operands] at hy ⊢; simp [hy])
      rw [hfe] at hf
      rw [hae] at h1 h3 h5
      exact ⟨{ s with nid := s.nid + r.idb }, .inr ⟨f, args, ts, g, fs, cs, r, heq, hf, h1, h2, h3, h4, h5, h0, rfl, rfl⟩, rfl⟩
  · rintro ⟨s2, h, rfl⟩
    rcases h with h | ⟨f, args, ts, g, fs, cs, r, heq, hf, h1, h2, h3, h4, h5, h0, rfl, rfl⟩
    · exact .inl (by rw [xv_put hd hc, h]; rfl)
    · rw [heq] at he
      have hfe := he f (by simp [Op.operands, Call.operands])
      have hae : args.toList.map (s.put (some d) x).ev = args.toList.map s.ev := List.map_congr_left fun y hy => he y (by simp [Op.operands, Call.operands] at hy ⊢; simp [hy])
      exact .inr ⟨f, args, ts, g, fs, cs, r, heq, by rw [hfe]; exact hf, by rw [hae]; exact h1, h2, by rw [hae]; exact h3, h4, by rw [hae]; exact h5, h0, rfl, rfl⟩
end
end Go.Pg
end

section
/-
  The pure layer: whatever order is drawn comes to what the text's order comes to.
-/
namespace Go.Pg
open Go
set_option linter.unusedSectionVars false

/-- One operation with its guard: its kind and the state behind it. -/
def StepD (P : Program) [Tb P] (dsts : List (Option Nat)) (o : Oper) (κ : Kd) (s s' : St) : Prop :=
  match o.guard with
  | none => stepW P s o (fun k s1 => k = κ ∧ s1 = s')
  | some (j, want) => (∃ b, guardV s dsts j = some (.c (.bool b)) ∧ (if b = want then stepW P s o (fun k s1 => k = κ ∧ s1 = s') else κ = .p ∧ s' = s.put o.dst (.c undef))) ∨
      ∃ v, guardV s dsts j = some (.c v) ∧ (∀ b, v ≠ .bool b) ∧ κ = .p ∧ s' = s.put o.dst (.c undef)

def tmpOf : Operand → Option Nat
  | .tmp t => some t
  | _ => none
/-- The temporaries that it looks at. -/
def lkO (o : Oper) : List Nat := o.op.operands.toList.filterMap tmpOf
def lkG (dsts : List (Option Nat)) (o : Oper) : List Nat := match o.guard with | some (j, _) => (match dsts[j]? with | some (some d) => [d] | _ => []) | none => []
def lk (dsts : List (Option Nat)) (o : Oper) : List Nat := lkO o ++ lkG dsts o

section
variable {P : Program} [Tb P] {dsts : List (Option Nat)} {s s' s1 s2 : St} {o o1 o2 : Oper} {κ κ1 κ2 : Kd}

theorem lkO_ev (h : ∀ t ∈ lkO o, s'.env t = s.env t) : ∀ x ∈ o.op.operands.toList, s'.ev x = s.ev x := by
  intro x hx
  cases x with
  | tmp t => exact h t (List.mem_filterMap.2 ⟨_, hx, rfl⟩)
  | _ => rfl

theorem guardV_congr {j : Nat} {want : Bool} (hg : o.guard = some (j, want)) (h : ∀ t ∈ lkG dsts o, s'.env t = s.env t) : guardV s' dsts j = guardV s dsts j := by
  unfold guardV
  unfold lkG at h
  rw [hg] at h
  simp only at h
  cases hd : dsts[j]? with
  | none => rfl
  | some x =>
    cases x with
    | none => rfl
    | some d =>
      rw [hd] at h
      simp only [h d (by simp)]

theorem put_comm' {a b : Option Nat} {v u : V} (h : ∀ d, a = some d → b ≠ some d) : (s.put a v).put b u = (s.put b u).put a v := by
  cases a with
  | none => rfl
  | some d =>
    cases b with
    | none => rfl
    | some e => exact put_comm (fun x => h d rfl (by rw [x]))

theorem put_env {a : Option Nat} {v : V} {t : Nat} (h : a ≠ some t) : (s.put a v).env t = s.env t := by
  cases a with
  | none => rfl
  | some d => simp [St.put, upd, show t ≠ d from fun e => h (by rw [e])]

theorem put_bx {a : Option Nat} {v : V} : (s.put a v).bx = s.bx := by cases a <;> rfl

/-- A step that only puts a value: what it looks at, and that it is the same step wherever that is the same. -/
theorem stepD_val (h : StepD P dsts o κ s s') (hk : κ = .p ∨ κ = .q ∨ κ = .r) :
    ∃ (v : V) (N : List Nat), s' = s.put o.dst v ∧ (∀ t ∈ N, t ∈ lk dsts o) ∧ (κ = .p → v.calm = true ∧ ∀ t ∈ N, (s.env t).free = true) ∧
      ∀ s2 : St, (∀ t ∈ N, s2.env t = s.env t) → (κ = .r → s2.bx = s.bx) → StepD P dsts o κ s2 (s2.put o.dst v) := by
  -- the operation itself
  have opCase : stepW P s o (fun k s1 => k = κ ∧ s1 = s') → ∃ (v : V), s' = s.put o.dst v ∧ (κ = .p → v.calm = true ∧ ∀ t ∈ lkO o, (s.env t).free = true) ∧
      ∀ s2 : St, (∀ t ∈ lkO o, s2.env t = s.env t) → (κ = .r → s2.bx = s.bx) → stepW P s2 o (fun k s1 => k = κ ∧ s1 = s2.put o.dst v) := by
    intro h
    rcases stepW_cases h with ⟨v, hv, hκ, rfl⟩ | ⟨v, hv, rfl, rfl⟩ | ⟨_, _, _, rfl, _⟩ | rfl
    · refine ⟨v, rfl, fun hp => ?_, fun s2 he _ => ?_⟩
      · rw [hp] at hκ
        unfold kq at hκ
        split at hκ
        · rename_i hc
          simp only [Bool.and_eq_true] at hc
          refine ⟨hc.2, fun t ht => ?_⟩
          obtain ⟨x, hx, hxt⟩ := List.mem_filterMap.1 ht
          cases x with
          | tmp t' =>
            simp only [tmpOf, Option.some.injEq] at hxt
            subst hxt
            exact List.all_eq_true.1 hc.1 _ (List.mem_map.2 ⟨_, hx, rfl⟩)
          | _ => simp [tmpOf] at hxt
        · cases hκ
      · have he' := lkO_ev he
        have := valQ_step (valQ_congr he' hv)
        have e : opsV s2 o = opsV s o := List.map_congr_left fun x hx => he' x hx
        rw [e, ← hκ] at this
        exact this
    · refine ⟨v, rfl, ?_, fun s2 he hb => ?_⟩
      · intro hp; cases hp
      · exact rv_step (by rw [rv_congr (lkO_ev he) (hb rfl)]; exact hv)
    · simp at hk
    · simp at hk
  unfold StepD at h
  split at h
  · rename_i hg
    obtain ⟨v, h1, h2, h3⟩ := opCase h
    refine ⟨v, lkO o, h1, fun t ht => by simp [lk, ht], h2, fun s2 he hb => ?_⟩
    unfold StepD
    rw [hg]
    exact h3 s2 he hb
  · rename_i j want hg
    have gslot : ∀ v, guardV s dsts j = some (.c v) → ∀ t ∈ lkG dsts o, (s.env t).free = true := by
      intro v hb t ht
      unfold lkG at ht
      rw [hg] at ht
      simp only at ht
      unfold guardV at hb
      cases hd : dsts[j]? with
      | none => rw [hd] at ht; cases ht
      | some x =>
        cases x with
        | none => rw [hd] at ht; cases ht
        | some d =>
          rw [hd] at ht hb
          simp only [List.mem_singleton] at ht
          subst ht
          simp only [Option.some.injEq] at hb
          rw [hb]; rfl
    rcases h with ⟨b, hb, h⟩ | ⟨v, hb, hnb, rfl, rfl⟩
    case inr =>
      refine ⟨.c undef, lkG dsts o, rfl, fun t ht => by simp [lk, ht], fun _ => ⟨rfl, gslot _ hb⟩, fun s2 he hbx => ?_⟩
      unfold StepD
      rw [hg]
      exact .inr ⟨v, by rw [guardV_congr hg he]; exact hb, hnb, rfl, rfl⟩
    have gslot := gslot _ hb
    split at h
    · rename_i hbw
      obtain ⟨v, h1, h2, h3⟩ := opCase h
      refine ⟨v, lk dsts o, h1, fun t ht => ht, fun hp => ⟨(h2 hp).1, fun t ht => ?_⟩, fun s2 he hbx => ?_⟩
      · rcases List.mem_append.1 ht with ht | ht
        · exact (h2 hp).2 t ht
        · exact gslot t ht
      · unfold StepD
        rw [hg]
        refine .inl ⟨b, ?_, ?_⟩
        · rw [guardV_congr hg (fun t ht => he t (by simp [lk, ht]))]; exact hb
        · rw [if_pos hbw]; exact h3 s2 (fun t ht => he t (by simp [lk, ht])) hbx
    · rename_i hbw
      obtain ⟨rfl, rfl⟩ := h
      refine ⟨.c undef, lkG dsts o, rfl, fun t ht => by simp [lk, ht], fun _ => ⟨rfl, gslot⟩, fun s2 he hbx => ?_⟩
      unfold StepD
      rw [hg]
      exact .inl ⟨b, by rw [guardV_congr hg he]; exact hb, by rw [if_neg hbw]; exact ⟨rfl, rfl⟩⟩

theorem lkO_ne {d : Nat} (h : d ∉ lkO o) : ∀ x ∈ o.op.operands.toList, x ≠ .tmp d := by
  rintro x hx rfl
  exact h (List.mem_filterMap.2 ⟨_, hx, rfl⟩)

/-- A step that makes or writes memory. -/
theorem stepD_x (h : StepD P dsts o .x s s') : ∃ (v : V) (sA : St) (ψ : V → V), Turns ψ ∧ (∀ t, sA.env t = ψ (s.env t)) ∧ s' = sA.put o.dst v ∧
    ∀ d y, d ∉ lk dsts o → y.calm = true → StepD P dsts o .x (s.put (some d) y) ((sA.put (some d) y).put o.dst v) := by
  have opCase : stepW P s o (fun k s1 => k = .x ∧ s1 = s') → ∃ (v : V) (sA : St) (ψ : V → V), Turns ψ ∧ (∀ t, sA.env t = ψ (s.env t)) ∧ s' = sA.put o.dst v ∧
      ∀ d y, d ∉ lk dsts o → y.calm = true → stepW P (s.put (some d) y) o (fun k s1 => k = .x ∧ s1 = (sA.put (some d) y).put o.dst v) := by
    intro h
    rcases stepW_cases h with ⟨v, hv, hκ, rfl⟩ | ⟨v, hv, hκ, _⟩ | ⟨v, sA, hv, _, rfl⟩ | hκ
    · unfold kq at hκ; split at hκ <;> cases hκ
    · cases hκ
    · obtain ⟨ψ, h1, h2⟩ := valX_turns hv
      refine ⟨v, sA, ψ, h1, h2, rfl, fun d y hd hy => ?_⟩
      exact valX_step ((valX_put (lkO_ne (fun hm => hd (by simp [lk, hm]))) hy).2 ⟨sA, hv, rfl⟩)
    · cases hκ
  unfold StepD at h
  split at h
  · rename_i hg
    obtain ⟨v, sA, ψ, h1, h2, h3, h4⟩ := opCase h
    refine ⟨v, sA, ψ, h1, h2, h3, fun d y hd hy => ?_⟩
    unfold StepD
    rw [hg]
    exact h4 d y hd hy
  · rename_i j want hg
    rcases h with ⟨b, hb, h⟩ | ⟨_, _, _, h, _⟩
    case inr => cases h
    split at h
    · rename_i hbw
      obtain ⟨v, sA, ψ, h1, h2, h3, h4⟩ := opCase h
      refine ⟨v, sA, ψ, h1, h2, h3, fun d y hd hy => ?_⟩
      unfold StepD
      rw [hg]
      refine .inl ⟨b, ?_, by rw [if_pos hbw]; exact h4 d y hd hy⟩
      rw [guardV_congr hg (s := s) (fun t ht => put_env (fun e => by simp only [Option.some.injEq] at e; subst e; exact hd (by simp [lk, ht])))]
      exact hb
    · cases h.1

theorem stepD_x_back {d : Nat} {y : V} (h : StepD P dsts o .x (s.put (some d) y) s') (hd : d ∉ lk dsts o) (hy : y.calm = true) :
    ∃ (v : V) (sA : St) (ψ : V → V), Turns ψ ∧ (∀ t, sA.env t = ψ (s.env t)) ∧ StepD P dsts o .x s (sA.put o.dst v) ∧ s' = (sA.put (some d) y).put o.dst v := by
  have opCase : stepW P (s.put (some d) y) o (fun k s1 => k = .x ∧ s1 = s') → ∃ (v : V) (sA : St) (ψ : V → V), Turns ψ ∧ (∀ t, sA.env t = ψ (s.env t)) ∧ stepW P s o (fun k s1 => k = .x ∧ s1 = sA.put o.dst v) ∧ s' = (sA.put (some d) y).put o.dst v := by
    intro h
    rcases stepW_cases h with ⟨v, hv, hκ, rfl⟩ | ⟨v, hv, hκ, _⟩ | ⟨v, sB, hv, _, rfl⟩ | hκ
    · unfold kq at hκ; split at hκ <;> cases hκ
    · cases hκ
    · obtain ⟨sA, h1, rfl⟩ := (valX_put (lkO_ne (fun hm => hd (by simp [lk, hm]))) hy).1 hv
      obtain ⟨ψ, h2, h3⟩ := valX_turns h1
      exact ⟨v, sA, ψ, h2, h3, valX_step h1, rfl⟩
    · cases hκ
  unfold StepD at h
  split at h
  · rename_i hg
    obtain ⟨v, sA, ψ, h1, h2, h3, h4⟩ := opCase h
    refine ⟨v, sA, ψ, h1, h2, ?_, h4⟩
    unfold StepD
    rw [hg]
    exact h3
  · rename_i j want hg
    rcases h with ⟨b, hb, h⟩ | ⟨_, _, _, h, _⟩
    case inr => cases h
    split at h
    · rename_i hbw
      obtain ⟨v, sA, ψ, h1, h2, h3, h4⟩ := opCase h
      refine ⟨v, sA, ψ, h1, h2, ?_, h4⟩
      unfold StepD
      rw [hg]
      refine .inl ⟨b, ?_, by rw [if_pos hbw]; exact h3⟩
      rw [guardV_congr hg (s' := s.put (some d) y) (fun t ht => put_env (fun e => by simp only [Option.some.injEq] at e; subst e; exact hd (by simp [lk, ht])))] at hb
      exact hb
    · cases h.1

/-- Which kinds may stand beside each other. -/
def compat : Kd → Kd → Bool
  | .p, .p | .p, .q | .p, .r | .q, .p | .q, .q | .q, .r | .r, .p | .r, .q | .r, .r => true
  | .p, .x | .x, .p => true
  | _, _ => false

def apartB (dsts : List (Option Nat)) (a b : Oper) : Bool :=
  (match a.dst with | some d => !(lk dsts b).contains d && !(b.dst == some d) | none => true) && (match b.dst with | some d => !(lk dsts a).contains d | none => true)

theorem apartB_spec (h : apartB dsts o1 o2 = true) : (∀ d, o1.dst = some d → d ∉ lk dsts o2) ∧ (∀ d, o1.dst = some d → o2.dst ≠ some d) ∧ (∀ d, o2.dst = some d → d ∉ lk dsts o1) := by
  simp only [apartB, Bool.and_eq_true] at h
  refine ⟨fun d hd => ?_, fun d hd => ?_, fun d hd => ?_⟩
  · have h1 := h.1
    rw [hd] at h1
    simp at h1
    exact h1.1
  · have h1 := h.1
    rw [hd] at h1
    simp at h1
    exact h1.2
  · have h1 := h.2
    rw [hd] at h1
    simpa using h1

/-- **Two operations, neither of which waits for the other, may be carried out in either order.** -/
theorem swap (h1 : StepD P dsts o1 κ1 s s1) (h2 : StepD P dsts o2 κ2 s1 s2) (hap : apartB dsts o1 o2 = true) (hc : compat κ1 κ2 = true) : ∃ s1', StepD P dsts o2 κ2 s s1' ∧ StepD P dsts o1 κ1 s1' s2 := by
  obtain ⟨ha, hb, hc'⟩ := apartB_spec hap
  have hb' : ∀ d, o2.dst = some d → o1.dst ≠ some d := fun d h h' => hb d h' h
  have vv : (κ1 = .p ∨ κ1 = .q ∨ κ1 = .r) → (κ2 = .p ∨ κ2 = .q ∨ κ2 = .r) → ∃ s1', StepD P dsts o2 κ2 s s1' ∧ StepD P dsts o1 κ1 s1' s2 := by
    intro k1 k2
    obtain ⟨v1, N1, rfl, hN1, _, ht1⟩ := stepD_val h1 k1
    obtain ⟨v2, N2, rfl, hN2, _, ht2⟩ := stepD_val h2 k2
    refine ⟨s.put o2.dst v2, ht2 s (fun t ht => (put_env (fun e => ha t e (hN2 t ht))).symm) (fun _ => put_bx.symm), ?_⟩
    rw [put_comm' hb]
    exact ht1 _ (fun t ht => put_env (fun e => hc' t e (hN1 t ht))) (fun _ => put_bx)
  have px : κ1 = .p → κ2 = .x → ∃ s1', StepD P dsts o2 κ2 s s1' ∧ StepD P dsts o1 κ1 s1' s2 := by
    rintro rfl rfl
    obtain ⟨v1, N1, rfl, hN1, hp, ht1⟩ := stepD_val h1 (.inl rfl)
    obtain ⟨hcalm, hfree⟩ := hp rfl
    have main : ∀ (v : V) (sA : St) (ψ : V → V), Turns ψ → (∀ t, sA.env t = ψ (s.env t)) → StepD P dsts o1 .p (sA.put o2.dst v) ((sA.put o2.dst v).put o1.dst v1) := by
      intro v sA ψ hψ he
      refine ht1 _ (fun t ht => ?_) (fun h => by cases h)
      rw [put_env (fun e => hc' t e (hN1 t ht)), he, hψ.calm _ (free_calm (hfree t ht))]
    cases hd : o1.dst with
    | none =>
      rw [hd] at h2
      obtain ⟨v, sA, ψ, hψ, he, rfl, _⟩ := stepD_x h2
      refine ⟨_, h2, ?_⟩
      have := main v sA ψ hψ he
      rw [hd] at this
      exact this
    | some d =>
      rw [hd] at h2
      obtain ⟨v, sA, ψ, hψ, he, h3, rfl⟩ := stepD_x_back h2 (ha d hd) hcalm
      refine ⟨_, h3, ?_⟩
      have := main v sA ψ hψ he
      rw [hd] at this
      rw [put_comm' (fun e h => by simp only [Option.some.injEq] at h; subst h; exact hb d hd)]
      exact this
  have xp : κ1 = .x → κ2 = .p → ∃ s1', StepD P dsts o2 κ2 s s1' ∧ StepD P dsts o1 κ1 s1' s2 := by
    rintro rfl rfl
    obtain ⟨v, sA, ψ, hψ, he, rfl, hfwd⟩ := stepD_x h1
    obtain ⟨v2, N2, rfl, hN2, hp, ht2⟩ := stepD_val h2 (.inl rfl)
    obtain ⟨hcalm, hfree⟩ := hp rfl
    have hsame : ∀ t ∈ N2, s.env t = (sA.put o1.dst v).env t := by
      intro t ht
      have hf := hfree t ht
      rw [put_env (fun e => ha t e (hN2 t ht)), he] at hf ⊢
      exact (hψ.back _ hf).symm
    have h3 := ht2 s hsame (fun h => by cases h)
    refine ⟨_, h3, ?_⟩
    rw [put_comm' hb]
    cases hd : o2.dst with
    | none => exact h1
    | some d => exact hfwd d v2 (hc' d hd) hcalm
  cases κ1 <;> cases κ2 <;> first
    | exact absurd hc Bool.false_ne_true
    | exact vv (by first | exact .inl rfl | exact .inr (.inl rfl) | exact .inr (.inr rfl)) (by first | exact .inl rfl | exact .inr (.inl rfl) | exact .inr (.inr rfl))
    | exact px rfl rfl
    | exact xp rfl rfl

/-! ### A run of operations -/
/-- One that is to come: its number, itself, its kind. -/
abbrev Ent := Nat × Oper × Kd

def ChainD (P : Program) [Tb P] (dsts : List (Option Nat)) : List Ent → St → St → Prop
  | [], s, s' => s = s'
  | e :: r, s, s' => ∃ s1, StepD P dsts e.2.1 e.2.2 s s1 ∧ ChainD P dsts r s1 s'

/-- Beside each other, or the second waits for the first. -/
def Beside (dsts : List (Option Nat)) (x y : Ent) : Bool := compat x.2.2 y.2.2 && apartB dsts x.2.1 y.2.1

theorem chain_front {x : Ent} : ∀ {l1 l2 : List Ent} {s s' : St}, ChainD P dsts (l1 ++ x :: l2) s s' → (∀ y ∈ l1, Beside dsts y x = true) → ChainD P dsts (x :: (l1 ++ l2)) s s' := by
  intro l1
  induction l1 with
  | nil => intro l2 s s' h _; exact h
  | cons y l1 ih =>
    rintro l2 s s' ⟨s1, h1, h2⟩ hb
    obtain ⟨s2, h3, h4⟩ := ih h2 (fun z hz => hb z (by simp [hz]))
    have hy := hb y (by simp)
    simp only [Beside, Bool.and_eq_true] at hy
    obtain ⟨s1', h5, h6⟩ := swap h1 h3 hy.2 hy.1
    exact ⟨s1', h5, s2, h6, h4⟩
end

/-! ### Which waits for which -/
def edgesOf (o : Oper) : List Nat := (o.after.toList.filter fun e => Region.binds .any e).map (·.on)
def maskOf (acc : List Nat) (es : List Nat) : Nat := es.foldr (fun j m => m ||| (2 ^ j ||| acc.getD j 0)) 0
def befGo (acc : List Nat) : List Oper → List Nat
  | [] => acc
  | o :: r => befGo (acc ++ [maskOf acc (edgesOf o)]) r

theorem mask_bit {acc es : List Nat} {j : Nat} (h : (maskOf acc es).testBit j = true) : ∃ e ∈ es, j = e ∨ (acc.getD e 0).testBit j = true := by
  induction es with
  | nil => simp [maskOf] at h
  | cons e es ih =>
    simp only [maskOf, List.foldr_cons, Nat.testBit_or, Bool.or_eq_true, Nat.testBit_two_pow, decide_eq_true_eq] at h
    rcases h with h | h | h
    · obtain ⟨e', h1, h2⟩ := ih h
      exact ⟨e', by simp [h1], h2⟩
    · exact ⟨e, by simp, .inl h.symm⟩
    · exact ⟨e, by simp, .inr h⟩

theorem befGo_keep : ∀ (l : List Oper) (acc : List Nat) (i : Nat), i < acc.length → (befGo acc l).getD i 0 = acc.getD i 0 := by
  intro l
  induction l with
  | nil => intro acc i _; rfl
  | cons o r ih =>
    intro acc i hi
    rw [befGo, ih _ i (by simp; omega)]
    simp [List.getD, List.getElem?_append_left hi]

theorem bef_closed (D : Nat → Prop) : ∀ (l : List Oper) (acc : List Nat), (∀ k j, D k → (acc.getD k 0).testBit j = true → D j) →
    (∀ k o, l[k]? = some o → D (acc.length + k) → ∀ e ∈ edgesOf o, D e) → ∀ k o, l[k]? = some o → (∀ e ∈ edgesOf o, D e) → ∀ j, ((befGo acc l).getD (acc.length + k) 0).testBit j = true → D j := by
  intro l
  induction l with
  | nil => intro acc _ _ k o h; simp at h
  | cons o r ih =>
    intro acc hinv hcl k o' hk he j hj
    have hm : ∀ j, (∀ e ∈ edgesOf o, D e) → (maskOf acc (edgesOf o)).testBit j = true → D j := by
      intro j he hj
      obtain ⟨e, h1, h2⟩ := mask_bit hj
      rcases h2 with rfl | h2
      · exact he _ h1
      · exact hinv e j (he e h1) h2
    cases k with
    | zero =>
      simp only [List.getElem?_cons_zero, Option.some.injEq] at hk
      subst hk
      rw [befGo, Nat.add_zero, befGo_keep _ _ _ (by simp)] at hj
      simp only [List.getD, List.getElem?_append_right (Nat.le_refl _), Nat.sub_self, List.getElem?_cons_zero, Option.getD_some] at hj
      exact hm j he hj
    | succ k =>
      simp only [List.getElem?_cons_succ] at hk
      refine ih (acc ++ [maskOf acc (edgesOf o)]) ?_ ?_ k o' hk he j (by rw [befGo] at hj; simpa [Nat.add_assoc, Nat.add_comm 1 k] using hj)
      · intro i j hi hj
        rcases Nat.lt_trichotomy i acc.length with hlt | heq | hgt
        · simp only [List.getD, List.getElem?_append_left hlt] at hj
          exact hinv i j hi hj
        · subst heq
          simp only [List.getD, List.getElem?_append_right (Nat.le_refl _), Nat.sub_self, List.getElem?_cons_zero, Option.getD_some] at hj
          exact hm j (hcl 0 o (by simp) (by simpa using hi)) hj
        · simp [List.getD, List.getElem?_eq_none (show (acc ++ [maskOf acc (edgesOf o)]).length ≤ i by simp; omega)] at hj
      · intro i o2 hi hD
        refine hcl (i + 1) o2 (by simpa using hi) ?_
        simpa [Nat.add_assoc, Nat.add_comm 1 i] using hD

/-- All pairs: beside each other, or the later waits for the earlier. -/
def chkAll (dsts : List (Option Nat)) (b : List Nat) : List Ent → Bool
  | [] => true
  | x :: r => (r.all fun y => (b.getD y.1 0).testBit x.1 || Beside dsts x y) && chkAll dsts b r

def entries (k : Nat) : List Oper → List Kd → List Ent
  | o :: os, κ :: ks => (k, o, κ) :: entries (k + 1) os ks
  | _, _ => []

/-- What is asked of a region and its operations' kinds: the kernel reckons it. -/
def chkD (ops : List Oper) (ks : List Kd) : Bool :=
  ops.length == ks.length && (ops.zipIdx.all fun x => (edgesOf x.1).all fun e => decide (e < x.2)) && chkAll (ops.map (·.dst)) (befGo [] ops) (entries 0 ops ks)

/-- The region, operation by operation in the text's order. -/
def wpDgo (P : Program) [Tb P] (dsts : List (Option Nat)) (ops : List Oper) (K : St → Prop) : List Oper → List Kd → St → Prop
  | [], ks, s => chkD ops ks.reverse = true ∧ K s
  | o :: rest, ks, s =>
    match o.guard with
    | none => stepW P s o (fun κ s' => wpDgo P dsts ops K rest (κ :: ks) s')
    | some (j, want) => match guardV s dsts j with
      | some (.c (.bool b)) => if b = want then stepW P s o (fun κ s' => wpDgo P dsts ops K rest (κ :: ks) s') else wpDgo P dsts ops K rest (.p :: ks) (s.put o.dst (.c undef))
      | some (.c _) => wpDgo P dsts ops K rest (.p :: ks) (s.put o.dst (.c undef))
      | _ => False

def drawW (P : Program) [Tb P] (ops : Array Oper) (K : St → Prop) (s : St) : Prop := wpDgo P (ops.toList.map (·.dst)) ops.toList K ops.toList [] s

section
variable {P : Program} [Tb P] {dsts : List (Option Nat)} {s s' : St} {o : Oper}

theorem wpDgo_chain {ops : List Oper} {K : St → Prop} : ∀ (rest : List Oper) (ks : List Kd) (k : Nat) (s : St), wpDgo P dsts ops K rest ks s →
    ∃ ks' s', rest.length = ks'.length ∧ ChainD P dsts (entries k rest ks') s s' ∧ chkD ops (ks.reverse ++ ks') = true ∧ K s' := by
  intro rest
  induction rest with
  | nil => intro ks k s h; exact ⟨[], s, rfl, rfl, by simpa using h.1, h.2⟩
  | cons o rest ih =>
    intro ks k s h
    have step : stepW P s o (fun κ s' => wpDgo P dsts ops K rest (κ :: ks) s') → (∀ κ s', stepW P s o (fun k s1 => k = κ ∧ s1 = s') → StepD P dsts o κ s s') →
        ∃ ks' s', (o :: rest).length = ks'.length ∧ ChainD P dsts (entries k (o :: rest) ks') s s' ∧ chkD ops (ks.reverse ++ ks') = true ∧ K s' := by
      intro h hd
      obtain ⟨κ, s1, h1, h2⟩ := stepW_ex h
      obtain ⟨ks', s', h3, h4, h5, h6⟩ := ih (κ :: ks) (k + 1) s1 h2
      exact ⟨κ :: ks', s', by simp [h3], ⟨s1, hd κ s1 h1, h4⟩, by simpa using h5, h6⟩
    unfold wpDgo at h
    split at h
    · rename_i hg
      exact step h (fun κ s' h => by unfold StepD; rw [hg]; exact h)
    · rename_i j want hg
      split at h
      · rename_i b hb
        split at h
        · rename_i hbw
          exact step h (fun κ s' h => by unfold StepD; rw [hg]; exact .inl ⟨b, hb, by rw [if_pos hbw]; exact h⟩)
        · rename_i hbw
          obtain ⟨ks', s', h3, h4, h5, h6⟩ := ih (.p :: ks) (k + 1) _ h
          exact ⟨.p :: ks', s', by simp [h3], ⟨_, by unfold StepD; rw [hg]; exact .inl ⟨b, hb, by rw [if_neg hbw]; exact ⟨rfl, rfl⟩⟩, h4⟩, by simpa using h5, h6⟩
      · rename_i v hnb hb
        obtain ⟨ks', s', h3, h4, h5, h6⟩ := ih (.p :: ks) (k + 1) _ h
        exact ⟨.p :: ks', s', by simp [h3], ⟨_, by unfold StepD; rw [hg]; exact .inr ⟨v, hb, fun b e => hnb b (by rw [e]), rfl, rfl⟩, h4⟩, by simpa using h5, h6⟩
      · cases h

/-- The operation in the model. -/
theorem stepD_wp {C : Cx} (hT : Tb.T P C.w0) {ops : Array Oper} {i : Nat} {κ : Kd} {L : Lay} {a : Act} {w : World} {K : Act → World → Prop} {Q : Exit → Act → World → Prop} (ho : ops[i]? = some o) (h : StepD P (ops.toList.map (·.dst)) o κ s s') (S : Sim C s L a w)
    (hd : ∀ t, o.dst = some t → t < C.n) (hK : ∀ L' a' w', Sim C s' L' a' w' → K a' w') : wpOp P ops Q i K a w := by
  unfold wpOp
  rw [ho]
  simp only
  unfold StepD at h
  split at h
  · rename_i hg
    rw [if_pos (by simp [Region.wanted, hg])]
    exact .inl (stepW_sound h hT S hd (fun κ' s1 L' a' w' h' S' => by obtain ⟨_, rfl⟩ := h'; exact hK L' a' w' S'))
  · rename_i j want hg
    rcases h with ⟨b, hb, h⟩ | ⟨v, hb, hnb, _, rfl⟩
    case inr =>
      rw [if_neg (by simp [Region.wanted, hg, guard_none S hb hnb])]
      exact hK L _ _ (S.put (v := .c undef) rfl hd)
    have hy := guard_yielded S hb
    split at h
    · rename_i hbw
      rw [if_pos (by simp [Region.wanted, hg, hy, hbw])]
      exact .inl (stepW_sound h hT S hd (fun κ' s1 L' a' w' h' S' => by obtain ⟨_, rfl⟩ := h'; exact hK L' a' w' S'))
    · rename_i hbw
      obtain ⟨_, rfl⟩ := h
      rw [if_neg (by simp [Region.wanted, hg, hy, hbw])]
      exact hK L _ _ (S.put (v := .c undef) rfl hd)

theorem entries_get : ∀ (os : List Oper) (ks : List Kd) (k : Nat) (x : Ent), x ∈ entries k os ks → k ≤ x.1 ∧ os[x.1 - k]? = some x.2.1 := by
  intro os
  induction os with
  | nil => intro ks k x h; simp [entries] at h
  | cons o os ih =>
    intro ks k x h
    cases ks with
    | nil => simp [entries] at h
    | cons κ ks =>
      simp only [entries, List.mem_cons] at h
      rcases h with rfl | h
      · simp
      · obtain ⟨h1, h2⟩ := ih ks (k + 1) x h
        refine ⟨by omega, ?_⟩
        rw [show x.1 - k = (x.1 - (k + 1)) + 1 by omega]
        simpa using h2

theorem entries_nums : ∀ (os : List Oper) (ks : List Kd) (k : Nat), os.length = ks.length → (entries k os ks).map (·.1) = List.range' k os.length := by
  intro os
  induction os with
  | nil => intro ks k h; cases ks <;> rfl
  | cons o os ih =>
    intro ks k h
    cases ks with
    | nil => simp at h
    | cons κ ks => simp only [entries, List.map_cons, List.length_cons, List.range'_succ]; rw [ih ks (k + 1) (by simpa using h)]

theorem chkAll_pairs {b : List Nat} : ∀ {l : List Ent}, chkAll dsts b l = true → l.Pairwise fun x y => ((b.getD y.1 0).testBit x.1 || Beside dsts x y) = true := by
  intro l
  induction l with
  | nil => intro _; exact .nil
  | cons x r ih =>
    intro h
    simp only [chkAll, Bool.and_eq_true] at h
    exact .cons (fun y hy => List.all_eq_true.1 h.1 y hy) (ih h.2)

/-- **Whatever order is drawn.** -/
theorem any_order {C : Cx} (hT : Tb.T P C.w0) {ops : Array Oper} {Q : Exit → Act → World → Prop} (hidx : ∀ i o, ops[i]? = some o → ∀ e ∈ edgesOf o, e < i) (hd : ∀ o ∈ ops.toList, ∀ t, o.dst = some t → t < C.n)
    (hQ : ∀ L a w, Sim C s' L a w → Q .normal a w) : ∀ (fuel : Nat) (l : List Ent) (listed : Array Bool) (s : St) (L : Lay) (a : Act) (w : World), l.length ≤ fuel → listed.size = ops.size →
    (∀ x ∈ l, ops[x.1]? = some x.2.1 ∧ listed.getD x.1 true = false) → (∀ i, i < ops.size → listed.getD i true = false → ∃ x ∈ l, x.1 = i) → (l.map (·.1)).Pairwise (· < ·) →
    (∀ i o, ops[i]? = some o → listed.getD i false = true → ∀ e ∈ edgesOf o, listed.getD e false = true) →
    l.Pairwise (fun x y => ((((befGo [] ops.toList).getD y.1 0).testBit x.1) || Beside (ops.toList.map (·.dst)) x y) = true) →
    ChainD P (ops.toList.map (·.dst)) l s s' → Sim C s L a w → wpAny P .any ops Q fuel listed a w := by
  intro fuel
  induction fuel with
  | zero =>
    intro l listed s L a w hlen hsz hmem hall hsort hcl hpair hch S
    have hl : l = [] := List.eq_nil_of_length_eq_zero (by omega)
    subst hl
    have hss : s = s' := hch
    subst hss
    refine ⟨?_, hQ L a w S⟩
    rw [List.eq_nil_iff_forall_not_mem]
    intro i hi
    obtain ⟨h0, o, ho, _⟩ := mem_ready.1 hi
    obtain ⟨x, hx, _⟩ := hall i (by have := (Array.getElem?_eq_some_iff.1 ho).1; exact this) h0
    cases hx
  | succ fuel ih =>
    intro l listed s L a w hlen hsz hmem hall hsort hcl hpair hch S
    refine ⟨fun hno => ?_, fun i hi => ?_⟩
    · -- nothing is ready: nothing is left
      cases l with
      | nil => have hss : s = s' := hch; subst hss; exact hQ L a w S
      | cons x r =>
        exfalso
        obtain ⟨h1, h2⟩ := hmem x (by simp)
        have : x.1 ∈ Region.ready .any ops listed := by
          refine mem_ready.2 ⟨h2, x.2.1, h1, fun e he hb => ?_⟩
          have hlt := hidx x.1 x.2.1 h1 e.on (by simp [edgesOf]; exact ⟨e, ⟨by simpa using he, hb⟩, rfl⟩)
          have hx1 : x.1 < ops.size := (Array.getElem?_eq_some_iff.1 h1).1
          cases hle : listed.getD e.on false with
          | true => rfl
          | false =>
            exfalso
            have hle' : listed.getD e.on true = false := by
              have : e.on < listed.size := by omega
              simpa [Array.getD, this] using hle
            obtain ⟨y, hy, hye⟩ := hall e.on (by omega) hle'
            rcases List.mem_cons.1 hy with rfl | hy
            · omega
            · have := (List.pairwise_cons.1 (by simpa using hsort)).1 y.1 (List.mem_map.2 ⟨y, hy, rfl⟩)
              omega
        rw [hno] at this
        cases this
    · obtain ⟨h0, o, ho, hedge⟩ := mem_ready.1 hi
      have hisz : i < ops.size := (Array.getElem?_eq_some_iff.1 ho).1
      obtain ⟨x, hx, rfl⟩ := hall i hisz h0
      obtain ⟨l1, l2, rfl⟩ := List.append_of_mem hx
      have hxo : x.2.1 = o := by
        have := (hmem x hx).1
        rw [ho] at this
        simpa using this.symm
      -- those ahead stand beside it
      have hbes : ∀ y ∈ l1, Beside (ops.toList.map (·.dst)) y x = true := by
        intro y hy
        have h1 := (List.pairwise_append.1 hpair).2.2 y hy x (by simp)
        simp only [Bool.or_eq_true] at h1
        rcases h1 with h1 | h1
        · exfalso
          have hcl' := bef_closed (fun i => listed.getD i false = true) ops.toList [] (fun k j _ h => by simp at h)
            (fun k o hk hD e he => hcl k o (by simpa using hk) (by simpa using hD) e he) x.1 o (by simpa using ho)
            (fun e he => by
              simp only [edgesOf, List.mem_map, List.mem_filter] at he
              obtain ⟨e', ⟨h2, h3⟩, rfl⟩ := he
              exact hedge e' (by simpa using h2) h3) y.1 (by simpa using h1)
          have h2 := (hmem y (by simp [hy])).2
          have h3 : y.1 < listed.size := by
            have := (Array.getElem?_eq_some_iff.1 (hmem y (by simp [hy])).1).1; omega
          simp [Array.getD, h3] at hcl' h2
          rw [h2] at hcl'
          cases hcl'
        · exact h1
      obtain ⟨s1, hstep, hrest⟩ := chain_front hch hbes
      rw [hxo] at hstep
      refine stepD_wp hT ho hstep S (hd o (by rw [← Array.mem_toList_iff.symm]; exact Array.mem_of_getElem? ho)) (fun L' a' w' S' => ?_)
      have hne : ∀ y ∈ l1 ++ l2, y.1 ≠ x.1 := by
        intro y hy
        rw [List.map_append, List.map_cons] at hsort
        have hp := List.pairwise_append.1 hsort
        rcases List.mem_append.1 hy with hy | hy
        · have := hp.2.2 y.1 (List.mem_map.2 ⟨y, hy, rfl⟩) x.1 (by simp); omega
        · have := (List.pairwise_cons.1 hp.2.1).1 y.1 (List.mem_map.2 ⟨y, hy, rfl⟩); omega
      refine ih (l1 ++ l2) (listed.setIfInBounds x.1 true) s1 L' a' w' (by simp at hlen ⊢; omega) (by simp [hsz]) ?_ ?_ ?_ ?_ ?_ hrest S'
      · intro y hy
        obtain ⟨h4, h5⟩ := hmem y (by rcases List.mem_append.1 hy with h | h <;> simp [h])
        exact ⟨h4, by rw [getD_set_ne true (Ne.symm (hne y hy))]; exact h5⟩
      · intro j hj hjl
        by_cases hji : j = x.1
        · subst hji
          have : x.1 < listed.size := by omega
          simp [Array.getD, this] at hjl
        · rw [getD_set_ne true (fun e => hji e.symm)] at hjl
          obtain ⟨y, hy, rfl⟩ := hall j hj hjl
          refine ⟨y, ?_, rfl⟩
          rcases List.mem_append.1 hy with hy | hy
          · simp [hy]
          · rcases List.mem_cons.1 hy with rfl | hy
            · exact absurd rfl hji
            · simp [hy]
      · exact hsort.sublist (by simp only [List.map_append, List.map_cons]; exact (List.Sublist.refl _).append (List.sublist_cons_self _ _))
      · intro j o' hj hjl e he
        by_cases hji : j = x.1
        · subst hji
          rw [ho] at hj
          simp only [Option.some.injEq] at hj
          subst hj
          simp only [edgesOf, List.mem_map, List.mem_filter] at he
          obtain ⟨e', ⟨h2, h3⟩, rfl⟩ := he
          exact getD_set_true (hedge e' (by simpa using h2) h3)
        · rw [getD_set_ne false (fun e => hji e.symm)] at hjl
          exact getD_set_true (hcl j o' hj hjl e he)
      · exact hpair.sublist ((List.Sublist.refl _).append (List.sublist_cons_self _ _))

def dC (cuts : List Nat) : Dw := ⟨fun P _ ops K s => drawW P ops K s, cuts⟩
theorem drawC_ok (cuts : List Nat) (hm : P.follows .mixedOrders = true) : DrawOk P (dC cuts) := by
  intro id C ops K Q s L a w hT hfit hQK h S
  simp only [dC] at h
  unfold drawW at h
  obtain ⟨ks, s', hlen, hch, hchk, hK⟩ := wpDgo_chain ops.toList [] 0 s h
  simp only [List.reverse_nil, List.nil_append, chkD, Bool.and_eq_true] at hchk
  obtain ⟨⟨_, hidx⟩, hpairs⟩ := hchk
  have S1 : Sim C s L a { w with drawn := w.drawn + 1 } := by
    have K : Whole L L w w.drew := ⟨rfl, fun g h => ⟨h, .of rfl⟩, fun id e _ g h => ⟨⟨rfl, h⟩, rfl⟩, fun _ _ _ h => h⟩
    exact ⟨S.defers, S.size, fun t => (S.env t).whole K, fun t => (S.hid t).whole K, fun b cs h => by obtain ⟨g, arr, h1, h2, h3⟩ := S.box b cs h; exact ⟨g, arr, h1, h2, h3.whole K⟩, S.wf.mono (Nat.le_refl _) (Nat.le_refl _), S.kp.drew⟩
  have hnums := entries_nums ops.toList ks 0 (by simpa using hlen)
  refine wp_region_any hm (any_order hT (s' := s') ?_ (opsFit_all hfit) (fun L a w S' => ⟨s', L, by rw [hQK]; exact hK, S'⟩) ops.size (entries 0 ops.toList ks) (Array.replicate ops.size false) s L a _ ?_ (by simp) ?_ ?_ ?_ ?_ (chkAll_pairs hpairs) hch S1)
  · intro i o ho e he
    have hm : (o, i) ∈ ops.toList.zipIdx := by
      rw [List.mem_zipIdx_iff_getElem?]
      simpa using ho
    have := List.all_eq_true.1 (List.all_eq_true.1 hidx (o, i) hm) e he
    simpa using this
  · have : (entries 0 ops.toList ks).length = ops.size := by
      have := congrArg List.length hnums
      simpa using this
    omega
  · intro x hx
    obtain ⟨_, h2⟩ := entries_get ops.toList ks 0 x hx
    simp only [Nat.sub_zero, Array.getElem?_toList] at h2
    have hlt := (Array.getElem?_eq_some_iff.1 h2).1
    exact ⟨h2, by simp [Array.getD, hlt]⟩
  · intro i hi _
    have : i ∈ (entries 0 ops.toList ks).map (·.1) := by
      rw [hnums]; simp; exact hi
    obtain ⟨x, hx, rfl⟩ := List.mem_map.1 this
    exact ⟨x, hx, rfl⟩
  · rw [hnums]
    exact List.pairwise_lt_range'
  · intro i o ho hl
    have hlt := (Array.getElem?_eq_some_iff.1 ho).1
    simp [Array.getD, hlt] at hl
theorem drawW_ok (hm : P.follows .mixedOrders = true) : DrawOk P (dC []) := drawC_ok [] hm

/-! ### What follows may be weakened -/
theorem wpL_mono {K K' : St → Prop} (hk : ∀ s, K s → K' s) : ∀ (l : List Oper) (s : St), wpL P dsts K l s → wpL P dsts K' l s := by
  intro l
  induction l with
  | nil => intro s h; exact hk s h
  | cons o rest ih =>
    intro s h
    unfold wpL at h ⊢
    split
    · rename_i hg
      rw [hg] at h
      exact stepW_mono h (fun _ s' h => ih s' h)
    · rename_i j want hg
      rw [hg] at h
      simp only at h
      split
      · rename_i b hb
        rw [hb] at h
        simp only at h
        split
        · rename_i hbw
          rw [if_pos hbw] at h
          exact stepW_mono h (fun _ s' h => ih s' h)
        · rename_i hbw
          rw [if_neg hbw] at h
          exact ih _ h
      · rename_i v hnb hb
        rw [hb] at h
        split at h
        · rename_i b hv
          simp only [Option.some.injEq, V.c.injEq] at hv
          exact absurd hv (by intro e; exact hnb b (by rw [e]))
        · exact ih _ h
        · rename_i h1 h2; exact absurd rfl (h2 v)
      · rename_i h1 h2
        split at h
        · rename_i b hb; exact absurd hb (h1 b)
        · rename_i v hv hb; exact absurd hb (h2 v)
        · exact h
theorem wpDgo_mono {ops : List Oper} {K K' : St → Prop} (hk : ∀ s, K s → K' s) : ∀ (l : List Oper) (ks : List Kd) (s : St), wpDgo P dsts ops K l ks s → wpDgo P dsts ops K' l ks s := by
  intro l
  induction l with
  | nil => intro ks s h; exact ⟨h.1, hk s h.2⟩
  | cons o rest ih =>
    intro ks s h
    unfold wpDgo at h ⊢
    split
    · rename_i hg
      rw [hg] at h
      exact stepW_mono h (fun _ s' h => ih _ s' h)
    · rename_i j want hg
      rw [hg] at h
      simp only at h
      split
      · rename_i b hb
        rw [hb] at h
        simp only at h
        split
        · rename_i hbw
          rw [if_pos hbw] at h
          exact stepW_mono h (fun _ s' h => ih _ s' h)
        · rename_i hbw
          rw [if_neg hbw] at h
          exact ih _ _ h
      · rename_i v hnb hb
        rw [hb] at h
        split at h
        · rename_i b hv
          simp only [Option.some.injEq, V.c.injEq] at hv
          exact absurd hv (by intro e; exact hnb b (by rw [e]))
        · exact ih _ _ h
        · rename_i h1 h2; exact absurd rfl (h2 v)
      · rename_i h1 h2
        split at h
        · rename_i b hb; exact absurd hb (h1 b)
        · rename_i v hv hb; exact absurd hb (h2 v)
        · exact h
theorem wpS_mono {cuts : List Nat} (c : Code) : ∀ {Q Q' : Exit → St → Prop} {s : St}, wpS (dC cuts) P c Q s → (∀ e s, Q e s → Q' e s) → wpS (dC cuts) P c Q' s := by
  induction c with
  | skip => intro Q Q' s h hq; exact hq _ _ h
  | region id ops draw =>
    intro Q Q' s h hq
    simp only [wpS] at h ⊢
    cases draw with
    | true => exact wpDgo_mono (hq .normal) _ _ _ h
    | false => exact wpL_mono (hq .normal) _ _ h
  | seq x y ihx ihy =>
    intro Q Q' s h hq
    refine ihx (Q := thenQ _ Q) h ?_
    intro e s' h'
    cases e with
    | normal =>
      simp only [thenQ] at h' ⊢
      cases hc : cutAt (dC cuts).cuts (fstR y) with
      | true => rw [hc] at h'; obtain ⟨s2, hw, h2⟩ := h'; exact ⟨s2, hw, ihy h2 hq⟩
      | false => rw [hc] at h'; exact ihy h' hq
    | _ => exact hq _ _ h'
  | cond c x y ihx ihy =>
    intro Q Q' s h hq
    simp only [wpS, condK] at h ⊢
    split
    · rename_i b hb
      rw [hb] at h
      simp only at h
      cases b with
      | true => exact ihx (by simpa using h) hq
      | false => exact ihy (by simpa using h) hq
    · rename_i h1
      split at h
      · rename_i b hb; exact absurd hb (h1 b)
      · exact h
  | block id x ih =>
    intro Q Q' s h hq
    refine ih (Q := inB id Q) h ?_
    intro e s' h'
    cases e with
    | exit id' =>
      simp only [inB] at h' ⊢
      split
      · rename_i hi; rw [if_pos hi] at h'; exact hq _ _ h'
      · rename_i hi; rw [if_neg hi] at h'; exact hq _ _ h'
    | _ => exact hq _ _ h'
  | loop x ih =>
    intro Q Q' s h hq
    obtain ⟨I, n, h0, hr⟩ := h
    refine ⟨I, n, h0, fun n s1 hi => ih (hr n s1 hi) ?_⟩
    intro e s' h'
    cases e with
    | normal => exact h'
    | _ => exact hq _ _ h'
  | exit id => intro Q Q' s h hq; exact hq _ _ h
  | label l => intro Q Q' s h hq; exact hq _ _ h
  | goto l => intro Q Q' s h hq; exact hq _ _ h
  | ret => intro Q Q' s h hq; exact hq _ _ h
  | rangeFunc => intro Q Q' s h; exact h.elim
  | scope => intro Q Q' s h; exact h.elim
  | refuse => intro Q Q' s h; exact h.elim
end
end Go.Pg
end

section
/-
  The pure layer: a callee's body reckoned in the caller's state (callees that write what the caller made).
-/
namespace Go.Pg
open Go
set_option linter.unusedSectionVars false

/-- Two maps in one: what is even, what is odd. -/
def pair {α : Type} (e h : Nat → α) : Nat → α := fun t => if t % 2 = 0 then e (t / 2) else h (t / 2)
def unE {α : Type} (f : Nat → α) : Nat → α := fun t => f (2 * t)
def unH {α : Type} (f : Nat → α) : Nat → α := fun t => f (2 * t + 1)
theorem unE_pair {α : Type} (e h : Nat → α) : unE (pair e h) = e := by
  funext t
  simp only [unE, pair]
  rw [if_pos (by omega), show 2 * t / 2 = t by omega]
theorem unH_pair {α : Type} (e h : Nat → α) : unH (pair e h) = h := by
  funext t
  simp only [unH, pair]
  rw [if_neg (by omega), show (2 * t + 1) / 2 = t by omega]

/-- The state in which the callee begins. -/
def inlS (args : List V) (s : St) : St := { env := initE args 0, bx := s.bx, nid := s.nid, hd := pair s.env s.hd }
/-- The caller's state behind it. -/
def outS (s : St) : St := { env := unE s.hd, bx := s.bx, nid := s.nid, hd := unH s.hd }
/-- What is left at the callee's end. -/
def inlC (P : Program) (rs : List ResultVar) (s' : St) (r : V) (s : St) : Prop := retV P s rs = some r ∧ outS s = s'
def inlQ (P : Program) (rs : List ResultVar) (s' : St) (r : V) : Exit → St → Prop := fun e s =>
  match e with
  | .normal | .ret => inlC P rs s' r s
  | _ => False

theorem retV_none (P : Program) (s : St) : retV P s [] = some (.tup []) := rfl

theorem goodZ_intro {P : Program} [Tb P] {D : Dw} (hD : DrawOk P D) {f : FuncId} {fn : Func} {c : Code} {rs : List ResultVar} {args : List V} {r : V} {s s' : St} (hf : P.funcs[f]? = some fn) (hb : fn.body = some c) (hrs : fn.results = rs.toArray) (hn : (fn.name == "runtime.NumGoroutine") = false)
    (hfit : fits fn.ntmps c = true) (hlen : args.length ≤ fn.ntmps) (h : wpS D P c (inlQ P rs s' r) (inlS args s)) : GoodZ P f args s s' r := by
  intro C L a w cargs hT S hargs
  refine .inl ⟨by simp [enters, hf, hb, hn], ?_⟩
  let C' : Cx := { n := fn.ntmps, A0 := C.A0, Wr := C.Wr, w0 := C.w0, hid := pair (fun t => a.tmps.getD t undef) C.hid, nw := C.nw }
  have hl := hargs.length
  have W := S.wf
  have S1 : Sim C' (inlS args s) L { tmps := cargs.toArray ++ Array.replicate (fn.ntmps - cargs.toArray.size) undef, defers := [] } w := by
    refine ⟨rfl, by simp [C']; omega, fun t => ?_, fun t => ?_, S.box, ⟨W.nidO, W.nidB, W.own, W.boxW, W.injO, W.injB, W.dis, W.old, W.frz⟩, S.kp⟩
    · have := initE_rep args cargs 0 (List.replicate (fn.ntmps - cargs.length) undef) hargs [] rfl t
      have e : (cargs ++ List.replicate (fn.ntmps - cargs.length) undef).toArray = cargs.toArray ++ Array.replicate (fn.ntmps - cargs.toArray.size) undef := by
        apply Array.ext'; simp
      rw [List.nil_append, e] at this
      exact this
    · show Rep L w (pair s.env s.hd t) (pair (fun t => a.tmps.getD t undef) C.hid t)
      unfold pair
      split
      · exact S.env _
      · exact S.hid _
  refine calls_of_wp hf hb (Code.wp_mono ?_ (wpS_sound (C := C') hD hT c h hfit S1))
  rintro e a' w' ⟨s2, L2, hq, S2⟩
  have fin : inlC P rs s' r s2 → a'.defers = [] ∧ ∃ v, (results fn a'.tmps).run P w' = .ok v w' ∧ ∃ u L', Ending.returned v = .returned u ∧ Sim C s' L' a w' ∧ Rep L' w' r u := by
    rintro ⟨h1, rfl⟩
    obtain ⟨u, h3, h4⟩ := results_run hrs h1 S2
    refine ⟨S2.defers, u, h3, u, L2, rfl, ?_, h4⟩
    have W2 := S2.wf
    refine ⟨S.defers, S.size, fun t => ?_, fun t => ?_, S2.box, ⟨W2.nidO, W2.nidB, W2.own, W2.boxW, W2.injO, W2.injB, W2.dis, W2.old, W2.frz⟩, S2.kp⟩
    · have h5 := S2.hid (2 * t)
      have e : C'.hid (2 * t) = a.tmps.getD t undef := congrFun (unE_pair (fun t => a.tmps.getD t undef) C.hid) t
      rw [e] at h5
      exact h5
    · have h5 := S2.hid (2 * t + 1)
      have e : C'.hid (2 * t + 1) = C.hid t := congrFun (unH_pair (fun t => a.tmps.getD t undef) C.hid) t
      rw [e] at h5
      exact h5
  cases e with
  | normal => exact fin hq
  | ret => exact fin hq
  | _ => exact hq.elim

/-- A function without a body, of Go's own: it answers at once and touches nothing. -/
def GoodX (P : Program) (g : FuncId) (args : List V) (r : V) : Prop :=
  ∀ (L : Lay) (w : World) (cargs : List Value), Reps L w args cargs → ∃ u, (callFunc g cargs.toArray).run P w = .ok (.value u) w ∧ Rep L w r u
theorem GoodX.z {P : Program} [Tb P] {g : FuncId} {args : List V} {r : V} (h : GoodX P g args r) (s : St) : GoodZ P g args s s r := by
  intro C L a w cargs _ S hargs
  obtain ⟨u, h1, h2⟩ := h L w cargs hargs
  exact .inr ⟨u, w, L, h1, S, h2⟩
end Go.Pg
end

section
/-
  The pure layer: a region that draws its order and makes several variables: the variable made at place i bears the name n0 + i, whatever order is drawn.
-/
namespace Go.Pg
open Go
set_option linter.unusedSectionVars false

/-- How an operation of such a region stands to the others: it computes from what may not turn; it reads the variable b; it makes or writes the variable b. -/
inductive Ka where
  | q
  | rb (b : Nat)
  | xb (b : Nat)
  | z
def Ka.notZ : Ka → Bool
  | .z => false
  | _ => true

/-- The variable's new cells. -/
def wrA (κ : Ka) (c : Option (TypeId × List V)) (s : St) : St := match κ with | .xb b => { s with bx := upd s.bx b c } | _ => s

/-- One operation, its guard aside, at place i. -/
def stepA (P : Program) (n0 i : Nat) (s : St) (o : Oper) : Option (Ka × St) :=
  match o.op with
  | .alloc e => (tzero P e).map fun z => (.xb (n0 + i), ({ s with bx := upd s.bx (n0 + i) (some (e, z.cells.toList.map .c)) } : St).put o.dst (.ref (n0 + i) 0))
  | .store t x y => match s.ev x with
    | .ref b off => (storeB P s t b off (s.ev y)).map fun s' => (.xb b, s'.put o.dst .top)
    | _ => none
  | .load t x => match s.ev x with
    | .ref b off => (loadB P s t b off).map fun r => (.rb b, s.put o.dst r)
    | _ => (qv P s o.op).map fun r => (.q, s.put o.dst r)
  | op => (qv P s op).map fun r => (.q, s.put o.dst r)

section
variable {P : Program} [Tb P] {C : Cx} {s s' : St} {L : Lay} {a : Act} {w : World} {o : Oper}

theorem Wf.leBoxAt (W : Wf C s.nid L w) {m : Nat} (hm : L.box m = none) (g : Nat) : L.Le (L.addBox m g) :=
  ⟨fun _ h => h, fun _ _ h => h, fun i g' h => by
    have : i ≠ m := fun e => by subst e; rw [hm] at h; cases h
    simp [Lay.addBox, upd, this, h]⟩
theorem Wf.addBoxAt {nid m : Nat} (W : Wf C nid L w) (hm : m < nid) (hB : C.B ≤ w.heap.size) {w' : World} (hs : w.heap.size < w'.heap.size) : Wf C nid (L.addBox m w.heap.size) w' where
  nidO := W.nidO
  nidB := fun id g h => by
    simp only [Lay.addBox, upd] at h
    split at h
    · omega
    · exact W.nidB id g h
  own := fun b g h => by obtain ⟨h1, h2, h3⟩ := W.own b g h; exact ⟨by omega, h2, h3⟩
  boxW := fun id g h => by
    simp only [Lay.addBox, upd] at h
    split at h
    · simp only [Option.some.injEq] at h; subst h; exact ⟨hs, .inl hB, fun h => by have := W.old _ h; omega⟩
    · obtain ⟨h1, h2, h3⟩ := W.boxW id g h; exact ⟨by omega, h2, h3⟩
  injO := W.injO
  injB := fun i j g h h' => by
    simp only [Lay.addBox, upd] at h h'
    split at h <;> split at h'
    · omega
    · simp only [Option.some.injEq] at h; subst h; have := (W.boxW j _ h').1; omega
    · simp only [Option.some.injEq] at h'; subst h'; have := (W.boxW i _ h).1; omega
    · exact W.injB i j g h h'
  dis := fun i j g h h' => by
    simp only [Lay.addBox, upd] at h'
    split at h'
    · simp only [Option.some.injEq] at h'; subst h'; have := (W.own i _ h).1; omega
    · exact W.dis i j g h h'
  old := fun g h => by have := W.old g h; omega
  frz := W.frz

theorem newBoxAt_ok {m : Nat} {e : TypeId} {l : List V} {us : Array Value} (S : Sim C s L a w) (hm : m < s.nid) (hf : L.box m = none) (hr : Reps L w l us.toList) :
    Sim C { s with bx := upd s.bx m (some (e, l)) } (L.addBox m w.heap.size) a (w.alloc (.cells us e)) ∧ Rep (L.addBox m w.heap.size) (w.alloc (.cells us e)) (.ref m 0) (.pointer (some ⟨w.heap.size, 0, none⟩)) := by
  have G := Grow.alloc w (.cells us e)
  have E := S.wf.leBoxAt hf w.heap.size
  refine ⟨S.grow G E rfl ?_ (S.wf.addBoxAt hm S.hB (by simp)), w.heap.size, by simp [Lay.addBox, upd], rfl⟩
  intro b cs h
  simp only [upd] at h
  split at h
  · rename_i hb
    subst hb
    simp only [Option.some.injEq] at h
    subst h
    exact .inr ⟨w.heap.size, us, by simp [Lay.addBox, upd], heap_alloc_new w _, hr.whole (S.wf.whole G E)⟩
  · exact .inl h

/-- The operation in the model: the layout stands, but for the name made here. -/
theorem stepA_does {n0 i : Nat} {κ : Ka} (h : stepA P n0 i s o = some (κ, s')) (S : Sim C s L a w) (hm : n0 + i < s.nid) (hf : L.box (n0 + i) = none) (hd : ∀ t, o.dst = some t → t < C.n) :
    ∃ u w' L', Does P o a w u w' ∧ Sim C s' L' (a.put o.dst u) w' ∧ ∀ b, b ≠ n0 + i → L'.box b = L.box b ∧ L'.own b = L.own b := by
  obtain ⟨dst, op, type, pos, after, guard⟩ := o
  simp only at hd
  have qcase : ∀ r, qv P s op = some r → s' = s.put dst r → ∃ u w' L', Does P ⟨dst, op, type, pos, after, guard⟩ a w u w' ∧ Sim C s' L' (a.put dst u) w' ∧ ∀ b, b ≠ n0 + i → L'.box b = L.box b ∧ L'.own b = L.own b := by
    rintro r hr rfl
    obtain ⟨u, h1, h2⟩ := qv_does (o := ⟨dst, op, type, pos, after, guard⟩) hr S
    exact ⟨u, w, L, h1, S.put h2 hd, fun _ _ => ⟨rfl, rfl⟩⟩
  unfold stepA at h
  simp only at h
  split at h
  · rename_i e
    simp only [Option.map_eq_some_iff, Prod.mk.injEq] at h
    obtain ⟨z, hz, rfl, rfl⟩ := h
    obtain ⟨S', hr⟩ := newBoxAt_ok (e := e) (us := z.cells) S hm hf (reps_c L w z.cells.toList)
    refine ⟨_, _, _, .inl ?_, S'.put hr hd, fun b hb => by simp [Lay.addBox, upd, hb]⟩
    have : (Instr.alloc e true (.tuple #[])).run P w = .ok (.pointer (some ⟨w.heap.size, 0, none⟩)) (w.alloc (.cells z.cells e)) := by simp [Instr.alloc, run_tzero hz, newVar, newRow]
    simp only [execOp, Sem.run_bind, this, Result.andThen_ok, Sem.run_pure]
  · rename_i t x y
    split at h
    · rename_i b off hx
      simp only [Option.map_eq_some_iff, Prod.mk.injEq] at h
      obtain ⟨s1, h, rfl, rfl⟩ := h
      have hr := S.ev x
      rw [hx] at hr
      obtain ⟨w', h1, h2⟩ := storeB_ok h S hr (S.ev y)
      exact ⟨undef, w', L, .inr ⟨by simp only [execOp, Sem.run_bind, h1, Result.andThen_ok, Sem.run_pure], rfl⟩, h2.put (v := .top) trivial hd, fun _ _ => ⟨rfl, rfl⟩⟩
    · cases h
  · rename_i t x
    split at h
    · rename_i b off hx
      simp only [Option.map_eq_some_iff, Prod.mk.injEq] at h
      obtain ⟨r, h, rfl, rfl⟩ := h
      have hr := S.ev x
      rw [hx] at hr
      obtain ⟨u, h1, h2⟩ := loadB_ok h S hr
      exact ⟨u, w, L, .inl (by simp only [execOp, Sem.run_bind, h1, Result.andThen_ok, Sem.run_pure]), S.put h2 hd, fun _ _ => ⟨rfl, rfl⟩⟩
    · simp only [Option.map_eq_some_iff, Prod.mk.injEq] at h
      obtain ⟨r, h, _, rfl⟩ := h
      exact qcase r h rfl
  · simp only [Option.map_eq_some_iff, Prod.mk.injEq] at h
    obtain ⟨r, h, _, rfl⟩ := h
    exact qcase r h rfl

theorem wrA_env (κ : Ka) (c : Option (TypeId × List V)) (t : Nat) : (wrA κ c s).env t = s.env t := by cases κ <;> rfl
theorem wrA_put (κ : Ka) (c : Option (TypeId × List V)) (d : Option Nat) (v : V) : wrA κ c (s.put d v) = (wrA κ c s).put d v := by cases κ <;> cases d <;> rfl
theorem wrA_nid (κ : Ka) (c : Option (TypeId × List V)) : (wrA κ c s).nid = s.nid := by cases κ <;> rfl
theorem put_nid (d : Option Nat) (v : V) : (s.put d v).nid = s.nid := by cases d <;> rfl

/-- What an operation looks at, and what it writes. -/
theorem stepA_frame {n0 i : Nat} {κ : Ka} (h : stepA P n0 i s o = some (κ, s')) : ∃ (v : V) (c : Option (TypeId × List V)), s' = (wrA κ c s).put o.dst v ∧
    ∀ s2 : St, (∀ t ∈ lkO o, s2.env t = s.env t) → (∀ b, (κ = .rb b ∨ κ = .xb b) → s2.bx b = s.bx b) → stepA P n0 i s2 o = some (κ, (wrA κ c s2).put o.dst v) := by
  obtain ⟨dst, op, type, pos, after, guard⟩ := o
  have qcase : ∀ r, qv P s op = some r → s' = s.put dst r → κ = .q → (∀ s2 : St, (∀ x ∈ op.operands.toList, s2.ev x = s.ev x) → stepA P n0 i s2 ⟨dst, op, type, pos, after, guard⟩ = (qv P s2 op).map fun r => (.q, s2.put dst r)) →
      ∃ (v : V) (c : Option (TypeId × List V)), s' = (wrA κ c s).put dst v ∧ ∀ s2 : St, (∀ t ∈ lkO ⟨dst, op, type, pos, after, guard⟩, s2.env t = s.env t) → (∀ b, (κ = .rb b ∨ κ = .xb b) → s2.bx b = s.bx b) → stepA P n0 i s2 ⟨dst, op, type, pos, after, guard⟩ = some (κ, (wrA κ c s2).put dst v) := by
    rintro r hr rfl rfl hst
    refine ⟨r, none, rfl, fun s2 he _ => ?_⟩
    have he' := lkO_ev (o := ⟨dst, op, type, pos, after, guard⟩) he
    rw [hst s2 he', qv_congr he', hr]
    rfl
  unfold stepA at h
  simp only at h
  split at h
  · simp only [Option.map_eq_some_iff, Prod.mk.injEq] at h
    obtain ⟨z, hz, rfl, rfl⟩ := h
    refine ⟨.ref (n0 + i) 0, _, rfl, fun s2 _ _ => ?_⟩
    simp only [stepA, hz, Option.map_some]
    rfl
  · rename_i t x y
    split at h
    · rename_i b off hx
      simp only [Option.map_eq_some_iff, Prod.mk.injEq] at h
      obtain ⟨s1, h, rfl, rfl⟩ := h
      simp only [storeB, Option.bind_eq_some_iff, Option.ite_none_right_eq_some, Option.some.injEq] at h
      obtain ⟨⟨e, cs⟩, hcs, l, hl, h1, rfl⟩ := h
      refine ⟨.top, _, rfl, fun s2 he hb => ?_⟩
      have he' := lkO_ev (o := ⟨dst, .store t x y, type, pos, after, guard⟩) he
      have hx2 : s2.ev x = .ref b off := by rw [he' x (by simp [Op.operands]), hx]
      have hy2 : s2.ev y = s.ev y := he' y (by simp [Op.operands])
      simp only [stepA, hx2, storeB, hy2, hb b (.inr rfl), hcs, Option.bind_some, hl, if_pos h1, Option.map_some]
      rfl
    · cases h
  · rename_i t x
    split at h
    · rename_i b off hx
      simp only [Option.map_eq_some_iff, Prod.mk.injEq] at h
      obtain ⟨r, h, rfl, rfl⟩ := h
      refine ⟨r, none, rfl, fun s2 he hb => ?_⟩
      have he' := lkO_ev (o := ⟨dst, .load t x, type, pos, after, guard⟩) he
      have hx2 : s2.ev x = .ref b off := by rw [he' x (by simp [Op.operands]), hx]
      have : loadB P s2 t b off = some r := by unfold loadB at h ⊢; rw [hb b (.inl rfl)]; exact h
      simp only [stepA, hx2, this, Option.map_some]
      rfl
    · rename_i hnr
      simp only [Option.map_eq_some_iff, Prod.mk.injEq] at h
      obtain ⟨r, h, hk, hs⟩ := h
      refine qcase r h hs.symm hk.symm (fun s2 he' => ?_)
      have hx2 : s2.ev x = s.ev x := he' x (by simp [Op.operands])
      simp only [stepA]
      split
      · rename_i b off hx
        exact absurd (hx2 ▸ hx) (hnr b off)
      · rfl
  · rename_i h1 h2 h3
    simp only [Option.map_eq_some_iff, Prod.mk.injEq] at h
    obtain ⟨r, h, hk, hs⟩ := h
    refine qcase r h hs.symm hk.symm (fun s2 _ => ?_)
    unfold stepA
    simp only
theorem Wf.leOwnAt (W : Wf C s.nid L w) {m : Nat} (hm : L.own m = none) (g : Nat) : L.Le (L.addOwn m g) :=
  ⟨fun _ h => h, fun i g' h => by
    have : i ≠ m := fun e => by subst e; rw [hm] at h; cases h
    simp [Lay.addOwn, upd, this, h], fun _ _ h => h⟩
theorem Wf.addOwnAt {nid m : Nat} (W : Wf C nid L w) (hm : m < nid) (hB : C.B ≤ w.heap.size) {w' : World} (hs : w.heap.size < w'.heap.size) : Wf C nid (L.addOwn m w.heap.size) w' where
  nidO := fun id g h => by
    simp only [Lay.addOwn, upd] at h
    split at h
    · omega
    · exact W.nidO id g h
  nidB := W.nidB
  own := fun id g h => by
    simp only [Lay.addOwn, upd] at h
    split at h
    · simp only [Option.some.injEq] at h; subst h; exact ⟨hs, .inl hB, fun h => by have := W.old _ h; omega⟩
    · obtain ⟨h1, h2, h3⟩ := W.own id g h; exact ⟨by omega, h2, h3⟩
  boxW := fun b g h => by obtain ⟨h1, h2, h3⟩ := W.boxW b g h; exact ⟨by omega, h2, h3⟩
  injO := fun i j g h h' => by
    simp only [Lay.addOwn, upd] at h h'
    split at h <;> split at h'
    · omega
    · simp only [Option.some.injEq] at h; subst h; have := (W.own j _ h').1; omega
    · simp only [Option.some.injEq] at h'; subst h'; have := (W.own i _ h).1; omega
    · exact W.injO i j g h h'
  injB := W.injB
  dis := fun i j g h h' => by
    simp only [Lay.addOwn, upd] at h
    split at h
    · simp only [Option.some.injEq] at h; subst h; have := (W.boxW j _ h').1; omega
    · exact W.dis i j g h h'
  old := fun g h => by have := W.old g h; omega
  frz := W.frz
theorem newOwnAt_ok {m : Nat} {e : TypeId} {k cap : Nat} {xs : List V} {arr : Array Value} (S : Sim C s L a w) (hm : m < s.nid) (hf : L.own m = none) (hcap : arr.size = cap * k) (hlen : xs.length ≤ cap) (hx : cap ≤ maxLen) (hr : RepE L w k xs (arr.toList.take (xs.length * k))) :
    Sim C s (L.addOwn m w.heap.size) a (w.alloc (.cells arr e)) ∧ Rep (L.addOwn m w.heap.size) (w.alloc (.cells arr e)) (.sl (.own m e) k xs) (.slice (some ⟨w.heap.size, 0, none⟩) xs.length cap) := by
  have G := Grow.alloc w (.cells arr e)
  have E := S.wf.leOwnAt hf w.heap.size
  have K : Whole L (L.addOwn m w.heap.size) w (w.alloc (.cells arr e)) := S.wf.whole G E
  refine ⟨S.grow G E rfl (fun b cs h => .inl h) (S.wf.addOwnAt hm S.hB (by simp)), _, _, _, rfl, hr.trans (p := fun _ => false) (q := fun _ => false) rfl K, ?_⟩
  exact .inr ⟨w.heap.size, arr, by simp [Lay.addOwn, upd], rfl, heap_alloc_new w _, hlen, hx, hcap, rfl⟩

/-- A call whose own array, if it hands one back, bears the name m. -/
theorem call_stepAt {f : FuncId} {vs : List V} {us : List Value} {r : V} {m : Nat} (hT : Tb.T P C.w0) (S : Sim C s L a w) (hm : m < s.nid) (hf : L.own m = none) (h1 : r.idb ≤ 1) (hr : Reps L w vs us) (hg : Good P f (vs.map V.erase) r) (href : noRefs vs = true) (hrr : r.noRef = true) (hof : (ownFree vs || r.flat) = true) :
    Calls P f us.toArray w fun e w' => ∃ u L', e = .returned u ∧ Sim C s L' a w' ∧ Rep L' w' (r.shift m) u ∧ ∀ b, b ≠ m → L'.box b = L.box b ∧ L'.own b = L.own b := by
  have hB := S.hB
  let A1 : Nat → Prop := fun g => L.A g ∨ (r.flat = true ∧ ∃ id, L.own id = some g)
  have hA1 : ∀ g, A1 g → g < w.heap.size := fun g h => h.elim (S.wf.old g) (fun ⟨_, id, h⟩ => (S.wf.own id g h).1)
  have hargs : Reps ⟨A1, fun _ => none, fun _ => none⟩ w (vs.map V.erase) us := by
    cases hfl : r.flat with
    | true =>
      have K : Trans (fun _ => false) (fun _ => true) (fun _ => .fz) id L ⟨A1, fun _ => none, fun _ => none⟩ w w :=
        ⟨rfl, fun g h => ⟨.inl h, .of rfl⟩, fun i e _ g h => ⟨.inr ⟨hfl, i, h⟩, rfl⟩, fun b hb => by simp at hb⟩
      have := hr.trans rfl K (by simpa [noRefs] using href)
      rwa [mapL_eq] at this
    | false =>
      have K : Trans Tag.isOwn (fun _ => true) (fun _ => .fz) id L ⟨A1, fun _ => none, fun _ => none⟩ w w :=
        ⟨rfl, fun g h => ⟨.inl h, .of rfl⟩, fun i e h => by simp [Tag.isOwn] at h, fun b hb => by simp at hb⟩
      have h1 : ownFree vs = true := by simpa [hfl] using hof
      have h3 := (any_or (p := Tag.isOwn) (p' := fun _ => false) (q := fun _ => false) (q' := fun _ => true)).2 vs (by simpa [ownFree] using h1) (by simpa [noRefs] using href)
      have := hr.trans (p := Tag.isOwn) (q := fun _ => true) rfl K (by simpa using h3)
      rwa [mapL_eq] at this
  refine (hg.2 A1 w us (tb_now hT S) hA1 hargs).mono ?_
  rintro e w' ⟨u, L1, rfl, hru, hkp, hlay⟩
  have G : Grow w w' := ⟨hkp.os, hkp.tape, hkp.output, hkp.size, fun k hk => hkp.block k hk (fun h => h)⟩
  let L2 : Lay := { A := fun g => L.A g ∨ (L1.A g ∧ w.heap.size ≤ g), own := fun j => if j = m then (if 0 < r.idb then L1.own 0 else none) else L.own j, box := L.box }
  have E : L.Le L2 := ⟨fun g h => .inl h, fun i g h => by
    have : i ≠ m := fun e => by subst e; rw [hf] at h; cases h
    simp [L2, this, h], fun _ _ h => h⟩
  have W := S.wf
  have wf : Wf C s.nid L2 w' := {
    nidO := fun j g h => by
      simp only [L2] at h
      split at h
      · omega
      · exact W.nidO j g h
    nidB := W.nidB
    own := fun j g h => by
      simp only [L2] at h
      split at h
      · split at h
        · obtain ⟨h1, h2, h3⟩ := hlay.own _ g h
          exact ⟨h2, .inl (by omega), fun h' => h'.elim (fun h' => by have := W.old g h'; omega) (fun ⟨h', _⟩ => h3 h')⟩
        · cases h
      · obtain ⟨h1, h2, h3⟩ := W.own j g h
        exact ⟨by have := G.size; omega, h2, fun h' => h'.elim h3 (fun ⟨_, h'⟩ => by omega)⟩
    boxW := fun b g h => by
      obtain ⟨h1, h2, h3⟩ := W.boxW b g h
      exact ⟨by have := G.size; omega, h2, fun h' => h'.elim h3 (fun ⟨_, h'⟩ => by omega)⟩
    injO := fun i j g h h' => by
      simp only [L2] at h h'
      split at h <;> split at h'
      · omega
      · split at h
        · have := (W.own j g h').1; have := (hlay.own _ g h).1; omega
        · cases h
      · split at h'
        · have := (W.own i g h).1; have := (hlay.own _ g h').1; omega
        · cases h'
      · exact W.injO i j g h h'
    injB := W.injB
    dis := fun i j g h h' => by
      simp only [L2] at h
      split at h
      · split at h
        · have := (hlay.own _ g h).1; have := (W.boxW j g h').1; omega
        · cases h
      · exact W.dis i j g h h'
    old := fun g h => h.elim (fun h => by have := W.old g h; have := G.size; omega) (fun ⟨h, h'⟩ => by
      rcases hlay.A g h with h1 | h1
      · have := hA1 g h1; omega
      · exact h1.2)
    frz := fun g h => h.elim (W.frz g) (fun ⟨_, h'⟩ => .inr (.inl (by omega))) }
  refine ⟨u, L2, rfl, S.grow G E rfl (fun b cs h => .inl h) wf, ?_, fun b hb => ⟨rfl, by simp [L2, hb]⟩⟩
  have hsh : ∀ id e, Tag.ge r.idb (.own id e) = false → ∀ g, L1.own id = some g → L2.own (id + m) = some g := by
    intro id e hid g h
    simp only [Tag.ge, Bool.not_eq_eq_eq_not, Bool.not_false, decide_eq_true_eq] at hid
    have h0 : id = 0 := by omega
    subst h0
    have hp : 0 < r.idb := by omega
    simp [L2, hp, h]
  have hany : r.any (fun t => Tag.ge r.idb t || false) (fun b => false || true) false = false := by
    have := (any_or (p := Tag.ge r.idb) (p' := fun _ => false) (q := fun _ => false) (q' := fun _ => true)).1 r ((idb_any r.idb).1 r (Nat.le_refl _)) (by simpa [V.noRef] using hrr)
    exact this
  cases hfl : r.flat with
  | true =>
    have hru' := (rep_flat (fun _ => False)).1 r u hfl hru
    have K : Trans (fun t => Tag.ge r.idb t || false) (fun b => false || true) (fun t => match t with | .fz => .fz | .nn => .nn | .own id e => .own (id + m) e) id { L1 with A := fun _ => False } L2 w' w' :=
      ⟨rfl, fun g h => h.elim, fun id e hid g h => ⟨⟨rfl, hsh id e (by simpa using hid) g h⟩, rfl⟩, fun b hb => by simp at hb⟩
    exact hru'.trans rfl K hany
  | false =>
    have K : Trans (fun t => Tag.ge r.idb t || false) (fun b => false || true) (fun t => match t with | .fz => .fz | .nn => .nn | .own id e => .own (id + m) e) id L1 L2 w' w' := by
      refine ⟨rfl, fun g h => ⟨?_, .of rfl⟩, fun id e hid g h => ⟨⟨rfl, hsh id e (by simpa using hid) g h⟩, rfl⟩, fun b hb => by simp at hb⟩
      rcases hlay.A g h with h1 | h1
      · rcases h1 with h1 | ⟨h1, _⟩
        · exact .inl h1
        · rw [hfl] at h1; cases h1
      · exact .inr ⟨h, h1.1⟩
    exact hru.trans rfl K hany

/-- One operation of such a region, at place i: what 'stepA' knows; a slice's literal; a call by its contract; a call that turns the caller's state. -/
inductive RA (P : Program) [Tb P] (n0 i : Nat) (s : St) (o : Oper) : Ka → St → Prop
  | st {κ : Ka} {s' : St} (h : stepA P n0 i s o = some (κ, s')) : RA P n0 i s o κ s'
  | bs {t : TypeId} {len : Nat} {parts : Array (Nat × Operand)} {e : TypeId} {k bytes : Nat} {v : V} {xs : List V} (ho : o.op = .buildSlice t len parts) (he : elemT P t = some e) (hk : tapp P e = some (k, bytes)) (hv : zelem P e = some v)
      (hxs : setAll k (List.replicate len v) (parts.toList.map fun p => (p.1, s.ev p.2)) = some xs) (hl : len * k ≤ 16777216) : RA P n0 i s o .q (s.put o.dst (.sl (bsTag len (n0 + i) e) k xs))
  | call {f : Operand} {args : Array Operand} {ts : Array TypeId} {g : FuncId} {fs cs : List V} {r : V} (ho : o.op = .call { callee := .value f, args := args, argTypes := ts }) (hf : s.ev f = .fn g fs cs) (hg : Good P g ((fs ++ args.toList.map s.ev ++ cs).map V.erase) r)
      (h1 : ownFree (fs ++ cs) = true) (h2 : noRefs (fs ++ args.toList.map s.ev ++ cs) = true) (h3 : r.noRef = true) (h4 : (ownFree (args.toList.map s.ev) || r.flat) = true) (h5 : r.idb ≤ 1) : RA P n0 i s o .q (s.put o.dst (r.shift (n0 + i)))
  | z {f : Operand} {args : Array Operand} {ts : Array TypeId} {g : FuncId} {fs cs : List V} {s1 : St} {r : V} (ho : o.op = .call { callee := .value f, args := args, argTypes := ts }) (hf : s.ev f = .fn g fs cs) (hg : GoodZ P g (fs ++ args.toList.map s.ev ++ cs) s s1 r) : RA P n0 i s o .z (s1.put o.dst r)

theorem stepA_notZ {n0 i : Nat} {κ : Ka} (h : stepA P n0 i s o = some (κ, s')) : κ ≠ .z := by
  unfold stepA at h
  split at h
  · simp only [Option.map_eq_some_iff, Prod.mk.injEq] at h; obtain ⟨_, _, rfl, _⟩ := h; exact fun e => by cases e
  · split at h
    · simp only [Option.map_eq_some_iff, Prod.mk.injEq] at h; obtain ⟨_, _, rfl, _⟩ := h; exact fun e => by cases e
    · cases h
  · split at h
    · simp only [Option.map_eq_some_iff, Prod.mk.injEq] at h; obtain ⟨_, _, rfl, _⟩ := h; exact fun e => by cases e
    · simp only [Option.map_eq_some_iff, Prod.mk.injEq] at h; obtain ⟨_, _, rfl, _⟩ := h; exact fun e => by cases e
  · simp only [Option.map_eq_some_iff, Prod.mk.injEq] at h; obtain ⟨_, _, rfl, _⟩ := h; exact fun e => by cases e
theorem RA_frame {n0 i : Nat} {κ : Ka} (h : RA P n0 i s o κ s') (hz : κ ≠ .z) : ∃ (v : V) (c : Option (TypeId × List V)), s' = (wrA κ c s).put o.dst v ∧
    ∀ s2 : St, (∀ t ∈ lkO o, s2.env t = s.env t) → (∀ b, (κ = .rb b ∨ κ = .xb b) → s2.bx b = s.bx b) → RA P n0 i s2 o κ ((wrA κ c s2).put o.dst v) := by
  cases h with
  | st h =>
    obtain ⟨v, c, h1, h2⟩ := stepA_frame h
    exact ⟨v, c, h1, fun s2 ha hb => .st (h2 s2 ha hb)⟩
  | bs ho he hk hv hxs hl =>
    rename_i t len parts e k bytes v xs
    refine ⟨_, none, rfl, fun s2 ha _ => ?_⟩
    have he' := lkO_ev ha
    have : (parts.toList.map fun p => (p.1, s2.ev p.2)) = parts.toList.map fun p => (p.1, s.ev p.2) := by
      refine List.map_congr_left fun p hp => ?_
      rw [he' p.2 (by rw [ho]; simp only [Op.operands]; simpa using ⟨p.1, by simpa using hp⟩)]
    exact .bs ho he hk hv (by rw [this]; exact hxs) hl
  | call ho hf hg h1 h2 h3 h4 h5 =>
    rename_i f args ts g fs cs r
    refine ⟨_, none, rfl, fun s2 ha _ => ?_⟩
    have he' := lkO_ev ha
    rw [ho] at he'
    have hfe : s2.ev f = s.ev f := he' f (by simp [Op.operands, Call.operands])
    have hae : args.toList.map s2.ev = args.toList.map s.ev := List.map_congr_left fun x hx => he' x (by simp [Op.operands, Call.operands] at hx ⊢; simp [hx])
    exact .call ho (by rw [hfe]; exact hf) (by rw [hae]; exact hg) h1 (by rw [hae]; exact h2) h3 (by rw [hae]; exact h4) h5
  | z => exact absurd rfl hz
theorem RA_nid {n0 i : Nat} {κ : Ka} (h : RA P n0 i s o κ s') (hz : κ ≠ .z) : s'.nid = s.nid := by
  obtain ⟨v, c, rfl, _⟩ := RA_frame h hz
  rw [put_nid, wrA_nid]
theorem RA_wp {n0 i : Nat} {κ : Ka} {next : Act → World → Prop} {Q : Exit → Act → World → Prop} (h : RA P n0 i s o κ s') (hT : Tb.T P C.w0) (S : Sim C s L a w) (hm : n0 + i < s.nid) (hfb : L.box (n0 + i) = none) (hfo : L.own (n0 + i) = none)
    (hd : ∀ t, o.dst = some t → t < C.n) (hn : ∀ L' a' w', Sim C s' L' a' w' → (κ ≠ .z → ∀ b, b ≠ n0 + i → L'.box b = L.box b ∧ L'.own b = L.own b) → next a' w') : o.wp P a w next Q := by
  cases h with
  | st h =>
    obtain ⟨u, w', L', h1, h2, h3⟩ := stepA_does h S hm hfb hd
    exact h1.wp (hn L' _ _ h2 fun _ => h3)
  | bs ho he hk hv hxs hl =>
    rename_i t len parts e k bytes v xs
    obtain ⟨ur, h1, hul, h3, h2, hx⟩ := buildSlice_run S.ev he hk hv hxs hl
    obtain ⟨S', hr⟩ := newOwnAt_ok (e := e) (k := k) (cap := len) (xs := xs) (arr := ur) S hm hfo hul (by omega) hx (by rw [h3, ← hul, ← Array.length_toList, List.take_length]; exact h2)
    rw [h3] at hr
    have hr' : Rep (L.addOwn (n0 + i) w.heap.size) (w.alloc (.cells ur e)) (.sl (bsTag len (n0 + i) e) k xs) (.slice (some ⟨w.heap.size, 0, none⟩) len len) := by
      cases len with
      | zero =>
        have hx : xs = [] := List.eq_nil_of_length_eq_zero h3
        subst hx
        exact ⟨_, 0, [], rfl, rfl, rfl, rfl⟩
      | succ n => exact hr
    have hdo : Does P o a w (.slice (some ⟨w.heap.size, 0, none⟩) len len) (w.alloc (.cells ur e)) := by
      refine .inl ?_
      simp only [execOp, ho, Sem.run_bind, h1, Result.andThen_ok, Sem.run_pure]
    exact hdo.wp (hn _ _ _ (S'.put hr' hd) fun _ b hb => by simp [Lay.addOwn, upd, hb])
  | call ho hf hg h1 h2 h3 h4 h5 =>
    rename_i f args ts g fs cs r
    have hfv := S.ev f
    rw [hf] at hfv
    obtain ⟨af, ac, hfe, hrf, hrc⟩ := hfv
    have hargs : Reps L w (fs ++ args.toList.map s.ev ++ cs) (af.toList ++ args.toList.map a.eval ++ ac.toList) := (hrf.append (evs S args.toList)).append hrc
    have e1 : (af.toList ++ args.toList.map a.eval ++ ac.toList).toArray = af ++ args.map a.eval ++ ac := by
      apply Array.ext'; simp
    have hof' : (ownFree (fs ++ args.toList.map s.ev ++ cs) || r.flat) = true := by
      rw [ownFree_append, Bool.and_eq_true] at h1
      rw [ownFree_append, ownFree_append, h1.1, h1.2]
      simpa using h4
    have hcall := call_stepAt hT S hm hfo h5 hargs hg h2 h3 hof'
    rw [e1] at hcall
    have hexec : (execOp a.eval o).run P w = .ok (.enter g (af ++ args.map a.eval ++ ac)) w := by
      simp only [execOp, ho, resolve, hfe, Deferred.ofValue, Sem.run_bind, Sem.run_pure, Result.andThen_ok, invoke]
      exact enters_run hg.1 _
    unfold Oper.wp
    rw [hexec]
    simp only [Oper.upon]
    refine hcall.mono ?_
    rintro e w' ⟨u, L2, rfl, S2, hr2, hk⟩
    exact hn _ _ _ (S2.put hr2 hd) fun _ => hk
  | z ho hf hg =>
    rename_i f args ts g fs cs s1 r
    have hfv := S.ev f
    rw [hf] at hfv
    obtain ⟨af, ac, hfe, hrf, hrc⟩ := hfv
    have hargs : Reps L w (fs ++ args.toList.map s.ev ++ cs) (af.toList ++ args.toList.map a.eval ++ ac.toList) := (hrf.append (evs S args.toList)).append hrc
    have e1 : (af.toList ++ args.toList.map a.eval ++ ac.toList).toArray = af ++ args.map a.eval ++ ac := by
      apply Array.ext'; simp
    rcases hg C L a w _ hT S hargs with ⟨hen, hcall⟩ | ⟨u, w', L', hrun, S2, hr2⟩
    · rw [e1] at hcall
      have hexec : (execOp a.eval o).run P w = .ok (.enter g (af ++ args.map a.eval ++ ac)) w := by
        simp only [execOp, ho, resolve, hfe, Deferred.ofValue, Sem.run_bind, Sem.run_pure, Result.andThen_ok, invoke]
        exact enters_run hen _
      unfold Oper.wp
      rw [hexec]
      simp only [Oper.upon]
      refine hcall.mono ?_
      rintro e w' ⟨u, L2, rfl, S2, hr2⟩
      exact hn _ _ _ (S2.put hr2 hd) fun h => absurd rfl h
    · rw [e1] at hrun
      have hexec : (execOp a.eval o).run P w = .ok (.value u) w' := by
        simp only [execOp, ho, resolve, hfe, Deferred.ofValue, Sem.run_bind, Sem.run_pure, Result.andThen_ok, invoke]
        exact hrun
      unfold Oper.wp
      rw [hexec]
      simp only [Oper.upon]
      exact hn _ _ _ (S2.put hr2 hd) fun h => absurd rfl h

def compatA : Ka → Ka → Bool
  | .z, _ => false
  | _, .z => false
  | .rb b, .xb c => b != c
  | .xb b, .rb c => b != c
  | .xb b, .xb c => b != c
  | _, _ => true
theorem wrA_bx {κ1 κ2 : Ka} (hc : compatA κ1 κ2 = true) (c : Option (TypeId × List V)) (b : Nat) (hb : κ2 = .rb b ∨ κ2 = .xb b) : (wrA κ1 c s).bx b = s.bx b := by
  cases κ1 with
  | q => rfl
  | rb b1 => rfl
  | z => simp [compatA] at hc
  | xb b1 =>
    have : b ≠ b1 := by
      rcases hb with rfl | rfl <;> simp [compatA] at hc <;> exact fun e => hc e.symm
    simp [wrA, upd, this]
theorem compatA_symm {κ1 κ2 : Ka} (hc : compatA κ1 κ2 = true) : compatA κ2 κ1 = true := by
  cases κ1 <;> cases κ2 <;> simp [compatA] at hc ⊢ <;> exact fun e => hc e.symm
theorem compatA_notZ {κ1 κ2 : Ka} (hc : compatA κ1 κ2 = true) : κ1 ≠ .z ∧ κ2 ≠ .z := by
  cases κ1 <;> cases κ2 <;> simp [compatA] at hc ⊢
theorem wrA_comm {κ1 κ2 : Ka} (hc : compatA κ1 κ2 = true) (c1 c2 : Option (TypeId × List V)) : wrA κ1 c1 (wrA κ2 c2 s) = wrA κ2 c2 (wrA κ1 c1 s) := by
  cases κ1 with
  | q => rfl
  | rb b1 => rfl
  | z => rfl
  | xb b1 =>
    cases κ2 with
    | q => rfl
    | rb b2 => rfl
    | z => rfl
    | xb b2 =>
      have hne : b1 ≠ b2 := by simpa [compatA] using hc
      simp only [wrA, St.mk.injEq, true_and, and_true]
      funext t
      simp only [upd]
      by_cases h1 : t = b1
      · by_cases h2 : t = b2
        · omega
        · simp [h1, hne]
      · simp [h1]

theorem swapA {dsts : List (Option Nat)} {o1 o2 : Oper} {n0 i j : Nat} {κ1 κ2 : Ka} {s1 s2 : St} (h1 : RA P n0 i s o1 κ1 s1) (h2 : RA P n0 j s1 o2 κ2 s2) (hap : apartB dsts o1 o2 = true) (hc : compatA κ1 κ2 = true) :
    ∃ s1', RA P n0 j s o2 κ2 s1' ∧ RA P n0 i s1' o1 κ1 s2 := by
  obtain ⟨ha, hb, hc'⟩ := apartB_spec hap
  obtain ⟨z1, z2⟩ := compatA_notZ hc
  obtain ⟨v1, c1, rfl, f1⟩ := RA_frame h1 z1
  obtain ⟨v2, c2, rfl, f2⟩ := RA_frame h2 z2
  have g2 := f2 s (fun t ht => by rw [put_env (fun e => ha t e (by simp [lk, ht])), wrA_env]) (fun b hb => by rw [put_bx, wrA_bx hc c1 b hb])
  refine ⟨_, g2, ?_⟩
  have g1 := f1 ((wrA κ2 c2 s).put o2.dst v2) (fun t ht => by rw [put_env (fun e => hc' t e (by simp [lk, ht])), wrA_env]) (fun b hb => by rw [put_bx, wrA_bx (compatA_symm hc) c2 b hb])
  have e : (wrA κ1 c1 ((wrA κ2 c2 s).put o2.dst v2)).put o1.dst v1 = (wrA κ2 c2 ((wrA κ1 c1 s).put o1.dst v1)).put o2.dst v2 := by
    rw [wrA_put, wrA_put, wrA_comm hc, put_comm' (fun d hd => hb d hd)]
  rw [← e]
  exact g1

abbrev EntA := Nat × Oper × Ka
def ChainA (P : Program) [Tb P] (n0 : Nat) : List EntA → St → St → Prop
  | [], s, s' => s = s'
  | e :: r, s, s' => ∃ s1, RA P n0 e.1 s e.2.1 e.2.2 s1 ∧ ChainA P n0 r s1 s'
def BesideA (dsts : List (Option Nat)) (x y : EntA) : Bool := compatA x.2.2 y.2.2 && apartB dsts x.2.1 y.2.1
theorem chain_frontA {dsts : List (Option Nat)} {n0 : Nat} {x : EntA} : ∀ {l1 l2 : List EntA} {s s' : St}, ChainA P n0 (l1 ++ x :: l2) s s' → (∀ y ∈ l1, BesideA dsts y x = true) → ChainA P n0 (x :: (l1 ++ l2)) s s' := by
  intro l1
  induction l1 with
  | nil => intro l2 s s' h _; exact h
  | cons y l1 ih =>
    rintro l2 s s' ⟨s1, h1, h2⟩ hb
    obtain ⟨s2, h3, h4⟩ := ih h2 (fun z hz => hb z (by simp [hz]))
    have hy := hb y (by simp)
    simp only [BesideA, Bool.and_eq_true] at hy
    obtain ⟨s1', h5, h6⟩ := swapA h1 h3 hy.2 hy.1
    exact ⟨s1', h5, s2, h6, h4⟩

theorem stepA_wp {ops : Array Oper} {n0 i : Nat} {κ : Ka} {K : Act → World → Prop} {Q : Exit → Act → World → Prop} (hT : Tb.T P C.w0) (ho : ops[i]? = some o) (hg : o.guard = none) (h : RA P n0 i s o κ s') (S : Sim C s L a w) (hm : n0 + i < s.nid) (hf : L.box (n0 + i) = none ∧ L.own (n0 + i) = none)
    (hd : ∀ t, o.dst = some t → t < C.n) (hK : ∀ L' a' w', Sim C s' L' a' w' → (κ ≠ .z → ∀ b, b ≠ n0 + i → L'.box b = L.box b ∧ L'.own b = L.own b) → K a' w') : wpOp P ops Q i K a w := by
  unfold wpOp
  rw [ho]
  simp only
  rw [if_pos (by simp [Region.wanted, hg])]
  exact .inl (RA_wp h hT S hm hf.1 hf.2 hd hK)

theorem any_orderA {C : Cx} {n0 : Nat} {ops : Array Oper} {Q : Exit → Act → World → Prop} (hT : Tb.T P C.w0) (hidx : ∀ i o, ops[i]? = some o → ∀ e ∈ edgesOf o, e < i) (hd : ∀ o ∈ ops.toList, ∀ t, o.dst = some t → t < C.n) (hg : ∀ o ∈ ops, o.guard = none)
    (hQ : ∀ L a w, Sim C s' L a w → Q .normal a w) : ∀ (fuel : Nat) (l : List EntA) (listed : Array Bool) (s : St) (L : Lay) (a : Act) (w : World), l.length ≤ fuel → listed.size = ops.size →
    (∀ x ∈ l, ops[x.1]? = some x.2.1 ∧ listed.getD x.1 true = false) → (∀ i, i < ops.size → listed.getD i true = false → ∃ x ∈ l, x.1 = i) → (l.map (·.1)).Pairwise (· < ·) →
    (∀ i o, ops[i]? = some o → listed.getD i false = true → ∀ e ∈ edgesOf o, listed.getD e false = true) →
    l.Pairwise (fun x y => ((x.2.2.notZ && ((befGo [] ops.toList).getD y.1 0).testBit x.1) || BesideA (ops.toList.map (·.dst)) x y) = true) →
    ChainA P n0 l s s' → Sim C s L a w → (l ≠ [] → n0 + ops.size ≤ s.nid) → (∀ x ∈ l, L.box (n0 + x.1) = none ∧ L.own (n0 + x.1) = none) → wpAny P .any ops Q fuel listed a w := by
  intro fuel
  induction fuel with
  | zero =>
    intro l listed s L a w hlen hsz hmem hall hsort hcl hpair hch S hnid hbox
    have hl : l = [] := List.eq_nil_of_length_eq_zero (by omega)
    subst hl
    have hss : s = s' := hch
    subst hss
    refine ⟨?_, hQ L a w S⟩
    rw [List.eq_nil_iff_forall_not_mem]
    intro i hi
    obtain ⟨h0, o, ho, _⟩ := mem_ready.1 hi
    obtain ⟨x, hx, _⟩ := hall i (by have := (Array.getElem?_eq_some_iff.1 ho).1; exact this) h0
    cases hx
  | succ fuel ih =>
    intro l listed s L a w hlen hsz hmem hall hsort hcl hpair hch S hnid hbox
    refine ⟨fun hno => ?_, fun i hi => ?_⟩
    · -- nothing is ready: nothing is left
      cases l with
      | nil => have hss : s = s' := hch; subst hss; exact hQ L a w S
      | cons x r =>
        exfalso
        obtain ⟨h1, h2⟩ := hmem x (by simp)
        have : x.1 ∈ Region.ready .any ops listed := by
          refine mem_ready.2 ⟨h2, x.2.1, h1, fun e he hb => ?_⟩
          have hlt := hidx x.1 x.2.1 h1 e.on (by simp [edgesOf]; exact ⟨e, ⟨by simpa using he, hb⟩, rfl⟩)
          have hx1 : x.1 < ops.size := (Array.getElem?_eq_some_iff.1 h1).1
          cases hle : listed.getD e.on false with
          | true => rfl
          | false =>
            exfalso
            have hle' : listed.getD e.on true = false := by
              have : e.on < listed.size := by omega
              simpa [Array.getD, this] using hle
            obtain ⟨y, hy, hye⟩ := hall e.on (by omega) hle'
            rcases List.mem_cons.1 hy with rfl | hy
            · omega
            · have := (List.pairwise_cons.1 (by simpa using hsort)).1 y.1 (List.mem_map.2 ⟨y, hy, rfl⟩)
              omega
        rw [hno] at this
        cases this
    · obtain ⟨h0, o, ho, hedge⟩ := mem_ready.1 hi
      have hisz : i < ops.size := (Array.getElem?_eq_some_iff.1 ho).1
      obtain ⟨x, hx, rfl⟩ := hall i hisz h0
      obtain ⟨l1, l2, rfl⟩ := List.append_of_mem hx
      have hxo : x.2.1 = o := by
        have := (hmem x hx).1
        rw [ho] at this
        simpa using this.symm
      -- those ahead stand beside it
      have hbes : ∀ y ∈ l1, BesideA (ops.toList.map (·.dst)) y x = true := by
        intro y hy
        have h1 := (List.pairwise_append.1 hpair).2.2 y hy x (by simp)
        simp only [Bool.or_eq_true, Bool.and_eq_true] at h1
        rcases h1 with ⟨_, h1⟩ | h1
        · exfalso
          have hcl' := bef_closed (fun i => listed.getD i false = true) ops.toList [] (fun k j _ h => by simp at h)
            (fun k o hk hD e he => hcl k o (by simpa using hk) (by simpa using hD) e he) x.1 o (by simpa using ho)
            (fun e he => by
              simp only [edgesOf, List.mem_map, List.mem_filter] at he
              obtain ⟨e', ⟨h2, h3⟩, rfl⟩ := he
              exact hedge e' (by simpa using h2) h3) y.1 (by simpa using h1)
          have h2 := (hmem y (by simp [hy])).2
          have h3 : y.1 < listed.size := by
            have := (Array.getElem?_eq_some_iff.1 (hmem y (by simp [hy])).1).1; omega
          simp [Array.getD, h3] at hcl' h2
          rw [h2] at hcl'
          cases hcl'
        · exact h1
      obtain ⟨s1, hstep, hrest⟩ := chain_frontA hch hbes
      rw [hxo] at hstep
      have hnew := hbox x hx
      have hnid0 := hnid (by intro e; rw [e] at hx; cases hx)
      have hlast : x.2.2 = .z → l1 ++ l2 = [] := by
        intro hz
        have e1 : l1 = [] := List.eq_nil_iff_forall_not_mem.2 fun y hy => by
          have := hbes y hy
          simp only [BesideA, Bool.and_eq_true] at this
          exact (compatA_notZ this.1).2 hz
        have e2 : l2 = [] := List.eq_nil_iff_forall_not_mem.2 fun y hy => by
          have h1 := (List.pairwise_cons.1 (List.pairwise_append.1 hpair).2.1).1 y hy
          rw [hz] at h1
          simp only [Ka.notZ, Bool.false_and, Bool.false_or, BesideA, Bool.and_eq_true] at h1
          exact (compatA_notZ h1.1).1 hz
        rw [e1, e2]; rfl
      refine stepA_wp hT ho (hg o (Array.mem_of_getElem? ho)) hstep S (by omega) hnew (hd o (by rw [← Array.mem_toList_iff.symm]; exact Array.mem_of_getElem? ho)) (fun L' a' w' S' hL' => ?_)
      have hne : ∀ y ∈ l1 ++ l2, y.1 ≠ x.1 := by
        intro y hy
        rw [List.map_append, List.map_cons] at hsort
        have hp := List.pairwise_append.1 hsort
        rcases List.mem_append.1 hy with hy | hy
        · have := hp.2.2 y.1 (List.mem_map.2 ⟨y, hy, rfl⟩) x.1 (by simp); omega
        · have := (List.pairwise_cons.1 hp.2.1).1 y.1 (List.mem_map.2 ⟨y, hy, rfl⟩); omega
      refine ih (l1 ++ l2) (listed.setIfInBounds x.1 true) s1 L' a' w' (by simp at hlen ⊢; omega) (by simp [hsz]) ?_ ?_ ?_ ?_ ?_ hrest S' (fun hne' => by rw [RA_nid hstep (fun hz => hne' (hlast hz))]; exact hnid0) (fun y hy => by
        have h6 := hL' (fun hz => by rw [hlast hz] at hy; cases hy) (n0 + y.1) (by have := hne y hy; omega)
        rw [h6.1, h6.2]
        exact hbox y (by rcases List.mem_append.1 hy with h | h <;> simp [h]))
      · intro y hy
        obtain ⟨h4, h5⟩ := hmem y (by rcases List.mem_append.1 hy with h | h <;> simp [h])
        exact ⟨h4, by rw [getD_set_ne true (Ne.symm (hne y hy))]; exact h5⟩
      · intro j hj hjl
        by_cases hji : j = x.1
        · subst hji
          have : x.1 < listed.size := by omega
          simp [Array.getD, this] at hjl
        · rw [getD_set_ne true (fun e => hji e.symm)] at hjl
          obtain ⟨y, hy, rfl⟩ := hall j hj hjl
          refine ⟨y, ?_, rfl⟩
          rcases List.mem_append.1 hy with hy | hy
          · simp [hy]
          · rcases List.mem_cons.1 hy with rfl | hy
            · exact absurd rfl hji
            · simp [hy]
      · exact hsort.sublist (by simp only [List.map_append, List.map_cons]; exact (List.Sublist.refl _).append (List.sublist_cons_self _ _))
      · intro j o' hj hjl e he
        by_cases hji : j = x.1
        · subst hji
          rw [ho] at hj
          simp only [Option.some.injEq] at hj
          subst hj
          simp only [edgesOf, List.mem_map, List.mem_filter] at he
          obtain ⟨e', ⟨h2, h3⟩, rfl⟩ := he
          exact getD_set_true (hedge e' (by simpa using h2) h3)
        · rw [getD_set_ne false (fun e => hji e.symm)] at hjl
          exact getD_set_true (hcl j o' hj hjl e he)
      · exact hpair.sublist ((List.Sublist.refl _).append (List.sublist_cons_self _ _))


end

def chkAllA (dsts : List (Option Nat)) (b : List Nat) : List EntA → Bool
  | [] => true
  | x :: r => (r.all fun y => (x.2.2.notZ && (b.getD y.1 0).testBit x.1) || BesideA dsts x y) && chkAllA dsts b r
def entriesA (k : Nat) : List Oper → List Ka → List EntA
  | o :: os, κ :: ks => (k, o, κ) :: entriesA (k + 1) os ks
  | _, _ => []
/-- What is asked of a region and its operations' kinds: the kernel reckons it. -/
def chkA (ops : List Oper) (ks : List Ka) : Bool :=
  ops.length == ks.length && (ops.zipIdx.all fun x => (edgesOf x.1).all fun e => decide (e < x.2)) && ops.all (fun o => o.guard.isNone) && chkAllA (ops.map (·.dst)) (befGo [] ops) (entriesA 0 ops ks)
/-- A call in such a region. -/
def callAW (P : Program) [Tb P] (m : Nat) (f : V) (args : List Operand) (d : Option Nat) (s : St) (K : Ka → St → Prop) : Prop :=
  match f with
  | .fn g fs cs => (∃ r, Good P g ((fs ++ args.map s.ev ++ cs).map V.erase) r ∧ ownFree (fs ++ cs) = true ∧ noRefs (fs ++ args.map s.ev ++ cs) = true ∧ r.noRef = true ∧ (ownFree (args.map s.ev) || r.flat) = true ∧ r.idb ≤ 1 ∧ K .q (s.put d (r.shift m))) ∨
      ∃ s1 r, GoodZ P g (fs ++ args.map s.ev ++ cs) s s1 r ∧ K .z (s1.put d r)
  | _ => False
def bsA (P : Program) (m t len : Nat) (parts : List (Nat × V)) : Option V :=
  (elemT P t).bind fun e => (tapp P e).bind fun p => (zelem P e).bind fun v => (setAll p.1 (List.replicate len v) parts).bind fun xs => if len * p.1 ≤ 16777216 then some (.sl (bsTag len m e) p.1 xs) else none
def optAK (r : Option (Ka × St)) (K : Ka → St → Prop) : Prop := match r with | some (κ, s') => K κ s' | none => False
/-- One operation and what is asked behind it. -/
def stAK (P : Program) [Tb P] (n0 i : Nat) (s : St) (o : Oper) (K : Ka → St → Prop) : Prop :=
  match o.op with
  | .call { callee := .value f, args, .. } => callAW P (n0 + i) (s.ev f) args.toList o.dst s K
  | .buildSlice t len parts => optAK ((bsA P (n0 + i) t len (parts.toList.map fun p => (p.1, s.ev p.2))).map fun r => (.q, s.put o.dst r)) K
  | _ => optAK (stepA P n0 i s o) K
theorem stAK_ex {P : Program} [Tb P] {n0 i : Nat} {s : St} {o : Oper} {K : Ka → St → Prop} (h : stAK P n0 i s o K) : ∃ κ s', RA P n0 i s o κ s' ∧ K κ s' := by
  unfold stAK at h
  split at h
  · rename_i f args ts ho
    unfold callAW at h
    split at h
    · rename_i g fs cs hf
      rcases h with ⟨r, h1, h2, h3, h4, h5, h6, h7⟩ | ⟨s1, r, h1, h2⟩
      · exact ⟨_, _, .call ho hf h1 h2 h3 h4 h5 h6, h7⟩
      · exact ⟨_, _, .z ho hf h1, h2⟩
    · cases h
  · rename_i t len parts ho
    unfold optAK at h
    split at h
    · rename_i κ s' hs
      simp only [bsA, Option.map_eq_some_iff, Option.bind_eq_some_iff, Option.ite_none_right_eq_some, Option.some.injEq, Prod.mk.injEq] at hs
      obtain ⟨r, ⟨e, he, p, hp, v, hv, xs, hxs, hl, rfl⟩, rfl, rfl⟩ := hs
      exact ⟨_, _, .bs (bytes := p.2) ho he hp hv hxs hl, h⟩
    · cases h
  · unfold optAK at h
    split at h
    · rename_i κ s' hs
      exact ⟨κ, s', .st hs, h⟩
    · cases h
/-- The region, operation by operation in the text's order. -/
def wpAgo (P : Program) [Tb P] (n0 : Nat) (ops : List Oper) (K : St → Prop) : List Oper → List Ka → Nat → St → Prop
  | [], ks, _, s => chkA ops ks.reverse = true ∧ K s
  | o :: rest, ks, i, s => stAK P n0 i s o fun κ s' => wpAgo P n0 ops K rest (κ :: ks) (i + 1) s'
def drawA (P : Program) [Tb P] (ops : Array Oper) (K : St → Prop) (s : St) : Prop := wpAgo P s.nid ops.toList K ops.toList [] 0 { s with nid := s.nid + ops.size }
def isAlloc (o : Oper) : Bool := match o.op with | .alloc _ => true | .buildSlice _ _ _ => true | _ => false
def okA (o : Oper) : Bool := match o.op with
  | .call { callee := .builtin .append, .. } => false
  | .makeSlice _ _ _ => false
  | .slice _ _ _ _ _ => false
  | .box _ _ => false
  | _ => o.guard.isNone
/-- Two made, or one beside a load: and nothing that this way does not know. -/
def twoA (ops : List Oper) : Bool := decide (1 ≤ (ops.filter isAlloc).length) && ops.all okA
def dD (cuts : List Nat) : Dw := ⟨fun P _ ops K s => if twoA ops.toList = true then drawA P ops K s else drawW P ops K s, cuts⟩

section
variable {P : Program} [Tb P] {dsts : List (Option Nat)} {s s' : St} {o : Oper}
theorem wpAgo_chain {n0 : Nat} {ops : List Oper} {K : St → Prop} : ∀ (rest : List Oper) (ks : List Ka) (k : Nat) (s : St), wpAgo P n0 ops K rest ks k s →
    ∃ ks' s', rest.length = ks'.length ∧ ChainA P n0 (entriesA k rest ks') s s' ∧ chkA ops (ks.reverse ++ ks') = true ∧ K s' := by
  intro rest
  induction rest with
  | nil => intro ks k s h; exact ⟨[], s, rfl, rfl, by simpa using h.1, h.2⟩
  | cons o rest ih =>
    intro ks k s h
    obtain ⟨κ, s1, hs, h⟩ := stAK_ex h
    obtain ⟨ks', s', h3, h4, h5, h6⟩ := ih (κ :: ks) (k + 1) s1 h
    exact ⟨κ :: ks', s', by simp [h3], ⟨s1, hs, h4⟩, by simpa using h5, h6⟩
theorem entriesA_get : ∀ (os : List Oper) (ks : List Ka) (k : Nat) (x : EntA), x ∈ entriesA k os ks → k ≤ x.1 ∧ os[x.1 - k]? = some x.2.1 := by
  intro os
  induction os with
  | nil => intro ks k x h; simp [entriesA] at h
  | cons o os ih =>
    intro ks k x h
    cases ks with
    | nil => simp [entriesA] at h
    | cons κ ks =>
      simp only [entriesA, List.mem_cons] at h
      rcases h with rfl | h
      · simp
      · obtain ⟨h1, h2⟩ := ih ks (k + 1) x h
        refine ⟨by omega, ?_⟩
        rw [show x.1 - k = (x.1 - (k + 1)) + 1 by omega]
        simpa using h2
theorem entriesA_nums : ∀ (os : List Oper) (ks : List Ka) (k : Nat), os.length = ks.length → (entriesA k os ks).map (·.1) = List.range' k os.length := by
  intro os
  induction os with
  | nil => intro ks k h; cases ks <;> rfl
  | cons o os ih =>
    intro ks k h
    cases ks with
    | nil => simp at h
    | cons κ ks => simp only [entriesA, List.map_cons, List.length_cons, List.range'_succ]; rw [ih ks (k + 1) (by simpa using h)]
theorem chkAllA_pairs {b : List Nat} : ∀ {l : List EntA}, chkAllA dsts b l = true → l.Pairwise fun x y => ((x.2.2.notZ && (b.getD y.1 0).testBit x.1) || BesideA dsts x y) = true := by
  intro l
  induction l with
  | nil => intro _; exact .nil
  | cons x r ih =>
    intro h
    simp only [chkAllA, Bool.and_eq_true] at h
    exact .cons (fun y hy => List.all_eq_true.1 h.1 y hy) (ih h.2)

theorem drawD_ok (cuts : List Nat) (hm : P.follows .mixedOrders = true) : DrawOk P (dD cuts) := by
  intro id C ops K Q s L a w hT hfit hQK h S
  simp only [dD] at h
  split at h
  case isFalse => exact drawC_ok cuts hm id C ops K Q s L a w hT hfit hQK h S
  unfold drawA at h
  obtain ⟨ks, s', hlen, hch, hchk, hK⟩ := wpAgo_chain ops.toList [] 0 _ h
  simp only [List.reverse_nil, List.nil_append, chkA, Bool.and_eq_true] at hchk
  obtain ⟨⟨⟨_, hidx⟩, hguards⟩, hpairs⟩ := hchk
  have hbox0 : ∀ n, L.box (s.nid + n) = none := by
    intro n
    cases hb : L.box (s.nid + n) with
    | none => rfl
    | some g => have := S.wf.nidB _ g hb; omega
  have hown0 : ∀ n, L.own (s.nid + n) = none := by
    intro n
    cases hb : L.own (s.nid + n) with
    | none => rfl
    | some g => have := S.wf.nidO _ g hb; omega
  have S1 : Sim C { s with nid := s.nid + ops.size } L a { w with drawn := w.drawn + 1 } := by
    have K : Whole L L w w.drew := ⟨rfl, fun g h => ⟨h, .of rfl⟩, fun id e _ g h => ⟨⟨rfl, h⟩, rfl⟩, fun _ _ _ h => h⟩
    exact ⟨S.defers, S.size, fun t => (S.env t).whole K, fun t => (S.hid t).whole K, fun b cs h => by obtain ⟨g, arr, h1, h2, h3⟩ := S.box b cs h; exact ⟨g, arr, h1, h2, h3.whole K⟩, S.wf.mono (Nat.le_add_right _ _) (Nat.le_refl _), S.kp.drew⟩
  have hnums := entriesA_nums ops.toList ks 0 (by simpa using hlen)
  refine wp_region_any hm (any_orderA (s' := s') hT ?_ (opsFit_all hfit) ?_ (fun L a w S' => ⟨s', L, by rw [hQK]; exact hK, S'⟩) ops.size (entriesA 0 ops.toList ks) (Array.replicate ops.size false) _ L a _ ?_ (by simp) ?_ ?_ ?_ ?_ (chkAllA_pairs hpairs) hch S1 (fun _ => Nat.le_refl _) (fun x _ => ⟨hbox0 x.1, hown0 x.1⟩))
  · intro i o ho e he
    have hm : (o, i) ∈ ops.toList.zipIdx := by
      rw [List.mem_zipIdx_iff_getElem?]
      simpa using ho
    have := List.all_eq_true.1 (List.all_eq_true.1 hidx (o, i) hm) e he
    simpa using this
  · intro o ho
    have := List.all_eq_true.1 hguards o (by simpa using ho)
    simpa using this
  · have : (entriesA 0 ops.toList ks).length = ops.size := by
      have := congrArg List.length hnums
      simpa using this
    omega
  · intro x hx
    obtain ⟨_, h2⟩ := entriesA_get ops.toList ks 0 x hx
    simp only [Nat.sub_zero, Array.getElem?_toList] at h2
    have hlt := (Array.getElem?_eq_some_iff.1 h2).1
    exact ⟨h2, by simp [Array.getD, hlt]⟩
  · intro i hi _
    have : i ∈ (entriesA 0 ops.toList ks).map (·.1) := by
      rw [hnums]; simp; exact hi
    obtain ⟨x, hx, rfl⟩ := List.mem_map.1 this
    exact ⟨x, hx, rfl⟩
  · rw [hnums]
    exact List.pairwise_lt_range'
  · intro i o ho hl
    have hlt := (Array.getElem?_eq_some_iff.1 ho).1
    simp [Array.getD, hlt] at hl
end
end Go.Pg
end
