/-
  The pure layer: a region that draws its order. It is carried out in the text's order, and whatever order is drawn comes to the same.
-/
import Derived.Test.YtkgebocldjhflaaPgWp
namespace Go.Pg
open Go

/-! ### One operation beside others -/
def opsV (s : St) (o : Oper) : List V := o.op.operands.toList.map s.ev

/-- It computes: a value of its operands alone. -/
def ValQ (P : Program) (s : St) (o : Oper) (v : V) : Prop :=
  qv P s o.op = some v ∨ ∃ f args ts g fs cs, o.op = .call { callee := .value f, args := args, argTypes := ts } ∧ s.ev f = .fn g fs cs ∧ Good P g ((fs ++ args.toList.map s.ev ++ cs).map V.erase) v ∧
    ownFree (fs ++ cs) = true ∧ noRefs (fs ++ args.toList.map s.ev ++ cs) = true ∧ v.noRef = true ∧ (ownFree (args.toList.map s.ev) || v.flat) = true ∧ v.idb = 0

/-- It makes or writes memory. -/
def ValX (P : Program) (s : St) (o : Oper) (v : V) (s1 : St) : Prop :=
  xv P s o.op = some (v, s1) ∨ ∃ f args ts g fs cs r, o.op = .call { callee := .value f, args := args, argTypes := ts } ∧ s.ev f = .fn g fs cs ∧ Good P g ((fs ++ args.toList.map s.ev ++ cs).map V.erase) r ∧
    ownFree (fs ++ cs) = true ∧ noRefs (fs ++ args.toList.map s.ev ++ cs) = true ∧ r.noRef = true ∧ (ownFree (args.toList.map s.ev) || r.flat) = true ∧ r.idb ≠ 0 ∧ v = r.shift s.nid ∧ s1 = { s with nid := s.nid + r.idb }

theorem shift_none {r : V} {n : Nat} (h : r.idb = 0) : r.shift n = r := by
  have h1 := (idb_any 0).1 r (by omega)
  have main : (∀ v : V, v.any (Tag.ge 0) (fun _ => false) false = false → v.map (fun t => match t with | .fz => .fz | .own id e => .own (id + n) e) id = v) ∧
      (∀ l, V.anyL (Tag.ge 0) (fun _ => false) false l = false → V.mapL (fun t => match t with | .fz => .fz | .own id e => .own (id + n) e) id l = l) := by
    refine V.ind ?_ ?_ ?_ ?_ ?_ ?_ ?_ ?_ ?_ ?_
    · intro v _; rfl
    · intro t k xs _ h; cases t with
      | fz => rfl
      | own id e => simp [V.any, Tag.ge] at h
    · intro cs ih h; simp [V.map, ih h]
    · intro cs ih h; simp [V.map, ih h]
    · intro b o _; rfl
    · intro t k xs i o _ h; cases t with
      | fz => rfl
      | own id e => simp [V.any, Tag.ge] at h
    · intro f fs cs h1 h2 h
      simp only [V.any, Bool.or_eq_false_iff] at h
      simp [V.map, h1 h.1, h2 h.2]
    · intro _; rfl
    · intro _; rfl
    · intro x xs h1 h2 h
      simp only [V.anyL, Bool.or_eq_false_iff] at h
      simp [V.mapL, h1 h.1, h2 h.2]
  exact main.1 r h1

section
variable {P : Program} {s s' : St} {o : Oper}

theorem stepW_mono {K K' : Kd → St → Prop} (h : stepW P s o K) (hk : ∀ κ s', K κ s' → K' κ s') : stepW P s o K' := by
  unfold stepW at *
  split at h
  · unfold callW at *
    split at h
    · obtain ⟨ids, r, h1, h2, h3, h4, h5, h6⟩ := h
      exact ⟨ids, r, h1, h2, h3, h4, h5, hk _ _ h6⟩
    · cases h
  · refine h.imp ?_ (Or.imp ?_ (Or.imp ?_ ?_))
    · unfold optQ; split
      · exact hk _ _
      · exact id
    · unfold optR; split
      · exact hk _ _
      · exact id
    · unfold optK; split
      · exact hk _ _
      · exact id
    · unfold optK; split
      · exact hk _ _
      · exact id

/-- What a step comes to. -/
theorem stepW_ex {K : Kd → St → Prop} (h : stepW P s o K) : ∃ κ s', stepW P s o (fun k s1 => k = κ ∧ s1 = s') ∧ K κ s' := by
  unfold stepW at *
  split at h
  · unfold callW at *
    split at h
    · obtain ⟨ids, r, h1, h2, h3, h4, h5, h6⟩ := h
      exact ⟨_, _, ⟨ids, r, h1, h2, h3, h4, h5, rfl, rfl⟩, h6⟩
    · cases h
  · rcases h with h | h | h | h
    · unfold optQ at h; split at h
      · rename_i r hr; exact ⟨_, _, .inl (by unfold optQ; rw [hr]; exact ⟨rfl, rfl⟩), h⟩
      · cases h
    · unfold optR at h; split at h
      · rename_i r hr; exact ⟨_, _, .inr (.inl (by unfold optR; rw [hr]; exact ⟨rfl, rfl⟩)), h⟩
      · cases h
    · unfold optK at h; split at h
      · rename_i r s1 hr; exact ⟨_, _, .inr (.inr (.inl (by unfold optK; rw [hr]; exact ⟨rfl, rfl⟩))), h⟩
      · cases h
    · unfold optK at h; split at h
      · rename_i r s1 hr; exact ⟨_, _, .inr (.inr (.inr (by unfold optK; rw [hr]; exact ⟨rfl, rfl⟩))), h⟩
      · cases h

theorem stepW_cases {κ : Kd} (h : stepW P s o (fun k s1 => k = κ ∧ s1 = s')) :
    (∃ v, ValQ P s o v ∧ κ = kq (opsV s o) v ∧ s' = s.put o.dst v) ∨ (∃ v, rv P s o.op = some v ∧ κ = .r ∧ s' = s.put o.dst v) ∨ (∃ v s1, ValX P s o v s1 ∧ κ = .x ∧ s' = s1.put o.dst v) ∨ κ = .z := by
  unfold stepW at h
  split at h
  · rename_i f args ts heq
    unfold callW at h
    split at h
    · rename_i g fs cs hf
      obtain ⟨ids, r, h1, h2, h3, h4, h5, h6, h7⟩ := h
      cases ids with
      | cons i ids => exact .inr (.inr (.inr h6.symm))
      | nil =>
        simp only [kc] at h6
        simp only [St.freezeAll] at h1 h3 h5 h7
        split at h6
        · rename_i h0
          refine .inl ⟨r, .inr ⟨f, args, ts, g, fs, cs, heq, hf, h1, h2, h3, h4, h5, h0⟩, ?_, ?_⟩
          · rw [← h6, opsV, heq]
            simp [Op.operands, Call.operands]
          · rw [← h7, h0, shift_none h0]; rfl
        · rename_i h0
          exact .inr (.inr (.inl ⟨_, _, .inr ⟨f, args, ts, g, fs, cs, r, heq, hf, h1, h2, h3, h4, h5, h0, rfl, rfl⟩, h6.symm, h7.symm⟩))
    · cases h
  · rcases h with h | h | h | h
    · unfold optQ at h; split at h
      · rename_i r hr; exact .inl ⟨r, .inl hr, h.1.symm, h.2.symm⟩
      · cases h
    · unfold optR at h; split at h
      · rename_i r hr; exact .inr (.inl ⟨r, hr, h.1.symm, h.2.symm⟩)
      · cases h
    · unfold optK at h; split at h
      · rename_i r s1 hr; exact .inr (.inr (.inl ⟨r, s1, .inl hr, h.1.symm, h.2.symm⟩))
      · cases h
    · unfold optK at h; split at h
      · exact .inr (.inr (.inr h.1.symm))
      · cases h

theorem valQ_step {v : V} (h : ValQ P s o v) : stepW P s o (fun k s1 => k = kq (opsV s o) v ∧ s1 = s.put o.dst v) := by
  rcases h with h | ⟨f, args, ts, g, fs, cs, heq, hf, h1, h2, h3, h4, h5, h6⟩
  · unfold stepW
    split
    · rename_i f args ts heq
      rw [heq] at h
      simp [qv] at h
    · left; unfold optQ; rw [h]; exact ⟨rfl, rfl⟩
  · unfold stepW
    rw [heq]
    simp only
    unfold callW
    rw [hf]
    refine ⟨[], v, h1, h2, h3, h4, h5, ?_, ?_⟩
    · rw [kc, if_pos h6, opsV, heq]
      simp [Op.operands, Call.operands, hf]
    · rw [h6, shift_none h6]; rfl

theorem rv_step {v : V} (h : rv P s o.op = some v) : stepW P s o (fun k s1 => k = .r ∧ s1 = s.put o.dst v) := by
  unfold stepW
  split
  · rename_i f args ts heq
    rw [heq] at h
    simp [rv] at h
  · right; left; unfold optR; rw [h]; exact ⟨rfl, rfl⟩

theorem valX_step {v : V} {s1 : St} (h : ValX P s o v s1) : stepW P s o (fun k s2 => k = .x ∧ s2 = s1.put o.dst v) := by
  rcases h with h | ⟨f, args, ts, g, fs, cs, r, heq, hf, h1, h2, h3, h4, h5, h0, rfl, rfl⟩
  · unfold stepW
    split
    · rename_i f args ts heq
      rw [heq] at h
      simp [xv] at h
    · right; right; left; unfold optK; rw [h]; exact ⟨rfl, rfl⟩
  · unfold stepW
    rw [heq]
    simp only
    unfold callW
    rw [hf]
    refine ⟨[], r, h1, h2, h3, h4, h5, ?_, rfl⟩
    rw [kc, if_neg h0]

/-! ### What lies beside -/
theorem qv_congr {op : Op} (he : ∀ x ∈ op.operands.toList, s'.ev x = s.ev x) : qv P s' op = qv P s op := by
  have hm : ∀ (l : List Operand), (∀ x ∈ l, s'.ev x = s.ev x) → l.map s'.ev = l.map s.ev := fun l h => List.map_congr_left h
  have ho : ∀ (o : Option Operand), (∀ x, o = some x → s'.ev x = s.ev x) → o.map s'.ev = o.map s.ev := by
    intro o h; cases o with
    | none => rfl
    | some x => simp [h x rfl]
  unfold qv
  split
  case h_14 t parts =>
    congr 1
    refine List.map_congr_left fun p hp => ?_
    rw [he p.2 (by simp only [Op.operands]; simpa using ⟨p.1, by simpa using hp⟩)]
  case h_13 f fs cs => rw [hm fs.toList (fun x hx => he x (by simp [Op.operands] at hx ⊢; simp [hx])), hm cs.toList (fun x hx => he x (by simp [Op.operands] at hx ⊢; simp [hx]))]
  case h_15 t x lo hi =>
    rw [he x (by simp [Op.operands]), ho lo (fun y hy => he y (by simp [Op.operands, hy])), ho hi (fun y hy => he y (by simp [Op.operands, hy]))]
  case h_17 args ts =>
    split
    · rename_i x t hx ht
      have e1 : args = #[x] := by apply Array.ext'; simpa using hx
      subst e1
      rw [he x (by simp [Op.operands, Call.operands])]
    · rfl
  case h_18 args ts =>
    split
    · rename_i x y hx
      have e1 : args = #[x, y] := by apply Array.ext'; simpa using hx
      subst e1
      rw [he x (by simp [Op.operands, Call.operands]), he y (by simp [Op.operands, Call.operands])]
    · rfl
  case h_19 args ts =>
    split
    · rename_i x y hx
      have e1 : args = #[x, y] := by apply Array.ext'; simpa using hx
      subst e1
      rw [he x (by simp [Op.operands, Call.operands]), he y (by simp [Op.operands, Call.operands])]
    · rfl
  case h_3 c x y => rw [he c (by simp [Op.operands]), he x (by simp [Op.operands]), he y (by simp [Op.operands])]
  all_goals first
    | rfl
    | (rename_i x; rw [he x (by simp [Op.operands])]; done)
    | (rename_i x _; rw [he x (by simp [Op.operands])]; done)
    | (rename_i x y; rw [he x (by simp [Op.operands]), he y (by simp [Op.operands])]; done)
    | (rename_i x y _; rw [he x (by simp [Op.operands]), he y (by simp [Op.operands])]; done)

theorem valQ_congr {v : V} (he : ∀ x ∈ o.op.operands.toList, s'.ev x = s.ev x) (h : ValQ P s o v) : ValQ P s' o v := by
  rcases h with h | ⟨f, args, ts, g, fs, cs, heq, hf, h1, h2, h3, h4, h5, h6⟩
  · exact .inl (by rw [qv_congr he]; exact h)
  · rw [heq] at he
    have hfe : s'.ev f = s.ev f := he f (by simp [Op.operands, Call.operands])
    have hae : args.toList.map s'.ev = args.toList.map s.ev := List.map_congr_left fun x hx => he x (by simp [Op.operands, Call.operands] at hx ⊢; simp [hx])
    exact .inr ⟨f, args, ts, g, fs, cs, heq, by rw [hfe]; exact hf, by rw [hae]; exact h1, h2, by rw [hae]; exact h3, h4, by rw [hae]; exact h5, h6⟩

theorem rv_congr {op : Op} (he : ∀ x ∈ op.operands.toList, s'.ev x = s.ev x) (hb : s'.bx = s.bx) : rv P s' op = rv P s op := by
  unfold rv
  split
  · rename_i t x
    rw [he x (by simp [Op.operands])]
    split
    · simp only [loadB, hb]
    · rfl
  · rfl

theorem ev_put {d : Nat} {v : V} {x : Operand} (h : x ≠ .tmp d) : (s.put (some d) v).ev x = s.ev x := by
  cases x with
  | tmp t => simp [St.put, St.ev, upd, show t ≠ d from fun e => h (by rw [e])]
  | _ => rfl

theorem put_comm {d d' : Nat} {v v' : V} (h : d ≠ d') : (s.put (some d) v).put (some d') v' = (s.put (some d') v').put (some d) v := by
  simp only [St.put, St.mk.injEq, and_true]
  funext t
  simp only [upd]
  split <;> split <;> first | rfl | (subst_vars; exact absurd rfl h)

theorem calm_has {v : V} (h : v.calm = true) (id : Nat) : v.has id = false := by
  have main : (∀ v : V, v.any Tag.isOwn (fun _ => true) false = false → v.any (Tag.is id) (fun _ => false) false = false) ∧ (∀ l, V.anyL Tag.isOwn (fun _ => true) false l = false → V.anyL (Tag.is id) (fun _ => false) false l = false) := by
    refine V.ind ?_ ?_ ?_ ?_ ?_ ?_ ?_ ?_ ?_ ?_
    · intro v _; rfl
    · intro t k xs _ h; cases t with
      | fz => rfl
      | own j e => simp [V.any, Tag.isOwn] at h
    · intro cs ih h; exact ih h
    · intro cs ih h; exact ih h
    · intro b o h; simp [V.any] at h
    · intro t k xs i o _ h; cases t with
      | fz => rfl
      | own j e => simp [V.any, Tag.isOwn] at h
    · intro f fs cs h1 h2 h
      simp only [V.any, Bool.or_eq_false_iff] at h ⊢
      exact ⟨h1 h.1, h2 h.2⟩
    · intro _; rfl
    · intro _; rfl
    · intro x xs h1 h2 h
      simp only [V.anyL, Bool.or_eq_false_iff] at h ⊢
      exact ⟨h1 h.1, h2 h.2⟩
  exact main.1 v (by simpa [V.calm] using h)

theorem free_calm {v : V} (h : v.free = true) : v.calm = true := by
  have main : (∀ v : V, v.any Tag.isOwn (fun _ => true) true = false → v.any Tag.isOwn (fun _ => true) false = false) ∧ (∀ l, V.anyL Tag.isOwn (fun _ => true) true l = false → V.anyL Tag.isOwn (fun _ => true) false l = false) := by
    refine V.ind ?_ ?_ ?_ ?_ ?_ ?_ ?_ ?_ ?_ ?_ <;> simp_all [V.any, V.anyL]
  simpa [V.calm] using main.1 v (by simpa [V.free] using h)

/-- How an operation may turn the values beside it. -/
structure Turns (ψ : V → V) : Prop where
  calm : ∀ v : V, v.calm = true → ψ v = v
  back : ∀ v : V, (ψ v).free = true → ψ v = v

theorem turns_id : Turns _root_.id := ⟨fun _ _ => rfl, fun _ _ => rfl⟩
theorem turns_poison (id : Nat) : Turns (poison id) := by
  refine ⟨fun v h => by simp [poison, calm_has h], fun v h => ?_⟩
  unfold poison at *
  split
  · rename_i hv; rw [if_pos hv] at h; simp [V.free, V.any] at h
  · rfl
theorem turns_setOwn (id k i : Nat) (x : V) : Turns (setOwn id k i x) := by
  refine ⟨fun v h => ?_, fun v h => ?_⟩
  · unfold setOwn
    split
    · simp [V.calm, V.any, Tag.isOwn] at h
    · exact (turns_poison id).calm v h
  · unfold setOwn at *
    split
    · rename_i j e k' xs
      split
      · rename_i hj
        split
        · rename_i hk
          simp only [hj, hk, if_true] at h
          simp [V.free, V.any, Tag.isOwn] at h
        · rename_i hk
          simp only [hj, hk, if_true, if_false] at h
          simp [V.free, V.any] at h
      · rfl
    · rename_i hne
      split at h
      · exact absurd rfl (hne _ _ _ _)
      · exact (turns_poison id).back v h

theorem mapV_put {ψ : V → V} {d : Nat} {v : V} (hψ : ψ v = v) : (s.put (some d) v).mapV ψ = (s.mapV ψ).put (some d) v := by
  simp only [St.put, St.mapV, St.mk.injEq, and_true]
  funext t
  simp only [upd]
  split
  · exact hψ
  · rfl

/-- An operation that makes or writes memory: what it does to the values; that a value beside it makes no difference. -/
theorem xv_turns {op : Op} {r : V} {s1 : St} (h : xv P s op = some (r, s1)) : ∃ ψ, Turns ψ ∧ ∀ t, s1.env t = ψ (s.env t) := by
  unfold xv at h
  split at h
  · simp only [allocV, Option.map_eq_some_iff, newBox, Prod.mk.injEq] at h
    obtain ⟨_, _, _, rfl⟩ := h; exact ⟨_, turns_id, fun t => rfl⟩
  · simp only [boxV, Option.map_eq_some_iff, newBox, Prod.mk.injEq] at h
    obtain ⟨_, _, _, rfl⟩ := h; exact ⟨_, turns_id, fun t => rfl⟩
  · simp only [buildSliceV, Option.bind_eq_some_iff, Option.ite_none_right_eq_some, Option.some.injEq, Prod.mk.injEq, Prod.exists] at h
    obtain ⟨_, _, _, _, _, _, _, _, _, _, _, rfl⟩ := h; exact ⟨_, turns_id, fun t => rfl⟩
  · split at h
    · simp only [storeB, Option.map_eq_some_iff, Option.bind_eq_some_iff, Option.ite_none_right_eq_some, Option.some.injEq, Prod.mk.injEq] at h
      obtain ⟨_, ⟨_, _, _, _, _, rfl⟩, _, rfl⟩ := h; exact ⟨_, turns_id, fun t => rfl⟩
    · simp only [storeE, Option.map_eq_some_iff, Option.bind_eq_some_iff, Option.ite_none_right_eq_some, Option.some.injEq, Prod.mk.injEq] at h
      obtain ⟨_, ⟨_, _, _, _, _, _, _, _, _, rfl⟩, _, rfl⟩ := h; exact ⟨_, turns_setOwn _ _ _ _, fun t => rfl⟩
    · cases h
  · unfold makeV at h
    split at h
    · simp only [Option.bind_eq_some_iff, Option.ite_none_right_eq_some, Option.some.injEq, Prod.mk.injEq, Prod.exists] at h
      obtain ⟨_, _, _, _, _, _, _, _, _, rfl⟩ := h; exact ⟨_, turns_id, fun t => rfl⟩
    · cases h
  · simp only [Option.map_eq_some_iff, Prod.mk.injEq] at h
    obtain ⟨_, _, _, rfl⟩ := h; exact ⟨_, turns_id, fun t => rfl⟩
  · split at h
    · simp only [appendV, Option.bind_eq_some_iff, Prod.exists] at h
      obtain ⟨_, _, _, _, _, _, _, h⟩ := h
      split at h
      · simp only [Option.ite_none_right_eq_some, Option.some.injEq, Prod.mk.injEq] at h
        obtain ⟨_, _, rfl⟩ := h; exact ⟨_, turns_id, fun t => rfl⟩
      · simp only [Option.ite_none_right_eq_some, Option.some.injEq, Prod.mk.injEq] at h
        obtain ⟨_, _, rfl⟩ := h; exact ⟨_, turns_poison _, fun t => rfl⟩
      · cases h
    · cases h
  · cases h

theorem xv_put {op : Op} {d : Nat} {v : V} (hd : ∀ x ∈ op.operands.toList, x ≠ .tmp d) (hc : v.calm = true) :
    xv P (s.put (some d) v) op = (xv P s op).map fun p => (p.1, p.2.put (some d) v) := by
  have he : ∀ x ∈ op.operands.toList, (s.put (some d) v).ev x = s.ev x := fun x hx => ev_put (hd x hx)
  unfold xv
  split
  · rename_i e
    simp only [allocV, Option.map_map]
    rfl
  · rename_i e x
    rw [he x (by simp [Op.operands])]
    simp only [boxV, Option.map_map]
    rfl
  · rename_i t len parts
    have : (parts.toList.map fun p => (p.1, (s.put (some d) v).ev p.2)) = parts.toList.map fun p => (p.1, s.ev p.2) := by
      refine List.map_congr_left fun p hp => ?_
      rw [he p.2 (by simp only [Op.operands]; simpa using ⟨p.1, by simpa using hp⟩)]
    rw [this]
    simp only [buildSliceV]
    cases elemT P t with
    | none => rfl
    | some e =>
      simp only [Option.bind_some]
      cases tapp P e with
      | none => rfl
      | some kb =>
        simp only [Option.bind_some]
        cases zelem P e with
        | none => rfl
        | some z =>
          simp only [Option.bind_some]
          cases setAll kb.1 (List.replicate len z) (parts.toList.map fun p => (p.1, s.ev p.2)) with
          | none => rfl
          | some xs =>
            simp only [Option.bind_some]
            split <;> rfl
  · rename_i t x y
    rw [he x (by simp [Op.operands]), he y (by simp [Op.operands])]
    split
    · rename_i b off hb
      simp only [storeB, Option.map_map]
      have : (s.put (some d) v).bx = s.bx := rfl
      rw [this]
      cases s.bx b with
      | none => rfl
      | some cs =>
        simp only [Option.bind_some]
        cases (s.ev y).cs with
        | none => rfl
        | some l =>
          simp only [Option.bind_some]
          split <;> rfl
    · rename_i id e k xs i off hb
      simp only [storeE, Option.map_map]
      cases xs[i]? with
      | none => rfl
      | some x0 =>
        simp only [Option.bind_some]
        cases x0.cs with
        | none => rfl
        | some c0 =>
          simp only [Option.bind_some]
          cases (s.ev y).cs with
          | none => rfl
          | some l =>
            simp only [Option.bind_some]
            cases rebuild x0 (c0.take off ++ l ++ c0.drop (off + l.length)) with
            | none => rfl
            | some x1 =>
              simp only [Option.bind_some]
              split
              · simp only [Option.map_some, Function.comp, mapV_put ((turns_setOwn id k i x1).calm v hc)]
              · rfl
    · rfl
  · rename_i t l c
    rw [he l (by simp [Op.operands]), he c (by simp [Op.operands])]
    unfold makeV
    split
    · cases elemT P t with
      | none => rfl
      | some e =>
        simp only [Option.bind_some]
        cases tapp P e with
        | none => rfl
        | some kb =>
          simp only [Option.bind_some]
          cases zelem P e with
          | none => rfl
          | some z =>
            simp only [Option.bind_some]
            split <;> rfl
    · rfl
  · rename_i src dst x
    rw [he x (by simp [Op.operands])]
    simp only [Option.map_map]
    rfl
  · rename_i args ts
    split
    · rename_i x y t t2 hx ht
      have e1 : args = #[x, y] := by apply Array.ext'; simpa using hx
      subst e1
      rw [he x (by simp [Op.operands, Call.operands]), he y (by simp [Op.operands, Call.operands])]
      simp only [appendV]
      cases elemT P t with
      | none => rfl
      | some e =>
        simp only [Option.bind_some]
        cases tapp P e with
        | none => rfl
        | some kb =>
          simp only [Option.bind_some]
          cases srcV P t2 kb.1 (s.ev y) with
          | none => rfl
          | some ys =>
            simp only [Option.bind_some]
            split
            · split <;> rfl
            · rename_i id e' k' xs _
              split
              · simp only [Option.map_some, mapV_put ((turns_poison id).calm v hc)]
                rfl
              · rfl
            · rfl
    · rfl
  · rfl

theorem valX_turns {v : V} {s1 : St} (h : ValX P s o v s1) : ∃ ψ, Turns ψ ∧ ∀ t, s1.env t = ψ (s.env t) := by
  rcases h with h | ⟨f, args, ts, g, fs, cs, r, heq, hf, h1, h2, h3, h4, h5, h0, rfl, rfl⟩
  · exact xv_turns h
  · exact ⟨_, turns_id, fun t => rfl⟩

theorem valX_put {v x : V} {s1 : St} {d : Nat} (hd : ∀ y ∈ o.op.operands.toList, y ≠ .tmp d) (hc : x.calm = true) :
    ValX P (s.put (some d) x) o v s1 ↔ ∃ s2, ValX P s o v s2 ∧ s1 = s2.put (some d) x := by
  have he : ∀ y ∈ o.op.operands.toList, (s.put (some d) x).ev y = s.ev y := fun y hy => ev_put (hd y hy)
  constructor
  · rintro (h | ⟨f, args, ts, g, fs, cs, r, heq, hf, h1, h2, h3, h4, h5, h0, rfl, rfl⟩)
    · rw [xv_put hd hc] at h
      simp only [Option.map_eq_some_iff, Prod.mk.injEq] at h
      obtain ⟨⟨v', s2⟩, h, rfl, rfl⟩ := h
      exact ⟨s2, .inl h, rfl⟩
    · rw [heq] at he
      have hfe := he f (by simp [Op.operands, Call.operands])
      have hae : args.toList.map (s.put (some d) x).ev = args.toList.map s.ev := List.map_congr_left fun y hy => he y (by simp [Op.operands, Call.operands] at hy ⊢; simp [hy])
      rw [hfe] at hf
      rw [hae] at h1 h3 h5
      exact ⟨{ s with nid := s.nid + r.idb }, .inr ⟨f, args, ts, g, fs, cs, r, heq, hf, h1, h2, h3, h4, h5, h0, rfl, rfl⟩, rfl⟩
  · rintro ⟨s2, h, rfl⟩
    rcases h with h | ⟨f, args, ts, g, fs, cs, r, heq, hf, h1, h2, h3, h4, h5, h0, rfl, rfl⟩
    · exact .inl (by rw [xv_put hd hc, h]; rfl)
    · rw [heq] at he
      have hfe := he f (by simp [Op.operands, Call.operands])
      have hae : args.toList.map (s.put (some d) x).ev = args.toList.map s.ev := List.map_congr_left fun y hy => he y (by simp [Op.operands, Call.operands] at hy ⊢; simp [hy])
      exact .inr ⟨f, args, ts, g, fs, cs, r, heq, by rw [hfe]; exact hf, by rw [hae]; exact h1, h2, by rw [hae]; exact h3, h4, by rw [hae]; exact h5, h0, rfl, rfl⟩
end
end Go.Pg
