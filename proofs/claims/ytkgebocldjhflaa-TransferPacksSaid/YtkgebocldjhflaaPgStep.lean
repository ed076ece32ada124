/-
  The pure layer: one operation, a region in the text's order, code; how a contract is got.
-/
import Derived.Test.YtkgebocldjhflaaPgCode
namespace Go.Pg
open Go

def exV (x : V) (i : Nat) : Option V := match x with | .tup vs => vs[i]? | _ => none

/-- The operations that only compute. -/
def qv (P : Program) (s : St) (op : Op) : Option V :=
  match op with
  | .move x => some (s.ev x)
  | .assign x => some (s.ev x)
  | .pick c x y => match s.ev c with | .c (.bool b) => some (pickV b (s.ev x) (s.ev y)) | _ => none
  | .binOp op t x y _ => binV P op t (s.ev x) (s.ev y)
  | .unOp op _ x => unV op (s.ev x)
  | .convert src dst x => convV P src dst (s.ev x)
  | .extract x i => exV (s.ev x) i
  | .field t x f => fieldV P t (s.ev x) f
  | .index t x i => ixV P t (s.ev x) (s.ev i)
  | .indexAddr t x i => iaV P t (s.ev x) (s.ev i)
  | .fieldAddr t x f => faV P t (s.ev x) f
  | .nilCheck x => match s.ev x with | .ref b o => some (.ref b o) | .el t k xs i o => some (.el t k xs i o) | .fn f fs cs => some (.fn f fs cs) | _ => none
  | .makeFunc (.func f) fs cs => some (.fn f (fs.toList.map s.ev) (cs.toList.map s.ev))
  | .build t parts => buildV P t (parts.toList.map fun p => (p.1, s.ev p.2))
  | .slice t x lo hi none => slV P t (s.ev x) (lo.map s.ev) (hi.map s.ev)
  | .load t x => match s.ev x with | .el _ _ xs i off => (xs[i]?).bind fun y => y.cs.bind fun cs => ldCells P t cs off | _ => none
  | .call { callee := .builtin .len, args, argTypes } => match args.toList, argTypes.toList with | [x], [t] => lenV P t (s.ev x) | _, _ => none
  | .call { callee := .builtin .max, args, .. } => match args.toList with | [x, y] => minmaxV true (s.ev x) (s.ev y) | _ => none
  | .call { callee := .builtin .min, args, .. } => match args.toList with | [x, y] => minmaxV false (s.ev x) (s.ev y) | _ => none
  | _ => none

def isC : V → Bool
  | .c _ => true
  | _ => false

/-- The operations that make or write memory. -/
def xv (P : Program) (s : St) (op : Op) : Option (V × St) :=
  match op with
  | .alloc e => allocV P s e
  | .box _ x => boxV s (s.ev x)
  | .buildSlice t len parts => buildSliceV P s t len (parts.toList.map fun p => (p.1, s.ev p.2))
  | .store t x y => match s.ev x with
    | .ref b off => (storeB P s t b off (s.ev y)).map fun s' => (.top, s')
    | .el (.own id _) k xs i off => (storeE P s t id k xs i off (s.ev y)).map fun s' => (.top, s')
    | _ => none
  | .makeSlice t l c => makeV P s t (s.ev l) (s.ev c)
  | .convert src dst x => (strBytes P src dst (s.ev x)).map fun r => (r, s)
  | .call { callee := .builtin .append, args, argTypes } => match args.toList, argTypes.toList with | [x, y], [t, t2] => appendV P s t t2 (s.ev x) (s.ev y) | _, _ => none
  | _ => none

/-- The operations behind which an own array is written no more. -/
def zv (P : Program) (s : St) (op : Op) : Option (V × St) :=
  match op with
  | .slice t x lo hi none => match s.ev x with
    | .sl (.own id _) k xs => if (lo.map s.ev).all isC && (hi.map s.ev).all isC then sliceOwn P s t id k xs (lo.map s.ev) (hi.map s.ev) else none
    | _ => none
  | .convert src dst x => sameSl P s src dst (s.ev x)
  | _ => none

def rv (P : Program) (s : St) (op : Op) : Option V :=
  match op with
  | .load t x => match s.ev x with | .ref b off => loadB P s t b off | _ => none
  | _ => none

def optK (x : Option (V × St)) (d : Option Nat) (k : Kd) (K : Kd → St → Prop) : Prop :=
  match x with
  | some (r, s') => K k (s'.put d r)
  | none => False

def optQ (x : Option V) (s : St) (d : Option Nat) (l : List V) (K : Kd → St → Prop) : Prop :=
  match x with
  | some r => K (kq l r) (s.put d r)
  | none => False

def optR (x : Option V) (s : St) (d : Option Nat) (K : Kd → St → Prop) : Prop :=
  match x with
  | some r => K .r (s.put d r)
  | none => False

/-- One operation, its guard aside. -/
def stepW (P : Program) (s : St) (o : Oper) (K : Kd → St → Prop) : Prop :=
  match o.op with
  | .call { callee := .value f, args, .. } => callW P (s.ev f) args.toList o.dst s K
  | op => optQ (qv P s op) s o.dst (op.operands.toList.map s.ev) K ∨ optR (rv P s op) s o.dst K ∨ optK (xv P s op) o.dst .x K ∨ optK (zv P s op) o.dst .z K

section
variable {P : Program} {C : Cx} {s : St} {L L' : Lay} {a : Act} {w w' : World}

/-- What an operation comes to in the model. -/
def Does (P : Program) (o : Oper) (a : Act) (w : World) (u : Value) (w' : World) : Prop :=
  (execOp a.eval o).run P w = .ok (.value u) w' ∨ ((execOp a.eval o).run P w = .ok .skip w' ∧ u = undef)

theorem Does.wp {o : Oper} {u : Value} {next : Act → World → Prop} {Q : Exit → Act → World → Prop} (h : Does P o a w u w') (hn : next (a.put o.dst u) w') : o.wp P a w next Q := by
  unfold Oper.wp
  rcases h with h | ⟨h, rfl⟩ <;> rw [h] <;> exact hn

theorem evs (S : Sim C s L a w) (l : List Operand) : Reps L w (l.map s.ev) (l.map a.eval) := by
  induction l with
  | nil => rfl
  | cons x xs ih => exact ⟨_, _, rfl, S.ev x, ih⟩

theorem opt_ev (S : Sim C s L a w) (o : Option Operand) : o.map s.ev = none ∧ o.map a.eval = none ∨ ∃ v u, o.map s.ev = some v ∧ o.map a.eval = some u ∧ Rep L w v u := by
  cases o with
  | none => exact .inl ⟨rfl, rfl⟩
  | some x => exact .inr ⟨_, _, rfl, rfl, S.ev x⟩

theorem qv_does {o : Oper} {r : V} (h : qv P s o.op = some r) (S : Sim C s L a w) : ∃ u, Does P o a w u w ∧ Rep L w r u := by
  obtain ⟨dst, op, type, pos, after, guard⟩ := o
  simp only at h
  unfold qv at h
  split at h
  · simp only [Option.some.injEq] at h; subst h
    exact ⟨_, .inl rfl, S.ev _⟩
  · simp only [Option.some.injEq] at h; subst h
    exact ⟨_, .inl rfl, S.ev _⟩
  · rename_i c x y
    split at h
    · rename_i b hb
      simp only [Option.some.injEq] at h; subst h
      have hc := S.ev c
      rw [hb] at hc
      simp only [Rep] at hc
      refine ⟨if b then a.eval x else a.eval y, .inl ?_, pickV_rep (S.ev x) (S.ev y)⟩
      simp only [execOp, hc, asBool, Sem.run_bind, Sem.run_pure, Result.andThen_ok]
    · cases h
  · rename_i op t x y yt
    obtain ⟨u, h1, h2⟩ := binV_run h (S.ev x) (S.ev y) x y
    exact ⟨u, .inl (by simp only [execOp]; rw [Sem.run_bind]; rw [h1]; rfl), h2⟩
  · rename_i op t x
    obtain ⟨u, h1, h2⟩ := unV_run (P := P) h (S.ev x)
    exact ⟨u, .inl (by simp only [execOp, Sem.run_bind, h1, Result.andThen_ok, Sem.run_pure]), h2⟩
  · rename_i src dst' x
    obtain ⟨u, h1, h2⟩ := convV_run h (S.ev x)
    exact ⟨u, .inl (by simp only [execOp, Sem.run_bind, h1, Result.andThen_ok, Sem.run_pure]), h2⟩
  · rename_i x i
    unfold exV at h
    split at h
    · rename_i vs hvs
      have hx := S.ev x
      rw [hvs] at hx
      obtain ⟨ar, har, hr⟩ := hx
      obtain ⟨u, h1, h2⟩ := hr.get h
      refine ⟨u, .inl ?_, h2⟩
      simp only [Array.getElem?_toList] at h1
      simp only [execOp, har, Instr.extract, h1, Sem.run_bind, Sem.run_pure, Result.andThen_ok]
    · cases h
  · rename_i t x f
    obtain ⟨u, h1, h2⟩ := fieldV_run h (S.ev x)
    exact ⟨u, .inl (by simp only [execOp, Sem.run_bind, h1, Result.andThen_ok, Sem.run_pure]), h2⟩
  · rename_i t x i
    obtain ⟨u, h1, h2⟩ := ixV_run h (S.ev x) (S.ev i)
    exact ⟨u, .inl (by simp only [execOp, Sem.run_bind, h1, Result.andThen_ok, Sem.run_pure]), h2⟩
  · rename_i t x i
    obtain ⟨u, h1, h2⟩ := iaV_run h (S.ev x) (S.ev i)
    exact ⟨u, .inl (by simp only [execOp, Sem.run_bind, h1, Result.andThen_ok, Sem.run_pure]), h2⟩
  · rename_i t x f
    obtain ⟨u, h1, h2⟩ := faV_run h (S.ev x)
    exact ⟨u, .inl (by simp only [execOp, Sem.run_bind, h1, Result.andThen_ok, Sem.run_pure]), h2⟩
  · rename_i x
    have hx := S.ev x
    split at h
    · rename_i b o hb
      simp only [Option.some.injEq] at h; subst h
      rw [hb] at hx
      obtain ⟨g, h1, h2⟩ := hx
      exact ⟨_, .inl (by simp only [execOp, h2]; rfl), g, h1, rfl⟩
    · rename_i t k xs i o hb
      simp only [Option.some.injEq] at h; subst h
      rw [hb] at hx
      have hx' := hx
      obtain ⟨g, o', cells, h2, _⟩ := hx
      exact ⟨_, .inl (by simp only [execOp, h2]; rfl), h2 ▸ hx'⟩
    · rename_i f fs cs hb
      simp only [Option.some.injEq] at h; subst h
      rw [hb] at hx
      have hx' := hx
      obtain ⟨a1, b1, h2, _⟩ := hx
      exact ⟨_, .inl (by simp only [execOp, h2]; rfl), h2 ▸ hx'⟩
    · cases h
  · rename_i f fs cs
    simp only [Option.some.injEq] at h; subst h
    exact ⟨_, .inl rfl, _, _, rfl, by simpa using evs S fs.toList, by simpa using evs S cs.toList⟩
  · rename_i t parts
    obtain ⟨u, h1, h2⟩ := buildV_run (parts := parts) s.ev a.eval S.ev h
    exact ⟨u, .inl (by simp only [execOp, Sem.run_bind, h1, Result.andThen_ok, Sem.run_pure]), h2⟩
  · rename_i t x lo hi
    obtain ⟨u, h1, h2⟩ := slV_run h (S.ev x) (opt_ev S lo) (opt_ev S hi)
    exact ⟨u, .inl (by simp only [execOp, Sem.run_bind, Option.map_none, h1, Result.andThen_ok, Sem.run_pure]), h2⟩
  · rename_i t x
    split at h
    · rename_i tg k xs i off hx
      simp only [Option.bind_eq_some_iff] at h
      obtain ⟨y, hy, cs, hcs, h⟩ := h
      have hr := S.ev x
      rw [hx] at hr
      obtain ⟨u, h1, h2⟩ := ldEl_run hr hy hcs h
      exact ⟨u, .inl (by simp only [execOp, Sem.run_bind, h1, Result.andThen_ok, Sem.run_pure]), h2⟩
    · cases h
  · rename_i args argTypes
    split at h
    · rename_i x t hx ht
      obtain ⟨u, h1, h2⟩ := lenV_run (ty := type) h (S.ev x)
      have e1 : args = #[x] := by apply Array.ext'; simpa using hx
      have e2 : argTypes = #[t] := by apply Array.ext'; simpa using ht
      subst e1; subst e2
      refine ⟨u, .inl ?_, h2⟩
      simp only [execOp, resolve, Sem.run_bind, Sem.run_pure, Result.andThen_ok, invoke, builtin, List.map_toArray, List.map_cons, List.map_nil]
      rw [h1]; rfl
    · cases h
  · rename_i args argTypes
    split at h
    · rename_i x y hx
      obtain ⟨u, h1, h2⟩ := minmaxV_run (P := P) (at_ := argTypes) (ty := type) h (S.ev x) (S.ev y)
      have e1 : args = #[x, y] := by apply Array.ext'; simpa using hx
      subst e1
      refine ⟨u, .inl ?_, h2⟩
      simp only [execOp, resolve, Sem.run_bind, Sem.run_pure, Result.andThen_ok, invoke, builtin, List.map_toArray, List.map_cons, List.map_nil]
      simp only [if_true] at h1
      rw [h1]; rfl
    · cases h
  · rename_i args argTypes
    split at h
    · rename_i x y hx
      obtain ⟨u, h1, h2⟩ := minmaxV_run (P := P) (at_ := argTypes) (ty := type) h (S.ev x) (S.ev y)
      have e1 : args = #[x, y] := by apply Array.ext'; simpa using hx
      subst e1
      refine ⟨u, .inl ?_, h2⟩
      simp only [execOp, resolve, Sem.run_bind, Sem.run_pure, Result.andThen_ok, invoke, builtin, List.map_toArray, List.map_cons, List.map_nil]
      simp only [Bool.false_eq_true, if_false] at h1
      rw [h1]; rfl
    · cases h
  · cases h

theorem rv_does {o : Oper} {r : V} (h : rv P s o.op = some r) (S : Sim C s L a w) : ∃ u, Does P o a w u w ∧ Rep L w r u := by
  obtain ⟨dst, op, type, pos, after, guard⟩ := o
  simp only at h
  unfold rv at h
  split at h
  · rename_i t x
    split at h
    · rename_i b off hx
      have hr := S.ev x
      rw [hx] at hr
      obtain ⟨u, h1, h2⟩ := loadB_ok h S hr
      exact ⟨u, .inl (by simp only [execOp, Sem.run_bind, h1, Result.andThen_ok, Sem.run_pure]), h2⟩
    · cases h
  · cases h

theorem xv_does {o : Oper} {r : V} {s' : St} (h : xv P s o.op = some (r, s')) (S : Sim C s L a w) : ∃ u w' L', Does P o a w u w' ∧ Sim C s' L' a w' ∧ Rep L' w' r u := by
  obtain ⟨dst, op, type, pos, after, guard⟩ := o
  simp only at h
  unfold xv at h
  split at h
  · obtain ⟨u, w', L', h1, h2, h3⟩ := allocV_ok h S
    exact ⟨u, w', L', .inl (by simp only [execOp, Sem.run_bind, h1, Result.andThen_ok, Sem.run_pure]), h2, h3⟩
  · rename_i e x
    obtain ⟨u, w', L', h1, h2, h3⟩ := boxV_ok (P := P) (elem := e) h S (S.ev x)
    exact ⟨u, w', L', .inl (by simp only [execOp, Sem.run_bind, h1, Result.andThen_ok, Sem.run_pure]), h2, h3⟩
  · rename_i t len parts
    obtain ⟨u, w', L', h1, h2, h3⟩ := buildSliceV_ok (parts := parts) S h
    exact ⟨u, w', L', .inl (by simp only [execOp, Sem.run_bind, h1, Result.andThen_ok, Sem.run_pure]), h2, h3⟩
  · rename_i t x y
    have hx := S.ev x
    split at h
    · rename_i b off hb
      simp only [Option.map_eq_some_iff, Prod.mk.injEq] at h
      obtain ⟨s1, h, rfl, rfl⟩ := h
      rw [hb] at hx
      obtain ⟨w', h1, h2⟩ := storeB_ok h S hx (S.ev y)
      exact ⟨undef, w', L, .inr ⟨by simp only [execOp, Sem.run_bind, h1, Result.andThen_ok, Sem.run_pure], rfl⟩, h2, trivial⟩
    · rename_i id e k xs i off hb
      simp only [Option.map_eq_some_iff, Prod.mk.injEq] at h
      obtain ⟨s1, h, rfl, rfl⟩ := h
      rw [hb] at hx
      obtain ⟨w', h1, h2⟩ := storeE_ok h S hx (S.ev y)
      exact ⟨undef, w', L, .inr ⟨by simp only [execOp, Sem.run_bind, h1, Result.andThen_ok, Sem.run_pure], rfl⟩, h2, trivial⟩
    · cases h
  · rename_i t l c
    obtain ⟨u, w', L', h1, h2, h3⟩ := makeV_ok h S (S.ev l) (S.ev c)
    exact ⟨u, w', L', .inl (by simp only [execOp, Sem.run_bind, h1, Result.andThen_ok, Sem.run_pure]), h2, h3⟩
  · rename_i src dst' x
    simp only [Option.map_eq_some_iff, Prod.mk.injEq] at h
    obtain ⟨r', h, rfl, rfl⟩ := h
    obtain ⟨u, w', L', h1, h2, h3⟩ := strBytes_ok h S (S.ev x)
    exact ⟨u, w', L', .inl (by simp only [execOp, Sem.run_bind, h1, Result.andThen_ok, Sem.run_pure]), h2, h3⟩
  · rename_i args argTypes
    split at h
    · rename_i x y t t2 hx ht
      obtain ⟨u, w', L', h1, h2, h3⟩ := appendV_ok (ty := type) h S (S.ev x) (S.ev y)
      have e1 : args = #[x, y] := by apply Array.ext'; simpa using hx
      have e2 : argTypes = #[t, t2] := by apply Array.ext'; simpa using ht
      subst e1; subst e2
      refine ⟨u, w', L', .inl ?_, h2, h3⟩
      simp only [execOp, resolve, Sem.run_bind, Sem.run_pure, Result.andThen_ok, invoke, builtin, List.map_toArray, List.map_cons, List.map_nil]
      rw [h1]; rfl
    · cases h
  · cases h

theorem zv_does {o : Oper} {r : V} {s' : St} (h : zv P s o.op = some (r, s')) (S : Sim C s L a w) : ∃ u w' L', Does P o a w u w' ∧ Sim C s' L' a w' ∧ Rep L' w' r u := by
  obtain ⟨dst, op, type, pos, after, guard⟩ := o
  simp only at h
  unfold zv at h
  split at h
  · rename_i t x lo hi
    split at h
    · rename_i id e k xs hb
      simp only [Option.ite_none_right_eq_some, Bool.and_eq_true] at h
      obtain ⟨⟨h1, h2⟩, h⟩ := h
      have hx := S.ev x
      rw [hb] at hx
      have isC_of : ∀ (o : Option Operand), (o.map s.ev).all isC = true → ∀ x, o = some x → ∃ u, s.ev x = .c u := by
        rintro o ho x rfl
        simp only [Option.map_some, Option.all_some] at ho
        generalize s.ev x = v at ho
        cases v <;> simp only [isC, Bool.false_eq_true] at ho
        exact ⟨_, rfl⟩
      obtain ⟨u, L', h3, h4, h5⟩ := sliceOwn_ok h S hx (isC_of lo h1) (isC_of hi h2)
      exact ⟨u, w, L', .inl (by simp only [execOp, Sem.run_bind, Option.map_none, h3, Result.andThen_ok, Sem.run_pure]), h4, h5⟩
    · cases h
  · rename_i src dst' x
    obtain ⟨u, w', L', h1, h2, h3⟩ := sameSl_ok h S (S.ev x)
    exact ⟨u, w', L', .inl (by simp only [execOp, Sem.run_bind, h1, Result.andThen_ok, Sem.run_pure]), h2, h3⟩
  · cases h

theorem ownFree_append {l l' : List V} : ownFree (l ++ l') = (ownFree l && ownFree l') := by
  simp [ownFree, anyL_append]
theorem ownFree_mem {l : List V} (h : ownFree l = true) : ∀ v ∈ l, ownFree [v] = true := by
  induction l with
  | nil => intro v hv; cases hv
  | cons x xs ih =>
    simp only [ownFree, V.anyL, Bool.not_eq_eq_eq_not, Bool.not_true, Bool.or_eq_false_iff] at h
    intro v hv
    rcases List.mem_cons.1 hv with rfl | hv
    · simp [ownFree, V.anyL, h.1]
    · exact ih (by simp [ownFree, h.2]) v hv
theorem Reps.of {l : List V} {us : List Value} (h : Reps L w l us) (hf : ∀ v ∈ l, ∀ u, Rep L w v u → Rep L' w' v u) : Reps L' w' l us := by
  induction l generalizing us with
  | nil => exact h
  | cons x xs ih => obtain ⟨u, r, rfl, h2, h3⟩ := h; exact ⟨u, r, rfl, hf x (by simp) u h2, ih h3 (fun v hv => hf v (by simp [hv]))⟩

theorem enters_run {f : FuncId} (h : enters P f = true) (args : Array Value) : (callFunc f args).run P w = .ok (.enter f args) w := by
  unfold enters at h
  split at h
  · rename_i fn hf
    simp only [Bool.and_eq_true, Bool.not_eq_eq_eq_not, Bool.not_true] at h
    have hn : ¬ fn.name = "runtime.NumGoroutine" := by simpa using h.1
    have hb : ¬ fn.body = none := fun e => by rw [e] at h; simp at h
    simp [callFunc, hf, hn, hb]
  · cases h

/-- One operation is carried out. -/
theorem stepW_sound {o : Oper} {K : Kd → St → Prop} {next : Act → World → Prop} {Q : Exit → Act → World → Prop} (h : stepW P s o K) (S : Sim C s L a w) (hd : ∀ t, o.dst = some t → t < C.n)
    (hn : ∀ κ s' L' a' w', K κ s' → Sim C s' L' a' w' → next a' w') : o.wp P a w next Q := by
  unfold stepW at h
  split at h
  · rename_i f args argTypes heq
    unfold callW at h
    split at h
    · rename_i g fs cs hf
      obtain ⟨ids, r, hg, hown, href, hrr, hof, hK⟩ := h
      have hfv := S.ev f
      rw [hf] at hfv
      obtain ⟨af, ac, hfe, hrf, hrc⟩ := hfv
      obtain ⟨L1, S1, hfree⟩ := S.freezeAll ids
      rw [ownFree_append, Bool.and_eq_true] at hown
      have hrf' := hrf.of (fun v hv u h => hfree v u (ownFree_mem hown.1 v hv) h)
      have hrc' := hrc.of (fun v hv u h => hfree v u (ownFree_mem hown.2 v hv) h)
      have hargs : Reps L1 w (fs ++ args.toList.map (s.freezeAll ids).ev ++ cs) (af.toList ++ args.toList.map a.eval ++ ac.toList) := (hrf'.append (evs S1 args.toList)).append hrc'
      have hof' : (ownFree (fs ++ args.toList.map (s.freezeAll ids).ev ++ cs) || r.flat) = true := by
        rw [ownFree_append, ownFree_append, hown.1, hown.2]
        simpa using hof
      have hcall := call_step S1 hargs hg href hrr hof'
      have hexec : (execOp a.eval o).run P w = .ok (.enter g (af ++ args.map a.eval ++ ac)) w := by
        simp only [execOp, heq, resolve, hfe, Deferred.ofValue, Sem.run_bind, Sem.run_pure, Result.andThen_ok, invoke]
        exact enters_run hg.1 _
      unfold Oper.wp
      rw [hexec]
      simp only [Oper.upon]
      have e1 : (af.toList ++ args.toList.map a.eval ++ ac.toList).toArray = af ++ args.map a.eval ++ ac := by
        apply Array.ext'; simp
      rw [e1] at hcall
      refine hcall.mono ?_
      rintro e w' ⟨u, L2, rfl, S2, hr2⟩
      rw [freezeAll_nid] at S2 hr2
      exact hn _ _ _ _ _ hK (S2.put hr2 hd)
    · cases h
  · rcases h with h | h | h | h
    · unfold optQ at h
      split at h
      · rename_i r hr
        obtain ⟨u, h1, h2⟩ := qv_does hr S
        exact h1.wp (hn _ _ _ _ _ h (S.put h2 hd))
      · cases h
    · unfold optR at h
      split at h
      · rename_i r hr
        obtain ⟨u, h1, h2⟩ := rv_does hr S
        exact h1.wp (hn _ _ _ _ _ h (S.put h2 hd))
      · cases h
    · unfold optK at h
      split at h
      · rename_i r s' hr
        obtain ⟨u, w', L', h1, h2, h3⟩ := xv_does hr S
        exact h1.wp (hn _ _ _ _ _ h (h2.put h3 hd))
      · cases h
    · unfold optK at h
      split at h
      · rename_i r s' hr
        obtain ⟨u, w', L', h1, h2, h3⟩ := zv_does hr S
        exact h1.wp (hn _ _ _ _ _ h (h2.put h3 hd))
      · cases h

/-! ### A region in the text's order -/
def guardV (s : St) (dsts : List (Option Nat)) (j : Nat) : Option V :=
  match dsts[j]? with
  | some (some d) => some (s.env d)
  | _ => none

def wpL (P : Program) (dsts : List (Option Nat)) (K : St → Prop) : List Oper → St → Prop
  | [], s => K s
  | o :: rest, s =>
    match o.guard with
    | none => stepW P s o (fun _ => wpL P dsts K rest)
    | some (j, want) => match guardV s dsts j with
      | some (.c (.bool b)) => if b = want then stepW P s o (fun _ => wpL P dsts K rest) else wpL P dsts K rest (s.put o.dst .top)
      | _ => False

theorem guard_yielded {ops : Array Oper} {j : Nat} {b : Bool} (S : Sim C s L a w) (h : guardV s (ops.toList.map (·.dst)) j = some (.c (.bool b))) : yielded ops a.tmps j = some b := by
  unfold guardV at h
  split at h
  · rename_i d hd
    simp only [Option.some.injEq] at h
    simp only [List.getElem?_map, Option.map_eq_some_iff] at hd
    obtain ⟨o, ho, hod⟩ := hd
    simp only [Array.getElem?_toList] at ho
    have he := S.env d
    rw [h] at he
    simp only [Rep] at he
    have : a.tmps[d]? = some (.bool b) := by
      rcases Nat.lt_or_ge d a.tmps.size with hl | hl
      · simp only [Array.getD_eq_getD_getElem?, Array.getElem?_eq_getElem hl, Option.getD_some] at he ⊢
        rw [he]
      · simp [Array.getD_eq_getD_getElem?, Array.getElem?_eq_none hl, undef] at he
    simp [yielded, ho, hod, this]
  · cases h

theorem wpL_sound {ops : Array Oper} {K : St → Prop} {Q : Exit → Act → World → Prop} (hK : ∀ s' L' a' w', K s' → Sim C s' L' a' w' → Q .normal a' w') (l : List Oper) (hl : ∀ o ∈ l, ∀ t, o.dst = some t → t < C.n) :
    ∀ {s : St} {L : Lay} {a : Act} {w : World}, wpL P (ops.toList.map (·.dst)) K l s → Sim C s L a w → wpList P ops Q l a w := by
  induction l with
  | nil => intro s L a w h S; exact hK s L a w h S
  | cons o rest ih =>
    intro s L a w h S
    have hd := hl o (by simp)
    have ih' := @ih (fun o ho => hl o (by simp [ho]))
    unfold wpList
    unfold wpL at h
    split at h
    · rename_i hg
      rw [if_pos (by simp [Region.wanted, hg])]
      exact .inl (stepW_sound h S hd (fun _ s' L' a' w' h' S' => ih' h' S'))
    · rename_i j want hg
      split at h
      · rename_i b hb
        have hy := guard_yielded S hb
        split at h
        · rename_i hbw
          rw [if_pos (by simp [Region.wanted, hg, hy, hbw])]
          exact .inl (stepW_sound h S hd (fun _ s' L' a' w' h' S' => ih' h' S'))
        · rename_i hbw
          rw [if_neg (by simp [Region.wanted, hg, hy, hbw])]
          exact ih' h (S.putTop undef hd)
      · cases h
end
end Go.Pg
