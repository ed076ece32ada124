/-
  The pure layer: code, loops, and how a contract is got from a function's body.
-/
import Derived.Test.YtkgebocldjhflaaPgStep
namespace Go.Pg
open Go

/-- All temporaries that are written exist. -/
def opsFit (n : Nat) (ops : List Oper) : Bool := ops.all fun o => match o.dst with | some d => decide (d < n) | none => true
def fits (n : Nat) : Code → Bool
  | .region _ ops _ => opsFit n ops.toList
  | .seq x y => fits n x && fits n y
  | .cond _ x y => fits n x && fits n y
  | .block _ x => fits n x
  | .loop x => fits n x
  | .rangeFunc .. => false
  | .scope _ => false
  | .refuse _ => true
  | _ => true

/-- One state says less than another. -/
def Weak (s s' : St) : Prop := ∀ (C : Cx) (L : Lay) (a : Act) (w : World), Sim C s L a w → ∃ L', Sim C s' L' a w

def thenQ (k : St → Prop) (Q : Exit → St → Prop) : Exit → St → Prop
  | .normal, s => k s
  | e, s => Q e s

def inB (id : Nat) (Q : Exit → St → Prop) : Exit → St → Prop
  | .exit id', s => if id' = id then Q .normal s else Q (.exit id') s
  | e, s => Q e s

def condK (v : V) (x y : Prop) : Prop :=
  match v with
  | .c (.bool b) => if b = true then x else y
  | _ => False

/-- A loop: what holds at every round's head, and a number that goes down. -/
def LoopW (body : (Exit → St → Prop) → St → Prop) (Q : Exit → St → Prop) (s : St) : Prop :=
  ∃ (I : Nat → St → Prop) (n : Nat), (∃ s0, Weak s s0 ∧ I n s0) ∧ ∀ n s1, I n s1 → body (thenQ (fun s2 => ∃ m s3, m < n ∧ Weak s2 s3 ∧ I m s3) Q) s1

/-- A region that draws its order: laid later. -/
def wpS (D : Program → Array Oper → (St → Prop) → St → Prop) (P : Program) : Code → (Exit → St → Prop) → St → Prop
  | .skip, Q, s => Q .normal s
  | .region _ ops draw, Q, s => if draw = true then D P ops (Q .normal) s else wpL P (ops.toList.map (·.dst)) (Q .normal) ops.toList s
  | .seq x y, Q, s => wpS D P x (thenQ (fun s' => wpS D P y Q s') Q) s
  | .cond c x y, Q, s => condK (s.ev c) (wpS D P x Q s) (wpS D P y Q s)
  | .block id x, Q, s => wpS D P x (inB id Q) s
  | .loop x, Q, s => LoopW (fun Q s => wpS D P x Q s) Q s
  | .exit id, Q, s => Q (.exit id) s
  | .label _, Q, s => Q .normal s
  | .goto l, Q, s => Q (.goto l) s
  | .ret, Q, s => Q .ret s
  | _, _, _ => False

def Lift (C : Cx) (Q : Exit → St → Prop) : Exit → Act → World → Prop := fun e a w => ∃ s L, Q e s ∧ Sim C s L a w

/-- What a rule for regions that draw their order must bear. -/
def DrawOk (P : Program) (D : Program → Array Oper → (St → Prop) → St → Prop) : Prop :=
  ∀ (id : Nat) (C : Cx) (ops : Array Oper) (K : St → Prop) (Q : Exit → St → Prop) (s : St) (L : Lay) (a : Act) (w : World), opsFit C.n ops.toList = true → Q .normal = K → D P ops K s → Sim C s L a w → (Code.region id ops true).wp P (Lift C Q) a w

theorem opsFit_all {n : Nat} {ops : List Oper} (h : opsFit n ops = true) : ∀ o ∈ ops, ∀ t, o.dst = some t → t < n := by
  intro o ho t ht
  have := List.all_eq_true.1 h o ho
  rw [ht] at this
  simpa using this

section
variable {P : Program} {D : Program → Array Oper → (St → Prop) → St → Prop} {C : Cx}

theorem wpS_sound (hD : DrawOk P D) (c : Code) : ∀ {Q : Exit → St → Prop} {s : St} {L : Lay} {a : Act} {w : World}, wpS D P c Q s → fits C.n c = true → Sim C s L a w → c.wp P (Lift C Q) a w := by
  induction c with
  | skip => intro Q s L a w h _ S; exact wp_skip ⟨s, L, h, S⟩
  | region id ops draw =>
    intro Q s L a w h hf S
    simp only [wpS] at h
    cases draw with
    | true => exact hD id C ops (Q .normal) Q s L a w hf rfl h S
    | false =>
      simp only [Bool.false_eq_true, if_false] at h
      exact wp_region_list (wpL_sound (K := Q .normal) (fun s' L' a' w' h' S' => ⟨s', L', h', S'⟩) ops.toList (opsFit_all hf) h S)
  | seq x y ihx ihy =>
    intro Q s L a w h hf S
    simp only [fits, Bool.and_eq_true] at hf
    refine wp_seq (Code.wp_mono ?_ (ihx h hf.1 S))
    rintro e a' w' ⟨s', L', h', S'⟩
    cases e with
    | normal => exact ihy h' hf.2 S'
    | _ => exact ⟨s', L', h', S'⟩
  | cond c x y ihx ihy =>
    intro Q s L a w h hf S
    simp only [fits, Bool.and_eq_true] at hf
    simp only [wpS, condK] at h
    split at h
    · rename_i b hb
      have hc := S.ev c
      rw [hb] at hc
      simp only [Rep] at hc
      refine wp_cond hc ?_
      cases b with
      | true => exact ihx (by simpa using h) hf.1 S
      | false => exact ihy (by simpa using h) hf.2 S
    · cases h
  | block id x ih =>
    intro Q s L a w h hf S
    refine wp_block (Code.wp_mono ?_ (ih h hf S))
    rintro e a' w' ⟨s', L', h', S'⟩
    cases e with
    | exit id' =>
      simp only [inB] at h'
      simp only [Exit.inBlock]
      split at h'
      · rename_i hi; rw [if_pos hi]; exact ⟨s', L', h', S'⟩
      · rename_i hi; rw [if_neg hi]; exact ⟨s', L', h', S'⟩
    | _ => exact ⟨s', L', h', S'⟩
  | loop x ih =>
    intro Q s L a w h hf S
    obtain ⟨I, n, ⟨s0, hw0, h0⟩, hround⟩ := h
    obtain ⟨L0, S0⟩ := hw0 C L a w S
    have key : ∀ n s L a w, I n s → Sim C s L a w → ∀ (b : Frame) (k : List Item) (cs : List Frame),
        ∃ e a' w', Lift C Q e a' w' ∧ Arrives P (lone (b.at a (.code x :: .inLoop x :: k)) cs w) b k cs e a' w' := by
      intro n
      induction n using Nat.strongRecOn with
      | _ n ihn =>
        intro s L a w hI S b k cs
        obtain ⟨e, a₁, w₁, ⟨s1, L1, hq, S1⟩, harr⟩ := ih (hround n s hI) hf S b (.inLoop x :: k) cs
        cases e with
        | normal =>
          obtain ⟨m, s3, hlt, hw, hI3⟩ := hq
          obtain ⟨L3, S3⟩ := hw C L1 a₁ w₁ S1
          obtain ⟨e₂, a₂, w₂, hq₂, harr₂⟩ := ihn m hlt s3 L3 a₁ w₁ hI3 S3 b k cs
          exact ⟨e₂, a₂, w₂, hq₂, .of_steps (Steps.trans harr (.one step_inLoop)) harr₂⟩
        | exit id => exact ⟨_, a₁, w₁, ⟨s1, L1, hq, S1⟩, .pass (x := .inLoop x) rfl (fun _ _ => .inl (by simp)) harr⟩
        | goto l => exact ⟨_, a₁, w₁, ⟨s1, L1, hq, S1⟩, .pass (x := .inLoop x) rfl (fun _ _ => .inl (by simp)) harr⟩
        | ret => exact ⟨_, a₁, w₁, ⟨s1, L1, hq, S1⟩, .pass (x := .inLoop x) rfl (fun _ _ => .inl (by simp)) harr⟩
        | panic ch => exact ⟨_, a₁, w₁, ⟨s1, L1, hq, S1⟩, .pass (x := .inLoop x) rfl (fun _ _ => .inl (by simp)) harr⟩
        | outgrown => exact ⟨_, a₁, w₁, ⟨s1, L1, hq, S1⟩, .pass (x := .inLoop x) rfl (fun _ _ => .inl (by simp)) harr⟩
    intro b k cs
    obtain ⟨e, a', w', hq, harr⟩ := key n s0 L0 a w h0 S0 b k cs
    exact ⟨e, a', w', hq, .of_steps (.one step_loop) harr⟩
  | exit id => intro Q s L a w h _ S; exact wp_exit ⟨s, L, h, S⟩
  | label l => intro Q s L a w h _ S; exact wp_label ⟨s, L, h, S⟩
  | goto l => intro Q s L a w h _ S; exact wp_goto ⟨s, L, h, S⟩
  | ret => intro Q s L a w h _ S; exact wp_ret ⟨s, L, h, S⟩
  | rangeFunc => intro Q s L a w h; exact h.elim
  | scope => intro Q s L a w h; exact h.elim
  | refuse => intro Q s L a w h; exact h.elim

/-! ### From the body to the contract -/
def initE : List V → Nat → Nat → V
  | [], _ => fun _ => .top
  | x :: xs, k => upd (initE xs (k + 1)) k x
def initS (args : List V) : St := { env := initE args 0, bx := fun _ => none, nid := 0 }

/-- One result. -/
def resV (P : Program) (s : St) : ResultVar → Option V
  | .tmp t => some (s.env t)
  | .cell a t => match s.env a with | .ref b off => loadB P s t b off | _ => none

def retV (P : Program) (s : St) (rs : List ResultVar) : Option V :=
  match rs with
  | [r] => resV P s r
  | rs => (rs.mapM (resV P s)).map .tup

def Tag.notIn (l : List Nat) : Tag → Bool
  | .fz => false
  | .own id _ => !l.contains id
/-- The names in 'l', counted through. -/
def renT (l : List Nat) : Tag → Tag
  | .fz => .fz
  | .own id e => .own (l.idxOf id) e

def retQ (P : Program) (rs : List ResultVar) (r : V) : Exit → St → Prop := fun e s =>
  match e with
  | .normal | .ret => ∃ r0 l, retV P s rs = some r0 ∧ List.Nodup l ∧ r0.any (Tag.notIn l) (fun _ => true) false = false ∧ r0.map (renT l) id = r
  | _ => False

theorem initE_rep {L : Lay} {w : World} : ∀ (args : List V) (us : List Value) (k : Nat) (rest : List Value), Reps L w args us → ∀ (pre : List Value), pre.length = k → ∀ t, Rep L w (initE args k t) ((pre ++ us ++ rest).toArray.getD t undef) := by
  intro args
  induction args with
  | nil => intro us k rest _ pre _ t; trivial
  | cons x xs ih =>
    rintro us k rest ⟨u, r, rfl, h2, h3⟩ pre hk t
    simp only [initE, upd]
    split
    · rename_i ht
      subst ht
      have : (pre ++ (u :: r) ++ rest).toArray.getD t undef = u := by
        simp [Array.getD_eq_getD_getElem?, ← hk]
      rw [this]; exact h2
    · have := ih r (k + 1) rest h3 (pre ++ [u]) (by simp [hk]) t
      simpa using this

/-- One result, in the model. -/
def resE (a : Act) : ResultVar → Sem Value
  | .tmp t => pure (a.tmps.getD t undef)
  | .cell b t => do loadVar t (← asAddr (a.tmps.getD b undef))

theorem results_run {fn : Func} {s : St} {L : Lay} {a : Act} {w : World} {rs : List ResultVar} {r : V} (hrs : fn.results = rs.toArray) (h : retV P s rs = some r) (S : Sim C s L a w) :
    ∃ u, (results fn a.tmps).run P w = .ok u w ∧ Rep L w r u := by
  have one : ∀ x v, resV P s x = some v → ∃ u, (resE a x).run P w = .ok u w ∧ Rep L w v u := by
    intro x v hx
    cases x with
    | tmp t =>
      simp only [resV, Option.some.injEq] at hx
      subst hx
      exact ⟨_, rfl, S.env t⟩
    | cell b t =>
      simp only [resV] at hx
      split at hx
      · rename_i b' off hb
        have hr := S.env b
        rw [hb] at hr
        obtain ⟨u, h1, h2⟩ := loadB_ok hx S hr
        obtain ⟨g, h3, h4⟩ := hr
        refine ⟨u, ?_, h2⟩
        rw [h4] at h1
        simp only [resE, h4]
        simpa [Instr.loadAt, Instr.sureAddr, asAddr] using h1
      · cases hx
  have many : ∀ (l : List ResultVar) (vs : List V), l.mapM (resV P s) = some vs → ∃ us, (l.mapM (resE a)).run P w = .ok us w ∧ Reps L w vs us := by
    intro l
    induction l with
    | nil => intro vs h; simp at h; subst h; exact ⟨[], rfl, rfl⟩
    | cons x xs ih =>
      intro vs h
      simp only [List.mapM_cons, Option.bind_eq_bind, Option.bind_eq_some_iff, Option.pure_def, Option.some.injEq] at h
      obtain ⟨v, hv, vs', hvs, rfl⟩ := h
      obtain ⟨u, h1, h2⟩ := one x v hv
      obtain ⟨us, h3, h4⟩ := ih vs' hvs
      refine ⟨u :: us, ?_, u, us, rfl, h2, h4⟩
      rw [List.mapM_cons, Sem.run_bind, h1]
      simp only [Result.andThen_ok, Sem.run_bind, h3, Sem.run_pure]
  have hres : ∀ (us : List Value), (rs.mapM (resE a)).run P w = .ok us w →
      (results fn a.tmps).run P w = .ok (if h : us.toArray.size = 1 then us.toArray[0] else .tuple us.toArray) w := by
    intro us hus
    have e : results fn a.tmps = (do let vs ← rs.toArray.mapM (resE a); pure (if h : vs.size = 1 then vs[0] else .tuple vs)) := by
      unfold results
      rw [hrs]
      rfl
    rw [e, Array.mapM_eq_mapM_toList, Sem.run_bind, Sem.run_map, hus]
    rfl
  unfold retV at h
  split at h
  · rename_i x
    obtain ⟨u, h1, h2⟩ := one x r h
    refine ⟨u, ?_, h2⟩
    rw [hres [u] (by rw [List.mapM_cons, Sem.run_bind, h1]; rfl)]
    rfl
  · rename_i hne
    simp only [Option.map_eq_some_iff] at h
    obtain ⟨vs, hvs, rfl⟩ := h
    obtain ⟨us, h1, h2⟩ := many rs vs hvs
    have hl : us.toArray.size ≠ 1 := by
      have e1 := h2.length
      have e2 : vs.length = rs.length := by
        have : ∀ (l : List ResultVar) (vs : List V), l.mapM (resV P s) = some vs → vs.length = l.length := by
          intro l
          induction l with
          | nil => intro vs h; simp at h; simp [h]
          | cons x xs ih =>
            intro vs h
            simp only [List.mapM_cons, Option.bind_eq_bind, Option.bind_eq_some_iff, Option.pure_def, Option.some.injEq] at h
            obtain ⟨v, hv, vs', hvs, rfl⟩ := h
            simp [ih vs' hvs]
        exact this rs vs hvs
      simp only [List.size_toArray]
      intro h1
      rw [e1, e2] at h1
      match rs, h1, hne with
      | [x], _, hne => exact hne x rfl
    refine ⟨.tuple us.toArray, ?_, us.toArray, rfl, by simpa using h2⟩
    rw [hres us h1, dif_neg hl]

theorem idxOf_get (l : List Nat) (i : Nat) (h : i ∈ l) : l[l.idxOf i]? = some i := by
  induction l with
  | nil => cases h
  | cons x xs ih =>
    by_cases hx : x = i
    · subst hx; simp
    · have : i ∈ xs := by simpa [Ne.symm hx] using h
      rw [List.idxOf_cons]
      have hb : (x == i) = false := by simpa using hx
      rw [hb]
      simpa using ih this

theorem good_intro (hD : DrawOk P D) {f : FuncId} {fn : Func} {c : Code} {rs : List ResultVar} {args : List V} {r : V} (hf : P.funcs[f]? = some fn) (hb : fn.body = some c) (hrs : fn.results = rs.toArray) (hn : (fn.name == "runtime.NumGoroutine") = false)
    (hfit : fits fn.ntmps c = true) (hlen : args.length ≤ fn.ntmps) (h : wpS D P c (retQ P rs r) (initS args)) : Good P f args r := by
  refine ⟨by simp [enters, hf, hb, hn], fun A w cargs hA hargs => ?_⟩
  let C : Cx := { n := fn.ntmps, A0 := A, Wr := fun _ => False, w0 := w }
  have hl := hargs.length
  have S : Sim C (initS args) ⟨A, fun _ => none, fun _ => none⟩ { tmps := cargs.toArray ++ Array.replicate (fn.ntmps - cargs.toArray.size) undef, defers := [] } w := by
    refine ⟨rfl, by simp [C]; omega, fun t => ?_, fun b cs h => by simp [initS] at h, ?_, Kp.refl _ _ _⟩
    · have := initE_rep args cargs 0 (List.replicate (fn.ntmps - cargs.length) undef) hargs [] rfl t
      have e : (cargs ++ List.replicate (fn.ntmps - cargs.length) undef).toArray = cargs.toArray ++ Array.replicate (fn.ntmps - cargs.toArray.size) undef := by
        apply Array.ext'; simp
      rw [List.nil_append, e] at this
      exact this
    · exact {
        nidO := fun _ _ h => by cases h
        nidB := fun _ _ h => by cases h
        own := fun _ _ h => by cases h
        boxW := fun _ _ h => by cases h
        injO := fun _ _ _ h => by cases h
        injB := fun _ _ _ h => by cases h
        dis := fun _ _ _ h => by cases h
        old := hA
        frz := fun g h => .inl h }
  refine calls_of_wp hf hb (Code.wp_mono ?_ (wpS_sound hD c h hfit S))
  rintro e a' w' ⟨s', L', hq, S'⟩
  have fin : (∃ r0 l, retV P s' rs = some r0 ∧ List.Nodup l ∧ r0.any (Tag.notIn l) (fun _ => true) false = false ∧ r0.map (renT l) id = r) → a'.defers = [] ∧ ∃ v, (results fn a'.tmps).run P w' = .ok v w' ∧ ∃ u L, Ending.returned v = .returned u ∧ Rep L w' r u ∧ Kp (fun _ => False) w.heap.size w w' ∧ ResLay A w w' L := by
    rintro ⟨r0, l, h1, hnd, h2, rfl⟩
    obtain ⟨u, h3, h4⟩ := results_run hrs h1 S'
    let L2 : Lay := { A := L'.A, own := fun j => (l[j]?).bind L'.own, box := fun _ => none }
    have K : Trans (Tag.notIn l) (fun _ => true) (renT l) id L' L2 w' w' := by
      refine ⟨rfl, fun g h => ⟨h, .of rfl⟩, fun i e hi g h => ⟨⟨rfl, ?_⟩, rfl⟩, fun b hb => by simp at hb⟩
      have hm : i ∈ l := by simpa [Tag.notIn] using hi
      simp only [L2, idxOf_get l i hm, Option.bind_some, h]
    refine ⟨S'.defers, u, h3, u, L2, rfl, h4.trans rfl K h2, S'.kp, ?_, ?_, ?_⟩
    · intro g hg
      rcases S'.wf.frz g hg with h | h | h
      · exact .inl h
      · exact .inr ⟨h, S'.wf.old g hg⟩
      · exact h.elim
    · intro j g hg
      simp only [L2, Option.bind_eq_some_iff] at hg
      obtain ⟨i, hi, hg⟩ := hg
      obtain ⟨h5, h6, h7⟩ := S'.wf.own i g hg
      exact ⟨h6.elim id (fun h => h.elim), h5, h7⟩
    · intro i j g hi hj
      simp only [L2, Option.bind_eq_some_iff] at hi hj
      obtain ⟨i', hi', hi⟩ := hi
      obtain ⟨j', hj', hj⟩ := hj
      have := S'.wf.injO i' j' g hi hj
      subst this
      have hil := (List.getElem?_eq_some_iff.1 hi').1
      exact (List.getElem?_inj hil hnd).1 (hi'.trans hj'.symm)
  cases e with
  | normal => exact fin hq
  | ret => exact fin hq
  | _ => exact hq.elim
end
end Go.Pg
