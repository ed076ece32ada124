/-
  Texts of this claim, merged; own names are short.
-/
import Derived.Test.YtaoejnjkmfkbeaaGreatWAG
set_option linter.unusedVariables false
set_option linter.unusedSimpArgs false
set_option linter.unusedSectionVars false
set_option linter.defProp false
set_option maxRecDepth 100000
set_option maxHeartbeats 8000000
section
namespace Go.Pg
open Go
def DJ (n : Nat) (ops : List Oper) : Bool := ops.all fun o => match o.dst with | some d => decide (d < n) | none => true
def ut (n : Nat) : Code → Bool
 | .region _ ops _ => DJ n ops.toList
 | .seq x y => ut n x && ut n y
 | .cond _ x y => ut n x && ut n y
 | .block _ x => ut n x
 | .loop x => ut n x
 | .rangeFunc .. => false
 | .scope _ => false
 | .refuse _ => true
 | _ => true
def Weak (s s' : St) : Prop := ∀ (C : Cx) (L : Lay) (a : Act) (w : World), Sim C s L a w → ∃ L', Sim C s' L' a w
def oJ (k : St → Prop) (Q : Exit → St → Prop) : Exit → St → Prop
 | .normal, s => k s
 | e, s => Q e s
def inB (id : Nat) (Q : Exit → St → Prop) : Exit → St → Prop
 | .exit id', s => if id' = id then Q .normal s else Q (.exit id') s
 | e, s => Q e s
def Ad (v : V) (x y : Prop) : Prop :=
 match v with
 | .c (.bool b) => if b = true then x else y
 | _ => False
def U5 (body : (Exit → St → Prop) → St → Prop) (Q : Exit → St → Prop) (s : St) : Prop :=
 ∃ (I : Nat → St → Prop) (n : Nat), (∃ s0, Weak s s0 ∧ I n s0) ∧ ∀ n s1, I n s1 → body (oJ (fun s2 => ∃ m s3, m < n ∧ Weak s2 s3 ∧ I m s3) Q) s1
structure Dw where
 d : (P : Program) → [Tb P] → Array Oper → (St → Prop) → St → Prop
 cuts : List Nat
def fF : Code → Option Nat
 | .region id _ _ => some id
 | .seq x _ => fF x
 | .block _ x => fF x
 | .loop x => fF x
 | _ => none
def jG (cuts : List Nat) (r : Option Nat) : Bool := match r with | some n => cuts.contains n | none => false
def Vl (k : St → Prop) (s : St) : Prop := ∃ s', Weak s s' ∧ k s'
def wpS (D : Dw) (P : Program) [Tb P] : Code → (Exit → St → Prop) → St → Prop
 | .skip, Q, s => Q .normal s
 | .region _ ops draw, Q, s => if draw = true then D.d P ops (Q .normal) s else wpL P (ops.toList.map (·.dst)) (Q .normal) ops.toList s
 | .seq x y, Q, s => wpS D P x (oJ (bif jG D.cuts (fF y) then Vl (fun s' => wpS D P y Q s') else fun s' => wpS D P y Q s') Q) s
 | .cond c x y, Q, s => Ad (s.ev c) (wpS D P x Q s) (wpS D P y Q s)
 | .block id x, Q, s => wpS D P x (inB id Q) s
 | .loop x, Q, s => U5 (fun Q s => wpS D P x Q s) Q s
 | .exit id, Q, s => Q (.exit id) s
 | .label _, Q, s => Q .normal s
 | .goto l, Q, s => Q (.goto l) s
 | .ret, Q, s => Q .ret s
 | _, _, _ => False
def Vm (C : Cx) (Q : Exit → St → Prop) : Exit → Act → World → Prop := fun e a w => ∃ s L, Q e s ∧ Sim C s L a w
def jh (P : Program) [Tb P] (D : Dw) : Prop :=
 ∀ (id : Nat) (C : Cx) (ops : Array Oper) (K : St → Prop) (Q : Exit → St → Prop) (s : St) (L : Lay) (a : Act) (w : World), C.TOk P → DJ C.n ops.toList = true → Q .normal = K → D.d P ops K s → Sim C s L a w → (Code.region id ops true).wp P (Vm C Q) a w
theorem ji {n : Nat} {ops : List Oper} (h : DJ n ops = true) : ∀ o ∈ ops, ∀ t, o.dst = some t → t < n := by
 intro o ho t ht
 have := List.all_eq_true.1 h o ho
 rw [ht] at this
 simpa using this
section
variable {P : Program} [Tb P] {D : Dw} {C : Cx}
theorem HY (hD : jh P D) (hT : C.TOk P) (c : Code) : ∀ {Q : Exit → St → Prop} {s : St} {L : Lay} {a : Act} {w : World}, wpS D P c Q s → ut C.n c = true → Sim C s L a w → c.wp P (Vm C Q) a w := by
 induction c with
 | skip => intro Q s L a w h _ S; exact wp_skip ⟨s, L, h, S⟩
 | region id ops draw =>
  intro Q s L a w h hf S
  simp only [wpS] at h
  cases draw with
  | true => exact hD id C ops (Q .normal) Q s L a w hT hf rfl h S
  | false =>
   simp only [Bool.false_eq_true, if_false] at h
   exact wp_region_list (Hz hT (K := Q .normal) (fun s' L' a' w' h' S' => ⟨s', L', h', S'⟩) ops.toList (ji hf) h S)
 | seq x y ihx ihy =>
  intro Q s L a w h hf S
  simp only [ut, Bool.and_eq_true] at hf
  refine wp_seq (Code.wp_mono ?_ (ihx h hf.1 S))
  rintro e a' w' ⟨s', L', h', S'⟩
  cases e with
  | normal =>
   simp only [oJ] at h'
   cases hc : jG D.cuts (fF y) with
   | true =>
    rw [hc] at h'
    obtain ⟨s2, hw, h2⟩ := h'
    obtain ⟨L2, S2⟩ := hw C L' a' w' S'
    exact ihy h2 hf.2 S2
   | false => rw [hc] at h'; exact ihy h' hf.2 S'
  | _ => exact ⟨s', L', h', S'⟩
 | cond c x y ihx ihy =>
  intro Q s L a w h hf S
  simp only [ut, Bool.and_eq_true] at hf
  simp only [wpS, Ad] at h
  split at h
  ·rename_i b hb
   have hc := S.ev c
   rw [hb] at hc
   simp only [Rep] at hc
   refine wp_cond hc ?_
   cases b with
   | true => exact ihx (by simpa using h) hf.1 S
   | false => exact ihy (by simpa using h) hf.2 S
  ·cases h
 | block id x ih =>
  intro Q s L a w h hf S
  refine wp_block (Code.wp_mono ?_ (ih h hf S))
  rintro e a' w' ⟨s', L', h', S'⟩
  cases e with
  | exit id' =>
   simp only [inB] at h'
   simp only [Exit.inBlock]
   split at h'
   ·rename_i hi; rw [if_pos hi]; exact ⟨s', L', h', S'⟩
   ·rename_i hi; rw [if_neg hi]; exact ⟨s', L', h', S'⟩
  | _ => exact ⟨s', L', h', S'⟩
 | loop x ih =>
  intro Q s L a w h hf S
  obtain ⟨I, n, ⟨s0, hw0, h0⟩, hround⟩ := h
  obtain ⟨L0, S0⟩ := hw0 C L a w S
  have key : ∀ n s L a w, I n s → Sim C s L a w → ∀ (b : Frame) (k : List Item) (cs : List Frame),
    ∃ e a' w', Vm C Q e a' w' ∧ Arrives P (lone (b.at a (.code x :: .inLoop x :: k)) cs w) b k cs e a' w' := by
   intro n
   induction n using Nat.strongRecOn with
   | _ n ihn =>
    intro s L a w hI S b k cs
    obtain ⟨e, a₁, w₁, ⟨s1, L1, hq, S1⟩, harr⟩ := ih (hround n s hI) hf S b (.inLoop x :: k) cs
    cases e with
    | normal =>
     obtain ⟨m, s3, hlt, hw, hI3⟩ := hq
     obtain ⟨L3, S3⟩ := hw C L1 a₁ w₁ S1
     obtain ⟨e₂, a₂, w₂, hq₂, harr₂⟩ := ihn m hlt s3 L3 a₁ w₁ hI3 S3 b k cs
     exact ⟨e₂, a₂, w₂, hq₂, .of_steps (Steps.trans harr (.one step_inLoop)) harr₂⟩
    | exit id => exact ⟨_, a₁, w₁, ⟨s1, L1, hq, S1⟩, .pass (x := .inLoop x) rfl (fun _ _ => .inl (by simp)) harr⟩
    | goto l => exact ⟨_, a₁, w₁, ⟨s1, L1, hq, S1⟩, .pass (x := .inLoop x) rfl (fun _ _ => .inl (by simp)) harr⟩
    | ret => exact ⟨_, a₁, w₁, ⟨s1, L1, hq, S1⟩, .pass (x := .inLoop x) rfl (fun _ _ => .inl (by simp)) harr⟩
    | panic ch => exact ⟨_, a₁, w₁, ⟨s1, L1, hq, S1⟩, .pass (x := .inLoop x) rfl (fun _ _ => .inl (by simp)) harr⟩
    | outgrown => exact ⟨_, a₁, w₁, ⟨s1, L1, hq, S1⟩, .pass (x := .inLoop x) rfl (fun _ _ => .inl (by simp)) harr⟩
  intro b k cs
  obtain ⟨e, a', w', hq, harr⟩ := key n s0 L0 a w h0 S0 b k cs
  exact ⟨e, a', w', hq, .of_steps (.one step_loop) harr⟩
 | exit id => intro Q s L a w h _ S; exact wp_exit ⟨s, L, h, S⟩
 | label l => intro Q s L a w h _ S; exact wp_label ⟨s, L, h, S⟩
 | goto l => intro Q s L a w h _ S; exact wp_goto ⟨s, L, h, S⟩
 | ret => intro Q s L a w h _ S; exact wp_ret ⟨s, L, h, S⟩
 | rangeFunc => intro Q s L a w h; exact h.elim
 | scope => intro Q s L a w h; exact h.elim
 | refuse => intro Q s L a w h; exact h.elim
def mX : List V → Nat → Nat → V
 | [], _ => fun _ => .top
 | x :: xs, k => upd (mX xs (k + 1)) k x
def Ae (args : List V) : St := { env := mX args 0, bx := fun _ => none, nid := 0 }
def jX (P : Program) (s : St) : ResultVar → Option V
 | .tmp t => some (s.env t)
 | .cell a t => match s.env a with | .ref b off => iy P s t b off | _ => none
def lH (P : Program) (s : St) (rs : List ResultVar) : Option V :=
 match rs with
 | [r] => jX P s r
 | rs => (rs.mapM (jX P s)).map .tup
def Tag.notIn (l : List Nat) : Tag → Bool
 | .fz => false
 | .nn => false
 | .own id _ => !l.contains id
def jk (l : List Nat) : Tag → Tag
 | .fz => .fz
 | .nn => .nn
 | .own id e => .own (l.idxOf id) e
def Q7 (P : Program) (rs : List ResultVar) (r : V) : Exit → St → Prop := fun e s =>
 match e with
 | .normal | .ret => ∃ r0 l, lH P s rs = some r0 ∧ List.Nodup l ∧ r0.any (Tag.notIn l) (fun _ => true) false = false ∧ r0.map (jk l) id = r
 | _ => False
theorem H5 {L : Lay} {w : World} : ∀ (args : List V) (us : List Value) (k : Nat) (rest : List Value), Reps L w args us → ∀ (pre : List Value), pre.length = k → ∀ t, Rep L w (mX args k t) ((pre ++ us ++ rest).toArray.getD t undef) := by
 intro args
 induction args with
 | nil => intro us k rest _ pre _ t; trivial
 | cons x xs ih =>
  rintro us k rest ⟨u, r, rfl, h2, h3⟩ pre hk t
  simp only [mX, upd]
  split
  ·rename_i ht
   subst ht
   have : (pre ++ (u :: r) ++ rest).toArray.getD t undef = u := by
    simp [Array.getD_eq_getD_getElem?, ← hk]
   rw [this]; exact h2
  ·have := ih r (k + 1) rest h3 (pre ++ [u]) (by simp [hk]) t
   simpa using this
def Lr (a : Act) : ResultVar → Sem Value
 | .tmp t => pure (a.tmps.getD t undef)
 | .cell b t => do loadVar t (← asAddr (a.tmps.getD b undef))
theorem Af {fn : Func} {s : St} {L : Lay} {a : Act} {w : World} {rs : List ResultVar} {r : V} (hrs : fn.results = rs.toArray) (h : lH P s rs = some r) (S : Sim C s L a w) :
  ∃ u, (results fn a.tmps).run P w = .ok u w ∧ Rep L w r u := by
 have one : ∀ x v, jX P s x = some v → ∃ u, (Lr a x).run P w = .ok u w ∧ Rep L w v u := by
  intro x v hx
  cases x with
  | tmp t =>
   simp only [jX, Option.some.injEq] at hx
   subst hx
   exact ⟨_, rfl, S.env t⟩
  | cell b t =>
   simp only [jX] at hx
   split at hx
   ·rename_i b' off hb
    have hr := S.env b
    rw [hb] at hr
    obtain ⟨u, h1, h2⟩ := tH hx S hr
    obtain ⟨g, h3, h4⟩ := hr
    refine ⟨u, ?_, h2⟩
    rw [h4] at h1
    simp only [Lr, h4]
    simpa [Instr.loadAt, Instr.sureAddr, asAddr] using h1
   ·cases hx
 have many : ∀ (l : List ResultVar) (vs : List V), l.mapM (jX P s) = some vs → ∃ us, (l.mapM (Lr a)).run P w = .ok us w ∧ Reps L w vs us := by
  intro l
  induction l with
  | nil => intro vs h; simp at h; subst h; exact ⟨[], rfl, rfl⟩
  | cons x xs ih =>
   intro vs h
   simp only [List.mapM_cons, Option.bind_eq_bind, Option.bind_eq_some_iff, Option.pure_def, Option.some.injEq] at h
   obtain ⟨v, hv, vs', hvs, rfl⟩ := h
   obtain ⟨u, h1, h2⟩ := one x v hv
   obtain ⟨us, h3, h4⟩ := ih vs' hvs
   refine ⟨u :: us, ?_, u, us, rfl, h2, h4⟩
   rw [List.mapM_cons, Sem.run_bind, h1]
   simp only [Result.andThen_ok, Sem.run_bind, h3, Sem.run_pure]
 have hres : ∀ (us : List Value), (rs.mapM (Lr a)).run P w = .ok us w →
   (results fn a.tmps).run P w = .ok (if h : us.toArray.size = 1 then us.toArray[0] else .tuple us.toArray) w := by
  intro us hus
  have e : results fn a.tmps = (do let vs ← rs.toArray.mapM (Lr a); pure (if h : vs.size = 1 then vs[0] else .tuple vs)) := by
   unfold results
   rw [hrs]
   rfl
  rw [e, Array.mapM_eq_mapM_toList, Sem.run_bind, Sem.run_map, hus]
  rfl
 unfold lH at h
 split at h
 ·rename_i x
  obtain ⟨u, h1, h2⟩ := one x r h
  refine ⟨u, ?_, h2⟩
  rw [hres [u] (by rw [List.mapM_cons, Sem.run_bind, h1]; rfl)]
  rfl
 ·rename_i hne
  simp only [Option.map_eq_some_iff] at h
  obtain ⟨vs, hvs, rfl⟩ := h
  obtain ⟨us, h1, h2⟩ := many rs vs hvs
  have hl : us.toArray.size ≠ 1 := by
   have e1 := h2.length
   have e2 : vs.length = rs.length := by
    have : ∀ (l : List ResultVar) (vs : List V), l.mapM (jX P s) = some vs → vs.length = l.length := by
     intro l
     induction l with
     | nil => intro vs h; simp at h; simp [h]
     | cons x xs ih =>
      intro vs h
      simp only [List.mapM_cons, Option.bind_eq_bind, Option.bind_eq_some_iff, Option.pure_def, Option.some.injEq] at h
      obtain ⟨v, hv, vs', hvs, rfl⟩ := h
      simp [ih vs' hvs]
    exact this rs vs hvs
   simp only [List.size_toArray]
   intro h1
   rw [e1, e2] at h1
   match rs, h1, hne with
   | [x], _, hne => exact hne x rfl
  refine ⟨.tuple us.toArray, ?_, us.toArray, rfl, by simpa using h2⟩
  rw [hres us h1, dif_neg hl]
theorem eG (l : List Nat) (i : Nat) (h : i ∈ l) : l[l.idxOf i]? = some i := by
 induction l with
 | nil => cases h
 | cons x xs ih =>
  by_cases hx : x = i
  ·subst hx; simp
  ·have : i ∈ xs := by simpa [Ne.symm hx] using h
   rw [List.idxOf_cons]
   have hb : (x == i) = false := by simpa using hx
   rw [hb]
   simpa using ih this
theorem kW (hD : jh P D) {f : FuncId} {fn : Func} {c : Code} {rs : List ResultVar} {args : List V} {r : V} (hf : P.funcs[f]? = some fn) (hb : fn.body = some c) (hrs : fn.results = rs.toArray) (hn : (fn.name == "runtime.NumGoroutine") = false)
  (hfit : ut fn.ntmps c = true) (hlen : args.length ≤ fn.ntmps) (h : wpS D P c (Q7 P rs r) (Ae args)) : Good P f args r := by
 refine ⟨by simp [uo, hf, hb, hn], fun A w cargs hT hA hargs => ?_⟩
 let C : Cx := { n := fn.ntmps, A0 := A, Wr := fun _ => False, w0 := w }
 have hl := hargs.length
 have S : Sim C (Ae args) ⟨A, fun _ => none, fun _ => none⟩ { tmps := cargs.toArray ++ Array.replicate (fn.ntmps - cargs.toArray.size) undef, defers := [] } w := by
  refine ⟨rfl, by simp [C]; omega, fun t => ?_, fun _ => trivial, fun b cs h => by simp [Ae] at h, ?_, Kp.refl _ _ _⟩
  ·have := H5 args cargs 0 (List.replicate (fn.ntmps - cargs.length) undef) hargs [] rfl t
   have e : (cargs ++ List.replicate (fn.ntmps - cargs.length) undef).toArray = cargs.toArray ++ Array.replicate (fn.ntmps - cargs.toArray.size) undef := by
    apply Array.ext'; simp
   rw [List.nil_append, e] at this
   exact this
  ·exact {
    nidO := fun _ _ h => by cases h
    nidB := fun _ _ h => by cases h
    own := fun _ _ h => by cases h
    boxW := fun _ _ h => by cases h
    injO := fun _ _ _ h => by cases h
    injB := fun _ _ _ h => by cases h
    dis := fun _ _ _ h => by cases h
    old := hA
    frz := fun g h => .inl h }
 refine calls_of_wp hf hb (Code.wp_mono ?_ (HY (C := C) hD (fun w' hk => Tb.keep w w' hT hk) c h hfit S))
 rintro e a' w' ⟨s', L', hq, S'⟩
 have fin : (∃ r0 l, lH P s' rs = some r0 ∧ List.Nodup l ∧ r0.any (Tag.notIn l) (fun _ => true) false = false ∧ r0.map (jk l) id = r) → a'.defers = [] ∧ ∃ v, (results fn a'.tmps).run P w' = .ok v w' ∧ ∃ u L, Ending.returned v = .returned u ∧ Rep L w' r u ∧ Kp (fun _ => False) w.heap.size w w' ∧ ResLay A w w' L := by
  rintro ⟨r0, l, h1, hnd, h2, rfl⟩
  obtain ⟨u, h3, h4⟩ := Af hrs h1 S'
  let L2 : Lay := { A := L'.A, own := fun j => (l[j]?).bind L'.own, box := fun _ => none }
  have K : Trans (Tag.notIn l) (fun _ => true) (jk l) id L' L2 w' w' := by
   refine ⟨rfl, fun g h => ⟨h, .of rfl⟩, fun i e hi g h => ⟨⟨rfl, ?_⟩, rfl⟩, fun b hb => by simp at hb⟩
   have hm : i ∈ l := by simpa [Tag.notIn] using hi
   simp only [L2, eG l i hm, Option.bind_some, h]
  refine ⟨S'.defers, u, h3, u, L2, rfl, h4.trans rfl K h2, S'.kp, ?_, ?_, ?_⟩
  ·intro g hg
   rcases S'.wf.frz g hg with h | h | h
   ·exact .inl h
   ·exact .inr ⟨h, S'.wf.old g hg⟩
   ·exact h.elim
  ·intro j g hg
   simp only [L2, Option.bind_eq_some_iff] at hg
   obtain ⟨i, hi, hg⟩ := hg
   obtain ⟨h5, h6, h7⟩ := S'.wf.own i g hg
   exact ⟨h6.elim id (fun h => h.elim), h5, h7⟩
  ·intro i j g hi hj
   simp only [L2, Option.bind_eq_some_iff] at hi hj
   obtain ⟨i', hi', hi⟩ := hi
   obtain ⟨j', hj', hj⟩ := hj
   have := S'.wf.injO i' j' g hi hj
   subst this
   have hil := (List.getElem?_eq_some_iff.1 hi').1
   exact (List.getElem?_inj hil hnd).1 (hi'.trans hj'.symm)
 cases e with
 | normal => exact fin hq
 | ret => exact fin hq
 | _ => exact hq.elim
end
end Go.Pg
end
namespace Go.Pg
open Go
def jY (m : List Nat) (b : Nat) : Bool := !m.contains b
def wkF : List V → List V → Prop
 | [], [] => True
 | a :: xs, b :: ys => (a = b ∨ (a = .c (.slice none 0 0) ∧ ∃ k', b = .sl .fz k' [])) ∧ wkF xs ys
 | _, _ => False
theorem Ag {L : Lay} {w : World} : ∀ {xs ys : List V} {us : List Value}, wkF xs ys → Reps L w xs us → Reps L w ys us
 | [], [], _, _, hr => hr
 | _ :: _, _ :: _, _, h, ⟨u, r, h1, h2, h3⟩ => by
  refine ⟨u, r, h1, ?_, Ag h.2 h3⟩
  rcases h.1 with rfl | ⟨rfl, k', rfl⟩
  ·exact h2
  ·simp only [Rep] at h2
   subst h2
   exact ⟨none, 0, [], rfl, rfl, by simp, .inl rfl⟩
theorem FZ (p : Tag → Bool) (hp : p .fz = false) (q : Nat → Bool) (tp : Bool) : ∀ {xs ys : List V}, wkF xs ys → V.anyL p q tp xs = false → V.anyL p q tp ys = false
 | [], [], _, h => h
 | _ :: _, _ :: _, h, ha => by
  simp only [V.anyL, Bool.or_eq_false_iff] at ha ⊢
  refine ⟨?_, FZ p hp q tp h.2 ha.2⟩
  rcases h.1 with rfl | ⟨rfl, k', rfl⟩
  ·exact ha.1
  ·simp [V.any, hp]
def elE (k : Nat) : List V → List V → Prop
 | [], [] => True
 | x :: xs, y :: ys => (x = y ∨ (k = 1 ∧ x = .c (.slice none 0 0) ∧ ∃ k', y = .sl .fz k' []) ∨ ∃ cs ds, x = .agg cs ∧ y = .agg ds ∧ wkF cs ds) ∧ elE k xs ys
 | _, _ => False
theorem Ah {k : Nat} {x y : V} (h : x = y ∨ (k = 1 ∧ x = .c (.slice none 0 0) ∧ ∃ k', y = .sl .fz k' []) ∨ ∃ cs ds, x = .agg cs ∧ y = .agg ds ∧ wkF cs ds) : ∀ xs : List V, elE k (xs ++ [x]) (xs ++ [y])
 | [] => ⟨h, trivial⟩
 | _ :: xs => ⟨.inl rfl, Ah h xs⟩
theorem F5 {k : Nat} : ∀ {xs ys : List V}, elE k xs ys → xs.length = ys.length
 | [], [], _ => rfl
 | _ :: _, _ :: _, h => by simp [F5 h.2]
 | [], _ :: _, h => h.elim
 | _ :: _, [], h => h.elim
theorem Ls {L : Lay} {w : World} {k : Nat} : ∀ {xs ys : List V} {us : List Value}, elE k xs ys → RepE L w k xs us → RepE L w k ys us := by
 intro xs
 induction xs with
 | nil => intro ys us h hr; cases ys with
  | nil => exact hr
  | cons _ _ => exact h.elim
 | cons x xs ih =>
  intro ys us h hr
  cases ys with
  | nil => exact h.elim
  | cons y ys =>
   obtain ⟨u, r, h1, h2, h3, h4, h5⟩ := hr
   refine ⟨u, r, h1, h2, ?_, ?_, ih h.2 h5⟩
   ·rcases h.1 with rfl | ⟨_, rfl, k', rfl⟩ | ⟨cs, ds, rfl, rfl, hw⟩
    ·exact h3
    ·exact ⟨rfl, h3.2⟩
    ·refine ⟨?_, h3.2⟩
     have h6 := h3.1
     simp only [V.free, V.any, Bool.not_eq_true'] at h6 ⊢
     exact FZ _ rfl _ _ hw h6
   ·rcases h.1 with rfl | ⟨_, rfl, k', rfl⟩ | ⟨cs, ds, rfl, rfl, hw⟩
    ·exact h4
    ·simp only [Rep] at h4
     subst h4
     exact ⟨none, 0, [], rfl, rfl, by simp, .inl rfl⟩
    ·obtain ⟨a, h6, h7⟩ := h4
     exact ⟨a, h6, Ag hw h7⟩
def Gen (l m : List Nat) (v0 v : V) : Prop :=
 v = .top ∨ (v0.any (Tag.notIn l) (jY m) false = false ∧ v = v0.map (jk l) (fun b => m.idxOf b)) ∨ (v0 = .c (.slice none 0 0) ∧ ∃ t k, t.notNN = true ∧ v = .sl t k []) ∨ ∃ t k xs ys, v0 = .sl t k xs ∧ t.notIn l = false ∧ v = .sl (jk l t) k ys ∧ elE k xs ys
def GenL (l m : List Nat) : List V → List V → Prop
 | [], [] => True
 | x :: xs, y :: ys => Gen l m x y ∧ GenL l m xs ys
 | _, _ => False
structure Keep (l m : List Nat) (s s' : St) : Prop where
 env : ∀ t, Gen l m (s.env t) (s'.env t)
 hd : ∀ t, Gen l m (s.hd t) (s'.hd t)
 bx : ∀ b cs, s'.bx b = some cs → ∃ b0 cs0, m[b]? = some b0 ∧ s.bx b0 = some (cs.1, cs0) ∧ GenL l m cs0 cs.2
 ndl : l.Nodup
 ndm : m.Nodup
 nidl : l.length ≤ s'.nid
 nidm : m.length ≤ s'.nid
theorem Keep.weakR {l m : List Nat} {s s' : St} (H : Keep l m s s') (C : Cx) (L : Lay) (a : Act) (w : World) (S : Sim C s L a w) : ∃ L', Sim C s' L' a w ∧ ∀ v u, v.any (Tag.notIn l) (jY m) false = false → Rep L w v u → Rep L' w (v.map (jk l) (fun b => m.idxOf b)) u := by
 let L' : Lay := { A := L.A, own := fun j => (l[j]?).bind L.own, box := fun j => (m[j]?).bind L.box }
 have K : Trans (Tag.notIn l) (jY m) (jk l) (fun b => m.idxOf b) L L' w w := by
  refine ⟨rfl, fun g h => ⟨h, .of rfl⟩, fun i e hi g h => ⟨⟨rfl, ?_⟩, rfl⟩, fun b hb g h => ?_⟩
  ·have hm : i ∈ l := by simpa [Tag.notIn] using hi
   simp only [L', eG l i hm, Option.bind_some, h]
  ·have hm : b ∈ m := by simpa [jY] using hb
   simp only [L', eG m b hm, Option.bind_some, h]
 have gen : ∀ v0 v u, Gen l m v0 v → Rep L w v0 u → Rep L' w v u := by
  rintro v0 v u (rfl | ⟨h1, rfl⟩ | ⟨rfl, t, k, hnn, rfl⟩ | ⟨t, k, xs, ys, rfl, h1, rfl, h2⟩) h
  ·trivial
  ·exact h.trans rfl K h1
  ·simp only [Rep] at h
   subst h
   cases t with
   | fz => exact ⟨none, 0, [], rfl, rfl, by simp, .inl rfl⟩
   | nn => cases hnn
   | own id e => exact ⟨none, 0, [], rfl, rfl, .inl ⟨rfl, rfl, rfl⟩⟩
  ·obtain ⟨a, cap, cells, rfl, h3, h4⟩ := h.trans rfl K (show V.any _ _ _ (.sl t k xs) = false from h1)
   have hl := F5 h2
   exact ⟨a, cap, cells, by rw [hl], Ls h2 h3, by rw [← hl]; exact h4⟩
 have genL : ∀ l0 l1 us, GenL l m l0 l1 → Reps L w l0 us → Reps L' w l1 us := by
  intro l0
  induction l0 with
  | nil => intro l1 us h hr; cases l1 with | nil => exact hr | cons => exact h.elim
  | cons x xs ih =>
   intro l1 us h hr
   cases l1 with
   | nil => exact h.elim
   | cons y ys => obtain ⟨u, r, rfl, h2, h3⟩ := hr; exact ⟨u, r, rfl, gen _ _ _ h.1 h2, ih ys r h.2 h3⟩
 have W := S.wf
 refine ⟨L', ⟨S.defers, S.size, fun t => gen _ _ _ (H.env t) (S.env t), fun t => gen _ _ _ (H.hd t) (S.hid t), ?_, ?_, S.kp⟩, fun v u hv h => h.trans rfl K hv⟩
 ·intro b cs h
  obtain ⟨b0, cs0, h1, h2, h3⟩ := H.bx b cs h
  obtain ⟨g, arr, h4, h5, h6⟩ := S.box b0 _ h2
  exact ⟨g, arr, by simp only [L', h1, Option.bind_some, h4], h5, genL _ _ _ h3 h6⟩
 ·have lt : ∀ (x : List Nat) (f : Nat → Option Nat) j g, (x[j]?).bind f = some g → j < x.length ∧ ∃ i, x[j]? = some i ∧ f i = some g := by
   intro x f j g h
   simp only [Option.bind_eq_some_iff] at h
   obtain ⟨i, h1, h2⟩ := h
   exact ⟨(List.getElem?_eq_some_iff.1 h1).1, i, h1, h2⟩
  exact {
   nidO := fun j g h => by have := (lt l L.own j g h).1; have := H.nidl; omega
   nidB := fun j g h => by have := (lt m L.box j g h).1; have := H.nidm; omega
   own := fun j g h => by obtain ⟨_, i, _, h2⟩ := lt l L.own j g h; exact W.own i g h2
   boxW := fun j g h => by obtain ⟨_, i, _, h2⟩ := lt m L.box j g h; exact W.boxW i g h2
   injO := fun i j g hi hj => by
    obtain ⟨h0, i', h1, h2⟩ := lt l L.own i g hi
    obtain ⟨_, j', h3, h4⟩ := lt l L.own j g hj
    have := W.injO i' j' g h2 h4
    subst this
    exact (List.getElem?_inj h0 H.ndl).1 (h1.trans h3.symm)
   injB := fun i j g hi hj => by
    obtain ⟨h0, i', h1, h2⟩ := lt m L.box i g hi
    obtain ⟨_, j', h3, h4⟩ := lt m L.box j g hj
    have := W.injB i' j' g h2 h4
    subst this
    exact (List.getElem?_inj h0 H.ndm).1 (h1.trans h3.symm)
   dis := fun i j g hi hj => by
    obtain ⟨_, i', _, h2⟩ := lt l L.own i g hi
    obtain ⟨_, j', _, h4⟩ := lt m L.box j g hj
    exact W.dis i' j' g h2 h4
   old := W.old
   frz := W.frz }
theorem Keep.weak {l m : List Nat} {s s' : St} (H : Keep l m s s') : Weak s s' := fun C L a w S => by
 obtain ⟨L', h, _⟩ := H.weakR C L a w S
 exact ⟨L', h⟩
end Go.Pg
section
namespace Go.Pg
open Go
def fM (s : St) (o : Oper) : List V := o.op.operands.toList.map s.ev
def Q8 (P : Program) [Tb P] (s : St) (o : Oper) (v : V) : Prop :=
 qv P s o.op = some v ∨ ∃ f args ts g fs cs, o.op = .call { callee := .value f, args := args, argTypes := ts } ∧ s.ev f = .fn g fs cs ∧ Good P g ((fs ++ args.toList.map s.ev ++ cs).map V.erase) v ∧
  ownFree (fs ++ cs) = true ∧ noRefs (fs ++ args.toList.map s.ev ++ cs) = true ∧ v.noRef = true ∧ (ownFree (args.toList.map s.ev) || v.flat) = true ∧ v.idb = 0
def wC (P : Program) [Tb P] (s : St) (o : Oper) (v : V) (s1 : St) : Prop :=
 xv P s o.op = some (v, s1) ∨ ∃ f args ts g fs cs r, o.op = .call { callee := .value f, args := args, argTypes := ts } ∧ s.ev f = .fn g fs cs ∧ Good P g ((fs ++ args.toList.map s.ev ++ cs).map V.erase) r ∧
  ownFree (fs ++ cs) = true ∧ noRefs (fs ++ args.toList.map s.ev ++ cs) = true ∧ r.noRef = true ∧ (ownFree (args.toList.map s.ev) || r.flat) = true ∧ r.idb ≠ 0 ∧ v = r.shift s.nid ∧ s1 = { s with nid := s.nid + r.idb }
theorem uu {r : V} {n : Nat} (h : r.idb = 0) : r.shift n = r := by
 have h1 := (xX 0).1 r (by omega)
 have main : (∀ v : V, v.any (Tag.ge 0) (fun _ => false) false = false → v.map (fun t => match t with | .fz => .fz | .nn => .nn | .own id e => .own (id + n) e) id = v) ∧
   (∀ l, V.anyL (Tag.ge 0) (fun _ => false) false l = false → V.mapL (fun t => match t with | .fz => .fz | .nn => .nn | .own id e => .own (id + n) e) id l = l) := by
  refine V.ind ?_ ?_ ?_ ?_ ?_ ?_ ?_ ?_ ?_ ?_ ?_ ?_
  ·intro v _; rfl
  ·intro _; rfl
  ·intro t k xs _ h; cases t with
   | fz => rfl
   | nn => rfl
   | own id e => simp [V.any, Tag.ge] at h
  ·intro t es h; cases t with
   | fz => rfl
   | nn => rfl
   | own id e => simp [V.any, Tag.ge] at h
  ·intro cs ih h; simp [V.map, ih h]
  ·intro cs ih h; simp [V.map, ih h]
  ·intro b o _; rfl
  ·intro t k xs i o _ h; cases t with
   | fz => rfl
   | nn => rfl
   | own id e => simp [V.any, Tag.ge] at h
  ·intro f fs cs h1 h2 h
   simp only [V.any, Bool.or_eq_false_iff] at h
   simp [V.map, h1 h.1, h2 h.2]
  ·intro _; rfl
  ·intro _; rfl
  ·intro x xs h1 h2 h
   simp only [V.anyL, Bool.or_eq_false_iff] at h
   simp [V.mapL, h1 h.1, h2 h.2]
 exact main.1 r h1
section
variable {P : Program} [Tb P] {s s' : St} {o : Oper}
theorem uw {K : Kd → St → Prop} (h : ai P s o K) : ∃ κ s', ai P s o (fun k s1 => k = κ ∧ s1 = s') ∧ K κ s' := by
 unfold ai at *
 split at h
 ·unfold iP at *
  split at h
  ·rcases h with ⟨ids, r, h1, h2, h3, h4, h5, h6⟩ | ⟨s1, r, h1, h2⟩
   ·exact ⟨_, _, .inl ⟨ids, r, h1, h2, h3, h4, h5, rfl, rfl⟩, h6⟩
   ·exact ⟨_, _, .inr ⟨s1, r, h1, rfl, rfl⟩, h2⟩
  ·cases h
 ·rcases h with h | h | h | h
  ·unfold qc at h; split at h
   ·rename_i r hr; exact ⟨_, _, .inl (by unfold qc; rw [hr]; exact ⟨rfl, rfl⟩), h⟩
   ·cases h
  ·unfold qf at h; split at h
   ·rename_i r hr; exact ⟨_, _, .inr (.inl (by unfold qf; rw [hr]; exact ⟨rfl, rfl⟩)), h⟩
   ·cases h
  ·unfold eH at h; split at h
   ·rename_i r s1 hr; exact ⟨_, _, .inr (.inr (.inl (by unfold eH; rw [hr]; exact ⟨rfl, rfl⟩))), h⟩
   ·cases h
  ·unfold eH at h; split at h
   ·rename_i r s1 hr; exact ⟨_, _, .inr (.inr (.inr (by unfold eH; rw [hr]; exact ⟨rfl, rfl⟩))), h⟩
   ·cases h
theorem dV {κ : Kd} (h : ai P s o (fun k s1 => k = κ ∧ s1 = s')) :
  (∃ v, Q8 P s o v ∧ κ = kqo o.op (fM s o) v ∧ s' = s.put o.dst v) ∨ (∃ v, rv P s o.op = some v ∧ κ = kr v ∧ s' = s.put o.dst v) ∨ (∃ v s1, wC P s o v s1 ∧ κ = kx s o.op ∧ s' = s1.put o.dst v) ∨ κ = .z := by
 unfold ai at h
 split at h
 ·rename_i f args ts heq
  unfold iP at h
  split at h
  ·rename_i g fs cs hf
   rcases h with ⟨ids, r, h1, h2, h3, h4, h5, h6, h7⟩ | ⟨s1, r, _, h6, _⟩
   case inr => exact .inr (.inr (.inr h6.symm))
   cases ids with
   | cons i ids => exact .inr (.inr (.inr h6.symm))
   | nil =>
    simp only [kc] at h6
    simp only [St.freezeAll] at h1 h3 h5 h7
    split at h6
    ·rename_i h0
     refine .inl ⟨r, .inr ⟨f, args, ts, g, fs, cs, heq, hf, h1, h2, h3, h4, h5, h0⟩, ?_, ?_⟩
     ·rw [← h6, fM, heq]
      simp [Op.operands, Call.operands, kqo]
     ·rw [← h7, h0, uu h0]; rfl
    ·rename_i h0
     exact .inr (.inr (.inl ⟨_, _, .inr ⟨f, args, ts, g, fs, cs, r, heq, hf, h1, h2, h3, h4, h5, h0, rfl, rfl⟩, by rw [heq]; exact h6.symm, h7.symm⟩))
  ·cases h
 ·rcases h with h | h | h | h
  ·unfold qc at h; split at h
   ·rename_i r hr; exact .inl ⟨r, .inl hr, h.1.symm, h.2.symm⟩
   ·cases h
  ·unfold qf at h; split at h
   ·rename_i r hr; exact .inr (.inl ⟨r, hr, h.1.symm, h.2.symm⟩)
   ·cases h
  ·unfold eH at h; split at h
   ·rename_i r s1 hr; exact .inr (.inr (.inl ⟨r, s1, .inl hr, h.1.symm, h.2.symm⟩))
   ·cases h
  ·unfold eH at h; split at h
   ·exact .inr (.inr (.inr h.1.symm))
   ·cases h
theorem qg {v : V} (h : Q8 P s o v) : ai P s o (fun k s1 => k = kqo o.op (fM s o) v ∧ s1 = s.put o.dst v) := by
 rcases h with h | ⟨f, args, ts, g, fs, cs, heq, hf, h1, h2, h3, h4, h5, h6⟩
 ·unfold ai
  split
  ·rename_i f args ts heq
   rw [heq] at h
   simp [qv] at h
  ·left; unfold qc; rw [h]; exact ⟨rfl, rfl⟩
 ·unfold ai
  rw [heq]
  simp only
  unfold iP
  rw [hf]
  refine .inl ⟨[], v, h1, h2, h3, h4, h5, ?_, ?_⟩
  ·rw [kc, if_pos h6, fM, heq]
   simp [Op.operands, Call.operands, hf, kqo]
  ·rw [h6, uu h6]; rfl
theorem F6 {v : V} (h : rv P s o.op = some v) : ai P s o (fun k s1 => k = kr v ∧ s1 = s.put o.dst v) := by
 unfold ai
 split
 ·rename_i f args ts heq
  rw [heq] at h
  simp [rv] at h
 ·right; left; unfold qf; rw [h]; exact ⟨rfl, rfl⟩
theorem kC {v : V} {s1 : St} (h : wC P s o v s1) : ai P s o (fun k s2 => k = kx s o.op ∧ s2 = s1.put o.dst v) := by
 rcases h with h | ⟨f, args, ts, g, fs, cs, r, heq, hf, h1, h2, h3, h4, h5, h0, rfl, rfl⟩
 ·unfold ai
  split
  ·rename_i f args ts heq
   rw [heq] at h
   simp [xv] at h
  ·right; right; left; unfold eH; rw [h]; exact ⟨rfl, rfl⟩
 ·unfold ai
  rw [heq]
  simp only
  unfold iP
  rw [hf]
  refine .inl ⟨[], r, h1, h2, h3, h4, h5, ?_, rfl⟩
  rw [kc, if_neg h0]; rfl
theorem uz {op : Op} (he : ∀ x ∈ op.operands.toList, s'.ev x = s.ev x) : qv P s' op = qv P s op := by
 have hm : ∀ (l : List Operand), (∀ x ∈ l, s'.ev x = s.ev x) → l.map s'.ev = l.map s.ev := fun l h => List.map_congr_left h
 have ho : ∀ (o : Option Operand), (∀ x, o = some x → s'.ev x = s.ev x) → o.map s'.ev = o.map s.ev := by
  intro o h; cases o with
  | none => rfl
  | some x => simp [h x rfl]
 unfold qv
 split
 case h_14 t parts =>
  congr 1
  refine List.map_congr_left fun p hp => ?_
  rw [he p.2 (by simp only [Op.operands]; simpa using ⟨p.1, by simpa using hp⟩)]
 case h_13 f fs cs => rw [hm fs.toList (fun x hx => he x (by simp [Op.operands] at hx ⊢; simp [hx])), hm cs.toList (fun x hx => he x (by simp [Op.operands] at hx ⊢; simp [hx]))]
 case h_15 t x lo hi =>
  rw [he x (by simp [Op.operands]), ho lo (fun y hy => he y (by simp [Op.operands, hy])), ho hi (fun y hy => he y (by simp [Op.operands, hy]))]
 case h_17 args ts =>
  split
  ·rename_i x t hx ht
   have e1 : args = #[x] := by apply Array.ext'; simpa using hx
   subst e1
   rw [he x (by simp [Op.operands, Call.operands])]
  ·rfl
 case h_18 args ts =>
  split
  ·rename_i x hx
   have e1 : args = #[x] := by apply Array.ext'; simpa using hx
   subst e1
   rw [he x (by simp [Op.operands, Call.operands])]
  ·rfl
 case h_19 args ts =>
  split
  ·rename_i x y hx
   have e1 : args = #[x, y] := by apply Array.ext'; simpa using hx
   subst e1
   rw [he x (by simp [Op.operands, Call.operands]), he y (by simp [Op.operands, Call.operands])]
  ·rfl
 case h_20 args ts =>
  split
  ·rename_i x y hx
   have e1 : args = #[x, y] := by apply Array.ext'; simpa using hx
   subst e1
   rw [he x (by simp [Op.operands, Call.operands]), he y (by simp [Op.operands, Call.operands])]
  ·rfl
 case h_21 args ts =>
  split
  ·rename_i x y hx
   have e1 : args = #[x, y] := by apply Array.ext'; simpa using hx
   subst e1
   rw [he x (by simp [Op.operands, Call.operands]), he y (by simp [Op.operands, Call.operands])]
  ·rfl
 case h_22 args ts =>
  split
  ·rename_i x hx
   have e1 : args = #[x] := by apply Array.ext'; simpa using hx
   subst e1
   rw [he x (by simp [Op.operands, Call.operands])]
  ·rfl
 case h_23 args ts =>
  split
  ·rename_i x hx
   have e1 : args = #[x] := by apply Array.ext'; simpa using hx
   subst e1
   rw [he x (by simp [Op.operands, Call.operands])]
  ·rfl
 case h_3 c x y => rw [he c (by simp [Op.operands]), he x (by simp [Op.operands]), he y (by simp [Op.operands])]
 all_goals first
  | rfl
  | (rename_i x; rw [he x (by simp [Op.operands])]; done)
  | (rename_i x _; rw [he x (by simp [Op.operands])]; done)
  | (rename_i x y; rw [he x (by simp [Op.operands]), he y (by simp [Op.operands])]; done)
  | (rename_i x y _; rw [he x (by simp [Op.operands]), he y (by simp [Op.operands])]; done)
theorem uA {v : V} (he : ∀ x ∈ o.op.operands.toList, s'.ev x = s.ev x) (h : Q8 P s o v) : Q8 P s' o v := by
 rcases h with h | ⟨f, args, ts, g, fs, cs, heq, hf, h1, h2, h3, h4, h5, h6⟩
 ·exact .inl (by rw [uz he]; exact h)
 ·rw [heq] at he
  have hfe : s'.ev f = s.ev f := he f (by simp [Op.operands, Call.operands])
  have hae : args.toList.map s'.ev = args.toList.map s.ev := List.map_congr_left fun x hx => he x (by simp [Op.operands, Call.operands] at hx ⊢; simp [hx])
  exact .inr ⟨f, args, ts, g, fs, cs, heq, by rw [hfe]; exact hf, by rw [hae]; exact h1, h2, by rw [hae]; exact h3, h4, by rw [hae]; exact h5, h6⟩
theorem Ai {op : Op} (he : ∀ x ∈ op.operands.toList, s'.ev x = s.ev x) (hb : s'.bx = s.bx) : rv P s' op = rv P s op := by
 unfold rv
 split
 ·rename_i t x
  rw [he x (by simp [Op.operands])]
  split
  ·simp only [iy, hb]
  ·rfl
 ·rename_i src dst x
  rw [he x (by simp [Op.operands])]
  unfold eY
  split
  ·rw [hb]
  ·rfl
 ·rfl
theorem x8 {d : Nat} {v : V} {x : Operand} (h : x ≠ .tmp d) : (s.put (some d) v).ev x = s.ev x := by
 cases x with
 | tmp t => simp [St.put, St.ev, upd, show t ≠ d from fun e => h (by rw [e])]
 | _ => rfl
theorem Lt {d d' : Nat} {v v' : V} (h : d ≠ d') : (s.put (some d) v).put (some d') v' = (s.put (some d') v').put (some d) v := by
 simp only [St.put, St.mk.injEq, and_true]
 funext t
 simp only [upd]
 split <;> split <;> first | rfl | (subst_vars; exact absurd rfl h)
theorem Lu {v : V} (h : v.calm = true) (id : Nat) : v.has id = false := by
 have main : (∀ v : V, v.any Tag.isOwn (fun _ => true) false = false → v.any (Tag.is id) (fun _ => false) false = false) ∧ (∀ l, V.anyL Tag.isOwn (fun _ => true) false l = false → V.anyL (Tag.is id) (fun _ => false) false l = false) := by
  refine V.ind ?_ ?_ ?_ ?_ ?_ ?_ ?_ ?_ ?_ ?_ ?_ ?_
  ·intro v _; rfl
  ·intro _; rfl
  ·intro t k xs _ h; cases t with
   | fz => rfl
   | nn => rfl
   | own j e => simp [V.any, Tag.isOwn] at h
  ·intro t es h; cases t with
   | fz => rfl
   | nn => rfl
   | own j e => simp [V.any, Tag.isOwn] at h
  ·intro cs ih h; exact ih h
  ·intro cs ih h; exact ih h
  ·intro b o h; simp [V.any] at h
  ·intro t k xs i o _ h; cases t with
   | fz => rfl
   | nn => rfl
   | own j e => simp [V.any, Tag.isOwn] at h
  ·intro f fs cs h1 h2 h
   simp only [V.any, Bool.or_eq_false_iff] at h ⊢
   exact ⟨h1 h.1, h2 h.2⟩
  ·intro _; rfl
  ·intro _; rfl
  ·intro x xs h1 h2 h
   simp only [V.anyL, Bool.or_eq_false_iff] at h ⊢
   exact ⟨h1 h.1, h2 h.2⟩
 exact main.1 v (by simpa [V.calm] using h)
theorem H6 {v : V} (h : v.free = true) : v.calm = true := by
 have main : (∀ v : V, v.any Tag.isOwn (fun _ => true) true = false → v.any Tag.isOwn (fun _ => true) false = false) ∧ (∀ l, V.anyL Tag.isOwn (fun _ => true) true l = false → V.anyL Tag.isOwn (fun _ => true) false l = false) := by
  refine V.ind ?_ ?_ ?_ ?_ ?_ ?_ ?_ ?_ ?_ ?_ ?_ ?_ <;> simp_all [V.any, V.anyL]
 simpa [V.calm] using main.1 v (by simpa [V.free] using h)
structure Turns (ψ : V → V) : Prop where
 calm : ∀ v : V, v.calm = true → ψ v = v
 back : ∀ v : V, (ψ v).free = true → ψ v = v
theorem gp : Turns _root_.id := ⟨fun _ _ => rfl, fun _ _ => rfl⟩
theorem fA (id : Nat) : Turns (ak id) := by
 refine ⟨fun v h => by simp [ak, Lu h], fun v h => ?_⟩
 unfold ak at *
 split
 ·rename_i hv; rw [if_pos hv] at h; simp [V.free, V.any] at h
 ·rfl
theorem oK (id k i : Nat) (x : V) : Turns (ah id k i x) := by
 refine ⟨fun v h => ?_, fun v h => ?_⟩
 ·unfold ah
  split
  ·simp [V.calm, V.any, Tag.isOwn] at h
  ·simp [V.calm, V.any, Tag.isOwn] at h
  ·exact (fA id).calm _ h
 ·unfold ah at *
  split
  ·rename_i j e k' xs
   split
   ·rename_i hj
    split
    ·rename_i hk
     simp only [hj, hk, if_true] at h
     simp [V.free, V.any, Tag.isOwn] at h
    ·rename_i hk
     simp only [hj, hk, if_true, if_false] at h
     simp [V.free, V.any] at h
   ·rfl
  ·rename_i j e k' xs i' off
   split
   ·rename_i hj
    split
    ·rename_i hk
     simp only [hj, hk, if_true] at h
     simp [V.free, V.any, Tag.isOwn] at h
    ·rename_i hk
     simp only [hj, hk, if_true, if_false] at h
     simp [V.free, V.any] at h
   ·rfl
  ·rename_i hne hne2
   split at h
   ·exact absurd rfl (hne _ _ _ _)
   ·exact absurd rfl (hne2 _ _ _ _ _ _)
   ·exact (fA id).back _ h
theorem qQ (id : Nat) (es' : List (ByteArray × Value)) : Turns (fP id es') := by
 refine ⟨fun v h => ?_, fun v h => ?_⟩
 ·unfold fP
  split
  ·simp [V.calm, V.any, Tag.isOwn] at h
  ·exact (fA id).calm _ h
 ·unfold fP at *
  split
  ·rename_i j e es
   split
   ·rename_i hj
    simp only [hj, if_true] at h
    simp [V.free, V.any, Tag.isOwn] at h
   ·rfl
  ·rename_i hne
   split at h
   ·exact absurd rfl (hne _ _ _)
   ·exact (fA id).back _ h
theorem uB {ψ : V → V} {d : Nat} {v : V} (hψ : ψ v = v) : (s.put (some d) v).mapV ψ = (s.mapV ψ).put (some d) v := by
 have e : (fun t => ψ (upd s.env d v t)) = upd (fun t => ψ (s.env t)) d v := by
  funext t
  simp only [upd]
  split
  ·exact hψ
  ·rfl
 show (⟨fun t => ψ (upd s.env d v t), _, _, _⟩ : St) = ⟨upd (fun t => ψ (s.env t)) d v, _, _, _⟩
 rw [e]
 rfl
theorem LC {op : Op} {r : V} {s1 : St} (h : xv P s op = some (r, s1)) : ∃ ψ, Turns ψ ∧ ∀ t, s1.env t = ψ (s.env t) := by
 unfold xv at h
 split at h
 ·simp only [lM, Option.map_eq_some_iff, nM, Prod.mk.injEq] at h
  obtain ⟨_, _, _, rfl⟩ := h; exact ⟨_, gp, fun t => rfl⟩
 ·simp only [Du, Option.map_eq_some_iff, nM, Prod.mk.injEq] at h
  obtain ⟨_, _, _, rfl⟩ := h; exact ⟨_, gp, fun t => rfl⟩
 ·simp only [aZ, Option.bind_eq_some_iff, Option.ite_none_right_eq_some, Option.some.injEq, Prod.mk.injEq, Prod.exists] at h
  obtain ⟨_, _, _, _, _, _, _, _, _, _, _, rfl⟩ := h; exact ⟨_, gp, fun t => rfl⟩
 ·split at h
  ·simp only [fV, Option.map_eq_some_iff, Option.bind_eq_some_iff, Option.ite_none_right_eq_some, Option.some.injEq, Prod.mk.injEq] at h
   obtain ⟨_, ⟨_, _, _, _, _, rfl⟩, _, rfl⟩ := h; exact ⟨_, gp, fun t => rfl⟩
  ·simp only [gW, Option.map_eq_some_iff, Option.bind_eq_some_iff, Option.ite_none_right_eq_some, Option.some.injEq, Prod.mk.injEq] at h
   obtain ⟨_, ⟨_, _, _, _, _, _, _, _, _, rfl⟩, _, rfl⟩ := h; exact ⟨_, oK _ _ _ _, fun t => rfl⟩
  ·cases h
 ·unfold oH at h
  split at h
  ·simp only [Option.bind_eq_some_iff, Option.ite_none_right_eq_some, Option.some.injEq, Prod.mk.injEq, Prod.exists] at h
   obtain ⟨_, _, _, _, _, _, _, _, _, rfl⟩ := h; exact ⟨_, gp, fun t => rfl⟩
  ·cases h
 ·simp only [nN, Option.map_eq_some_iff, Prod.mk.injEq] at h
  obtain ⟨_, _, _, rfl⟩ := h; exact ⟨_, gp, fun t => rfl⟩
 ·unfold DF at h
  split at h
  ·simp only [Option.bind_eq_some_iff, Option.ite_none_right_eq_some, Option.some.injEq, Prod.mk.injEq] at h
   obtain ⟨_, _, _, _, rfl⟩ := h; exact ⟨_, qQ _ _, fun t => rfl⟩
  ·cases h
 ·simp only [Option.map_eq_some_iff, Prod.mk.injEq] at h
  obtain ⟨_, _, _, rfl⟩ := h; exact ⟨_, gp, fun t => rfl⟩
 ·split at h
  ·simp only [fH, Option.bind_eq_some_iff, Prod.exists] at h
   obtain ⟨_, _, _, _, _, _, _, h⟩ := h
   split at h
   ·simp only [Option.ite_none_right_eq_some, Option.some.injEq, Prod.mk.injEq] at h
    obtain ⟨_, _, rfl⟩ := h; exact ⟨_, gp, fun t => rfl⟩
   ·simp only [Option.ite_none_right_eq_some, Option.some.injEq, Prod.mk.injEq] at h
    obtain ⟨_, _, rfl⟩ := h; exact ⟨_, fA _, fun t => rfl⟩
   ·cases h
  ·cases h
 ·cases h
theorem LD {op : Op} {d : Nat} {v : V} (hd : ∀ x ∈ op.operands.toList, x ≠ .tmp d) (hc : v.calm = true) :
  xv P (s.put (some d) v) op = (xv P s op).map fun p => (p.1, p.2.put (some d) v) := by
 have he : ∀ x ∈ op.operands.toList, (s.put (some d) v).ev x = s.ev x := fun x hx => x8 (hd x hx)
 unfold xv
 split
 ·rename_i e
  simp only [lM, Option.map_map]
  rfl
 ·rename_i e x
  rw [he x (by simp [Op.operands])]
  simp only [Du, Option.map_map]
  rfl
 ·rename_i t len parts
  have : (parts.toList.map fun p => (p.1, (s.put (some d) v).ev p.2)) = parts.toList.map fun p => (p.1, s.ev p.2) := by
   refine List.map_congr_left fun p hp => ?_
   rw [he p.2 (by simp only [Op.operands]; simpa using ⟨p.1, by simpa using hp⟩)]
  rw [this]
  simp only [aZ]
  cases elemT P t with
  | none => rfl
  | some e =>
   simp only [Option.bind_some]
   cases tapp P e with
   | none => rfl
   | some kb =>
    simp only [Option.bind_some]
    cases zelem P e with
    | none => rfl
    | some z =>
     simp only [Option.bind_some]
     cases setAll kb.1 (List.replicate len z) (parts.toList.map fun p => (p.1, s.ev p.2)) with
     | none => rfl
     | some xs =>
      simp only [Option.bind_some]
      split <;> rfl
 ·rename_i t x y
  rw [he x (by simp [Op.operands]), he y (by simp [Op.operands])]
  split
  ·rename_i b off hb
   simp only [fV, Option.map_map]
   have : (s.put (some d) v).bx = s.bx := rfl
   rw [this]
   cases s.bx b with
   | none => rfl
   | some cs =>
    simp only [Option.bind_some]
    cases (s.ev y).cs with
    | none => rfl
    | some l =>
     simp only [Option.bind_some]
     split <;> rfl
  ·rename_i id e k xs i off hb
   simp only [gW, Option.map_map]
   cases xs[i]? with
   | none => rfl
   | some x0 =>
    simp only [Option.bind_some]
    cases x0.cs with
    | none => rfl
    | some c0 =>
     simp only [Option.bind_some]
     cases (s.ev y).cs with
     | none => rfl
     | some l =>
      simp only [Option.bind_some]
      cases jE x0 (c0.take off ++ l ++ c0.drop (off + l.length)) with
      | none => rfl
      | some x1 =>
       simp only [Option.bind_some]
       split
       ·simp only [Option.map_some, Function.comp, uB ((oK id k i x1).calm v hc)]
       ·rfl
  ·rfl
 ·rename_i t l c
  rw [he l (by simp [Op.operands]), he c (by simp [Op.operands])]
  unfold oH
  split
  ·cases elemT P t with
   | none => rfl
   | some e =>
    simp only [Option.bind_some]
    cases tapp P e with
    | none => rfl
    | some kb =>
     simp only [Option.bind_some]
     cases zelem P e with
     | none => rfl
     | some z =>
      simp only [Option.bind_some]
      split <;> rfl
  ·rfl
 ·rename_i t
  simp only [nN, Option.map_map]
  rfl
 ·rename_i t m k x
  rw [he m (by simp [Op.operands]), he k (by simp [Op.operands]), he x (by simp [Op.operands])]
  unfold DF
  split
  ·cases ug P t with
   | none => rfl
   | some p =>
    simp only [Option.bind_some]
    split
    ·simp only [Option.map_some, uB ((qQ _ _).calm v hc)]
    ·rfl
  ·rfl
 ·rename_i src dst x
  rw [he x (by simp [Op.operands])]
  simp only [Option.map_map]
  rfl
 ·rename_i args ts
  split
  ·rename_i x y t t2 hx ht
   have e1 : args = #[x, y] := by apply Array.ext'; simpa using hx
   subst e1
   rw [he x (by simp [Op.operands, Call.operands]), he y (by simp [Op.operands, Call.operands])]
   simp only [fH]
   cases elemT P t with
   | none => rfl
   | some e =>
    simp only [Option.bind_some]
    cases tapp P e with
    | none => rfl
    | some kb =>
     simp only [Option.bind_some]
     cases tN P t2 kb.1 (s.ev y) with
     | none => rfl
     | some ys =>
      simp only [Option.bind_some]
      split
      ·split <;> rfl
      ·rename_i id e' k' xs _
       split
       ·simp only [Option.map_some, uB ((fA id).calm v hc)]
        rfl
       ·rfl
      ·rfl
  ·rfl
 ·rfl
theorem uC {v : V} {s1 : St} (h : wC P s o v s1) : ∃ ψ, Turns ψ ∧ ∀ t, s1.env t = ψ (s.env t) := by
 rcases h with h | ⟨f, args, ts, g, fs, cs, r, heq, hf, h1, h2, h3, h4, h5, h0, rfl, rfl⟩
 ·exact LC h
 ·exact ⟨_, gp, fun t => rfl⟩
theorem Aj {v x : V} {s1 : St} {d : Nat} (hd : ∀ y ∈ o.op.operands.toList, y ≠ .tmp d) (hc : x.calm = true) :
  wC P (s.put (some d) x) o v s1 ↔ ∃ s2, wC P s o v s2 ∧ s1 = s2.put (some d) x := by
 have he : ∀ y ∈ o.op.operands.toList, (s.put (some d) x).ev y = s.ev y := fun y hy => x8 (hd y hy)
 constructor
 ·rintro (h | ⟨f, args, ts, g, fs, cs, r, heq, hf, h1, h2, h3, h4, h5, h0, rfl, rfl⟩)
  ·rw [LD hd hc] at h
   simp only [Option.map_eq_some_iff, Prod.mk.injEq] at h
   obtain ⟨⟨v', s2⟩, h, rfl, rfl⟩ := h
   exact ⟨s2, .inl h, rfl⟩
  ·rw [heq] at he
   have hfe := he f (by simp [Op.operands, Call.operands])
   have hae : args.toList.map (s.put (some d) x).ev = args.toList.map s.ev := List.map_congr_left fun y hy => he y (by simp [Op.operands, Call.operands] at hy ⊢; simp [hy])
   rw [hfe] at hf
   rw [hae] at h1 h3 h5
   exact ⟨{ s with nid := s.nid + r.idb }, .inr ⟨f, args, ts, g, fs, cs, r, heq, hf, h1, h2, h3, h4, h5, h0, rfl, rfl⟩, rfl⟩
 ·rintro ⟨s2, h, rfl⟩
  rcases h with h | ⟨f, args, ts, g, fs, cs, r, heq, hf, h1, h2, h3, h4, h5, h0, rfl, rfl⟩
  ·exact .inl (by rw [LD hd hc, h]; rfl)
  ·rw [heq] at he
   have hfe := he f (by simp [Op.operands, Call.operands])
   have hae : args.toList.map (s.put (some d) x).ev = args.toList.map s.ev := List.map_congr_left fun y hy => he y (by simp [Op.operands, Call.operands] at hy ⊢; simp [hy])
   exact .inr ⟨f, args, ts, g, fs, cs, r, heq, by rw [hfe]; exact hf, by rw [hae]; exact h1, h2, by rw [hae]; exact h3, h4, by rw [hae]; exact h5, h0, rfl, rfl⟩
end
end Go.Pg
end
