/-
  Texts of this claim, merged; own names are short.
-/
import Derived.Test.YtaoejnjkmfkbeaaGreatWAH
set_option linter.unusedVariables false
set_option linter.unusedSimpArgs false
set_option linter.unusedSectionVars false
set_option linter.defProp false
set_option maxRecDepth 100000
set_option maxHeartbeats 8000000
section
namespace Go.Pg
open Go
def dh (id k : Nat) (l : List (Nat × Nat)) : Bool := l.all fun p => p.1 != id || p.2 == k
section
variable {id k i : Nat} {x1 : V}
theorem kD {v : V} (h : (ak id v).aOk = true) : ak id v = v ∧ v.aOk = true := by
 unfold ak at *
 split at h
 ·cases h
 ·rename_i hv; rw [if_neg hv]; exact ⟨rfl, h⟩
theorem LG {v : V} (h : v.aOk = true) (hc : dh id k v.aL = true) : (ah id k i x1 v).aOk = true ∧ (ah id k i x1 v).aL = v.aL ∧ (ah id k i x1 v).free = v.free ∧ (ah id k i x1 v).calm = v.calm := by
 cases v with
 | c v => exact ⟨rfl, rfl, rfl, rfl⟩
 | nif => exact ⟨rfl, rfl, rfl, rfl⟩
 | ref b o => exact ⟨rfl, rfl, rfl, rfl⟩
 | sl t k' xs =>
  cases t with
  | fz => exact ⟨rfl, rfl, rfl, rfl⟩
  | nn => exact ⟨rfl, rfl, rfl, rfl⟩
  | own j e =>
   by_cases hj : j = id
   ·have hk : k' = k := by simpa [dh, V.aL, hj] using hc
    subst hj; subst hk
    simp [ah, V.aOk, V.aL, V.free, V.calm, V.any]
   ·simp [ah, hj, V.aOk]
 | el t k' xs a o =>
  cases t with
  | fz => exact ⟨rfl, rfl, rfl, rfl⟩
  | nn => exact ⟨rfl, rfl, rfl, rfl⟩
  | own j e =>
   by_cases hj : j = id
   ·have hk : k' = k := by simpa [dh, V.aL, hj] using hc
    subst hj; subst hk
    simp [ah, V.aOk, V.aL, V.free, V.calm, V.any]
   ·simp [ah, hj, V.aOk]
 | _ => cases h
theorem Q9 {v : V} (h : (ah id k i x1 v).aOk = true) (hc : dh id k (ah id k i x1 v).aL = true) : v.aOk = true ∧ dh id k v.aL = true := by
 cases v with
 | c v => exact ⟨rfl, rfl⟩
 | nif => exact ⟨rfl, rfl⟩
 | ref b o => exact ⟨rfl, rfl⟩
 | sl t k' xs =>
  cases t with
  | fz => exact ⟨rfl, rfl⟩
  | nn => exact ⟨rfl, rfl⟩
  | own j e =>
   refine ⟨rfl, ?_⟩
   by_cases hj : j = id
   ·by_cases hk : k' = k
    ·simp [dh, V.aL, hk]
    ·simp [ah, hj, hk, V.aOk] at h
   ·simp [dh, V.aL, hj]
 | el t k' xs a o =>
  cases t with
  | fz => exact ⟨rfl, rfl⟩
  | nn => exact ⟨rfl, rfl⟩
  | own j e =>
   refine ⟨rfl, ?_⟩
   by_cases hj : j = id
   ·by_cases hk : k' = k
    ·simp [dh, V.aL, hk]
    ·simp [ah, hj, hk, V.aOk] at h
   ·simp [dh, V.aL, hj]
 | agg l => exact absurd (kD (id := id) (v := .agg l) h).2 Bool.false_ne_true
 | tup l => exact absurd (kD (id := id) (v := .tup l) h).2 Bool.false_ne_true
 | fn f a b => exact absurd (kD (id := id) (v := .fn f a b) h).2 Bool.false_ne_true
 | top => exact absurd (kD (id := id) (v := .top) h).2 Bool.false_ne_true
 | mp t es => exact absurd (kD (id := id) (v := .mp t es) h).2 Bool.false_ne_true
theorem LH (v : Value) : ah id k i x1 (bG v) = bG v := by
 have key : ∀ l : List Value, V.anyL (Tag.is id) (fun _ => false) false (l.map .c) = false := by
  intro l; induction l with
  | nil => rfl
  | cons a l ih => simp [V.anyL, V.any, ih]
 have hp : ∀ u : V, u.has id = false → ak id u = u := fun u hu => by unfold ak; rw [hu]; rfl
 cases v <;> first | rfl | exact hp _ (by simp [bG, V.has, V.any, key])
end
section
variable {P : Program} {s s2 : St} {id k i : Nat} {x1 : V}
theorem Vo {t : TypeId} {x y : V} (hx : x.aOk = true) (hcx : dh id k x.aL = true) (hy : y.aOk = true) : iaV P t (ah id k i x1 x) (ah id k i x1 y) = (iaV P t x y).map (ah id k i x1) := by
 have hyc : ∀ n, ah id k i x1 y = .c n ↔ y = .c n := by
  intro n
  cases y with
  | sl tg k' xs => cases tg <;> simp [ah, ak] <;> (repeat' split) <;> simp
  | el tg k' xs a o => cases tg <;> simp [ah, ak] <;> (repeat' split) <;> simp
  | c v => simp [ah, ak, V.has, V.any]
  | nif => simp [ah, ak, V.has, V.any]
  | ref b o => simp [ah, ak, V.has, V.any]
  | _ => cases hy
 have hix : ∀ u, (∀ n, y ≠ .c n) → iaV P t u y = none := by
  intro u h
  unfold iaV
  split <;> first | rfl | (exfalso; exact h _ rfl)
 have hix2 : ∀ u, (∀ n, y ≠ .c n) → iaV P t u (ah id k i x1 y) = none := by
  intro u h
  have : ∀ n, ah id k i x1 y ≠ .c n := fun n hn => h n ((hyc n).1 hn)
  generalize ah id k i x1 y = z at this
  unfold iaV
  split <;> first | rfl | (exfalso; exact this _ rfl)
 by_cases hyy : ∃ n, y = .c n
 ·obtain ⟨n, rfl⟩ := hyy
  rw [(hyc n).2 rfl]
  cases x with
  | c v => cases n <;> rfl
  | nif => cases n <;> rfl
  | ref b o =>
   show iaV P t (.ref b o) (.c n) = _
   cases n <;> try rfl
   unfold iaV
   cases jb P t with
   | none => rfl
   | some p =>
    simp only [Option.bind_some]
    cases tsz P p.2 with
    | none => rfl
    | some q => simp only [Option.bind_some]; split <;> rfl
  | sl tg k' xs =>
   cases tg with
   | fz =>
    show iaV P t (.sl .fz k' xs) (.c n) = _
    cases n <;> first | rfl | (unfold iaV; simp only; split <;> rfl)
   | nn =>
    show iaV P t (.sl .nn k' xs) (.c n) = _
    cases n <;> first | rfl | (unfold iaV; simp only; split <;> rfl)
   | own j e =>
    by_cases hj : j = id
    ·have hk : k' = k := by simpa [dh, V.aL, hj] using hcx
     subst hj; subst hk
     cases n <;> try (simp [ah, iaV]; done)
    ·cases n <;> try (simp [ah, hj, iaV]; done)
  | el tg k' xs a o =>
   have h0 : ∀ tg k' xs a o, iaV P t (.el tg k' xs a o) (.c n) = none := by intros; cases n <;> rfl
   rw [h0]
   cases tg with
   | fz => exact h0 _ _ _ _ _
   | nn => exact h0 _ _ _ _ _
   | own j e =>
    simp only [ah]
    split
    ·split
     ·exact h0 _ _ _ _ _
     ·cases n <;> rfl
    ·exact h0 _ _ _ _ _
  | _ => cases hx
 ·have h' : ∀ n, y ≠ .c n := fun n hn => hyy ⟨n, hn⟩
  rw [hix2 _ h', hix _ h']; rfl
theorem faN {t : TypeId} {f : Nat} {x : V} (h1 : ∀ b o, x ≠ .ref b o) (h2 : ∀ tg j xs a o, x ≠ .el tg j xs a o) : faV P t x f = none := by
 unfold faV
 cases gV P t f with
 | none => rfl
 | some p =>
  simp only [Option.bind_some]
  cases tsz P p.1 with
  | none => rfl
  | some q =>
   simp only [Option.bind_some]
   cases x <;> first | exact absurd rfl (h1 _ _) | exact absurd rfl (h2 _ _ _ _ _) | (split <;> rfl)
theorem Vp {t : TypeId} {f : Nat} {x : V} (hx : x.aOk = true) (hcx : dh id k x.aL = true) : faV P t (ah id k i x1 x) f = (faV P t x f).map (ah id k i x1) := by
 cases x with
 | c v => rw [show ah id k i x1 (.c v) = .c v from rfl, faN (by simp) (by simp)]; rfl
 | nif => rw [show ah id k i x1 .nif = .nif from rfl, faN (by simp) (by simp)]; rfl
 | ref b o =>
  show faV P t (.ref b o) f = _
  unfold faV
  cases gV P t f with
  | none => rfl
  | some p =>
   simp only [Option.bind_some]
   cases tsz P p.1 with
   | none => rfl
   | some q => simp only [Option.bind_some]; split <;> rfl
 | sl tg k' xs =>
  have h0 : ∀ tg k' xs, faV P t (.sl tg k' xs) f = none := by intros; exact faN (by simp) (by simp)
  rw [h0]
  cases tg with
  | fz => exact h0 _ _ _
  | nn => exact h0 _ _ _
  | own j e =>
   simp only [ah]
   split
   ·split
    ·exact h0 _ _ _
    ·exact faN (by simp) (by simp)
   ·exact h0 _ _ _
 | el tg k' xs a o =>
  cases tg with
  | fz =>
   show faV P t (.el .fz k' xs a o) f = _
   unfold faV
   cases gV P t f with
   | none => rfl
   | some p =>
    simp only [Option.bind_some]
    cases tsz P p.1 with
    | none => rfl
    | some q => simp only [Option.bind_some]; split <;> rfl
  | nn =>
   show faV P t (.el .nn k' xs a o) f = _
   unfold faV
   cases gV P t f with
   | none => rfl
   | some p =>
    simp only [Option.bind_some]
    cases tsz P p.1 with
    | none => rfl
    | some q => simp only [Option.bind_some]; split <;> rfl
  | own j e =>
   have hs : ∀ o', ah id k i x1 (.el (.own j e) k' xs a o') = .el (.own j e) k' (if j = id then xs.set i x1 else xs) a o' := by
    intro o'
    by_cases hj : j = id
    ·have hk : k' = k := by simpa [dh, V.aL, hj] using hcx
     subst hj; subst hk
     simp [ah]
    ·simp [ah, hj]
   rw [hs]
   unfold faV
   cases gV P t f with
   | none => rfl
   | some p =>
    simp only [Option.bind_some]
    cases tsz P p.1 with
    | none => rfl
    | some q =>
     simp only [Option.bind_some]
     split
     ·rfl
     ·simp only [Option.map_some, hs]
 | _ => cases hx
def isA : Op → Bool
 | .move _ => true
 | .assign _ => true
 | .indexAddr _ _ _ => true
 | .fieldAddr _ _ _ => true
 | _ => false
theorem Xn {op : Op} {l : List V} {v : V} {m : List (Nat × Nat)} (h : kqo op l v = .a m) : isA op = true ∧ kqo op = ka ∧ l.all V.aOk = true ∧ m = l.flatMap V.aL ∧ m ≠ [] := by
 have hq : ∀ l v, kq l v ≠ .a m := by intro l v; unfold kq; (repeat' split) <;> simp
 have hk : ka l v = .a m → l.all V.aOk = true ∧ m = l.flatMap V.aL ∧ m ≠ [] := by
  intro h
  unfold ka at h
  split at h
  ·rename_i p r h1 h2
   simp only [Kd.a.injEq] at h
   exact ⟨h1, by rw [h2, h], by rw [← h]; simp⟩
  ·exact absurd h (hq _ _)
 cases op <;> simp only [kqo] at h <;> first | exact absurd h (hq _ _) | (obtain ⟨h1, h2, h3⟩ := hk h; exact ⟨rfl, rfl, h1, h2, h3⟩)
theorem xn {l : List V} (h : dh id k (l.flatMap V.aL) = true) {x : V} (hx : x ∈ l) : dh id k x.aL = true := by
 unfold dh at *
 rw [List.all_eq_true] at *
 intro p hp
 exact h p (List.mem_flatMap.2 ⟨x, hx, hp⟩)
theorem x9 {op : Op} (ha : isA op = true) (hok : ∀ x ∈ op.operands.toList, (s.ev x).aOk = true ∧ dh id k (s.ev x).aL = true) (he : ∀ x ∈ op.operands.toList, s2.ev x = ah id k i x1 (s.ev x)) : qv P s2 op = (qv P s op).map (ah id k i x1) := by
 cases op <;> simp only [isA, Bool.false_eq_true] at ha
 case move x => simp only [qv, Option.map_some, he x (by simp [Op.operands])]
 case assign x => simp only [qv, Option.map_some, he x (by simp [Op.operands])]
 case fieldAddr t x f =>
  have h1 := hok x (by simp [Op.operands])
  simp only [qv, he x (by simp [Op.operands])]
  exact Vp h1.1 h1.2
 case indexAddr t x j =>
  have h1 := hok x (by simp [Op.operands])
  have h2 := hok j (by simp [Op.operands])
  simp only [qv, he x (by simp [Op.operands]), he j (by simp [Op.operands])]
  exact Vo h1.1 h1.2 h2.1
end
end Go.Pg
end
