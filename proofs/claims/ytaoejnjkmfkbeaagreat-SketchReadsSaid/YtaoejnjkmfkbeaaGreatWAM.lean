/-
  Texts of this claim, merged; own names are short.
-/
import Derived.Test.YtaoejnjkmfkbeaaGreatWAL
import Derived.Test.YtaoejnjkmfkbeaaGreatProg
set_option linter.unusedVariables false
set_option linter.unusedSimpArgs false
set_option linter.unusedSectionVars false
set_option linter.defProp false
set_option maxRecDepth 100000
set_option maxHeartbeats 8000000
section
namespace Go.Pg
open Go
def tzc (P : Program) (t : TypeId) : Option (List V) := (lS P t).map fun z => z.cells.toList.map .c
section
variable (P : Program) (e : Nat → V) (b : Nat → Option (TypeId × List V)) (n : Nat) (h : Nat → V) (t : TypeId)
theorem Vb : qN P ⟨e, b, n, h⟩ t = (tzc P t).map fun l => (.ref n 0, ⟨e, upd b n (some (t, l)), n + 1, h⟩) := by simp only [qN, tzc, Option.map_map]; rfl
theorem acD (x : V) : Jo ⟨e, b, n, h⟩ t x = x.cs.map fun l => (.ref n 0, ⟨e, upd b n (some (t, l)), n + 1, h⟩) := rfl
theorem Zv (k off : Nat) : lm P ⟨e, b, n, h⟩ t k off = (b k).bind fun x => dI P t x.2 off := rfl
theorem Vd (k off : Nat) (x : V) : jU P ⟨e, b, n, h⟩ t k off x = (b k).bind fun y => x.cs.bind fun l => if tsz P t = some l.length ∧ off + l.length ≤ y.2.length ∧ l.all V.one = true then some ⟨e, upd b k (some (y.1, y.2.take off ++ l ++ y.2.drop (off + l.length))), n, h⟩ else none := rfl
theorem PU (src dst : TypeId) (k off : Nat) : iY P ⟨e, b, n, h⟩ src dst (.ref k off) = (b k).bind fun y => if SL P src dst y.1 y.2.length off = true then some (.ref k off) else none := rfl
theorem kZ (len : Nat) (parts : List (Nat × V)) : dM P ⟨e, b, n, h⟩ t len parts = (elemT P t).bind fun el => (tapp P el).bind fun p => (zelem P el).bind fun z => (setAll p.1 (List.replicate len z) parts).bind fun xs =>
  if len * p.1 ≤ 16777216 then some (.sl (bsTag len n el) p.1 xs, ⟨e, b, n + 1, h⟩) else none := rfl
theorem Zw (id : Nat) (t : TypeId) : bsTag 0 id t = .nn := rfl
theorem Zx (l id : Nat) (t : TypeId) : bsTag (l + 1) id t = .own id t := rfl
def mkK (b : Nat) (l c : Int) (x : Option (V × St)) : Option (V × St) := if 0 ≤ l ∧ l ≤ c ∧ (b : Int) * c ≤ 281474976710656 ∧ c ≤ 9223372036854775807 then x else none
theorem acE (b : Nat) (l c : Int) (x : Option (V × St)) (h : 0 ≤ l ∧ l ≤ c ∧ (b : Int) * c ≤ 281474976710656 ∧ c ≤ 9223372036854775807) : mkK b l c x = x := if_pos h
theorem Zy (k k' : IntKind) (l c : Int) : uU P ⟨e, b, n, h⟩ t (.c (.int k l)) (.c (.int k' c)) = (elemT P t).bind fun el => (tapp P el).bind fun p => (zelem P el).bind fun z => mkK p.2 l c (some (.sl (.own n el) p.1 (List.replicate l.toNat z), ⟨e, b, n + 1, h⟩)) := rfl
def apK (e : Nat → V) (b : Nat → Option (TypeId × List V)) (n : Nat) (h : Nat → V) (el k bytes : Nat) (x : V) (ys : List V) : Option (V × St) :=
 match x with
 | .c (.slice none 0 0) => if Fits ys.length bytes then some (.sl (.own n el) k ys, ⟨e, b, n + 1, h⟩) else none
 | .sl (.own id e') k' xs => if e' = el ∧ k' = k ∧ Fits (xs.length + ys.length) bytes then some (.sl (.own id el) k (xs ++ ys), ⟨iM (aC id) e, mX (aC id) b, max n (id + 1), iM (aC id) h⟩) else none
 | .sl .nn _ [] => if Fits ys.length bytes then some (.sl (abw ys n el) k ys, ⟨e, b, n + 1, h⟩) else none
 | _ => none
theorem Dv (t2 : TypeId) (x y : V) : jI P ⟨e, b, n, h⟩ t t2 x y = (elemT P t).bind fun el => (tapp P el).bind fun p => (zU P t2 p.1 y).bind fun ys => apK e b n h el p.1 p.2 x ys := by
 simp only [jI]
 cases elemT P t with
 | none => rfl
 | some el =>
  simp only [Option.bind_some]
  cases tapp P el with
  | none => rfl
  | some p =>
   simp only [Option.bind_some]
   cases zU P t2 p.1 y with
   | none => rfl
   | some ys => rfl
theorem Zz (el k bytes : Nat) (ys : List V) (hf : Fits ys.length bytes) : apK e b n h el k bytes (.c (.slice none 0 0)) ys = some (.sl (.own n el) k ys, ⟨e, b, n + 1, h⟩) := if_pos hf
theorem acF (el k bytes k' : Nat) (ys : List V) (hf : Fits ys.length bytes) (h0 : 0 < ys.length) : apK e b n h el k bytes (.sl .nn k' []) ys = some (.sl (.own n el) k ys, ⟨e, b, n + 1, h⟩) := by
 cases ys with
 | nil => cases h0
 | cons y ys => exact if_pos hf
theorem ZA (el k bytes k' : Nat) (hf : Fits 0 bytes) : apK e b n h el k bytes (.sl .nn k' []) [] = some (.sl .nn k [], ⟨e, b, n + 1, h⟩) := if_pos hf
theorem ZB (el k bytes id : Nat) (xs ys : List V) (hf : Fits (xs.length + ys.length) bytes) : apK e b n h el k bytes (.sl (.own id el) k xs) ys = some (.sl (.own id el) k (xs ++ ys), ⟨iM (aC id) e, mX (aC id) b, max n (id + 1), iM (aC id) h⟩) := if_pos ⟨rfl, rfl, hf⟩
end
section
variable (P : Program) (t : TypeId)
def ldK (ag : Option Bool) (sz : Option Nat) (cs : List V) (off : Nat) : Option V :=
 match ag with
 | some true => sz.bind fun n => if off + n ≤ cs.length then some (.agg ((cs.drop off).take n)) else none
 | some false => cs[off]?
 | none => none
theorem PV (cs : List V) (off : Nat) : dI P t cs off = ldK (kH P t) (tsz P t) cs off := by
 unfold dI ldK; cases kH P t with
 | none => rfl
 | some b => cases b <;> rfl
theorem ad5 (sz : Option Nat) (cs : List V) (off : Nat) : ldK (some false) sz cs off = cs[off]? := rfl
theorem ad6 (n : Nat) (cs : List V) (off : Nat) : ldK (some true) (some n) cs off = if off + n ≤ cs.length then some (.agg ((cs.drop off).take n)) else none := rfl
theorem ZC (k off f : Nat) : faV P t (.ref k off) f = (kJ P t f).bind fun p => (tsz P p.1).bind fun k' => if k' = 0 then none else some (.ref k (off + p.2)) := rfl
theorem acG (tg : Tag) (j : Nat) (xs : List V) (i off f : Nat) : faV P t (.el tg j xs i off) f = (kJ P t f).bind fun p => (tsz P p.1).bind fun k' => if k' = 0 then none else some (.el tg j xs i (off + p.2)) := rfl
theorem Ve (cs : List V) (f : Nat) : wO P t (.agg cs) f = (kJ P t f).bind fun p => dI P p.1 cs p.2 := rfl
theorem ad7 (tg : Tag) (k : Nat) (xs : List V) (ik : IntKind) (n : Int) (h0 : 0 ≤ n) (h : n < xs.length) : iaV P t (.sl tg k xs) (.c (.int ik n)) = if (elemT P t).bind (tsz P) = some k then some (.el tg k xs n.toNat 0) else none := by
 rw [acx]; by_cases he : (elemT P t).bind (tsz P) = some k <;> simp [he, h0, h]
theorem ZE (b off : Nat) (ik : IntKind) (n : Int) : iaV P t (.ref b off) (.c (.int ik n)) = (mF P t).bind fun p => (tsz P p.2).bind fun k => if 0 ≤ n ∧ n < p.1 then some (.ref b (off + n.toNat * k)) else none := rfl
theorem ZF (z : ByteArray) (ik : IntKind) (n : Int) (h0 : 0 ≤ n) (h : n < z.size) : ixV P t (.c (.string z)) (.c (.int ik n)) = if fK P t = true then some (.c (.int .u8 ((z.data.toList.getD n.toNat 0).toNat))) else none := by
 unfold ixV; by_cases he : fK P t = true <;> simp [he, h0, h]
theorem acH (l : List Nat) (ik : IntKind) (n : Int) (ho : oct l) (h0 : 0 ≤ n) (h : n < l.length) : ixV P t (.c (.string (sB l))) (.c (.int ik n)) = if fK P t = true then some (.c (.int .u8 (l.getD n.toNat 0 : Nat))) else none := by
 rw [ZF P t _ _ _ h0 (by rw [nX]; exact h), Ko ho]
theorem ZG (cs : List V) (ik : IntKind) (n : Int) : ixV P t (.agg cs) (.c (.int ik n)) = (mF P t).bind fun p => (tsz P p.2).bind fun k => if 0 ≤ n ∧ n < p.1 then dI P p.2 cs (n.toNat * k) else none := rfl
def cvK (d : Option IntKind) (f : Option FloatKind) (n : Int) : Option V := match d with | some k => some (.c (.int k (k.wrap n))) | none => f.map fun k => .c (.float k (k.nearest n))
theorem ZH (src : TypeId) (k : IntKind) (n : Int) : lh P src t (.c (.int k n)) = if (P.underlying src).isSome = true then cvK (qf P t) (Yg P t) n else none := by
 unfold lh
 cases qf P t with
 | none => rfl
 | some k' => rfl
theorem ad8 (k : IntKind) (f : Option FloatKind) (n : Int) : cvK (some k) f n = some (.c (.int k (k.wrap n))) := rfl
theorem PW (src : TypeId) (z : ByteArray) : lh P src t (.c (.string z)) = if (P.underlying src).isSome && fK P t then some (.c (.string z)) else none := by
 unfold lh; cases qf P t <;> rfl
theorem Vf (parts : List (Nat × V)) : uf P t parts = (tzc P t).bind fun l => (zo P t).bind fun ps => (qM ps l parts).map .agg := by
 simp only [uf, tzc]
 cases lS P t <;> rfl
theorem PX (places : List (Nat × Nat)) (cells : List V) : qM places cells [] = some cells := rfl
def Vg (p : Option (Nat × Nat)) (c : Option (List V)) (places : List (Nat × Nat)) (cells : List V) (rest : List (Nat × V)) : Option (List V) :=
 p.bind fun p => c.bind fun l => if l.length = p.2 ∧ p.1 + l.length ≤ cells.length then qM places (cells.take p.1 ++ l ++ cells.drop (p.1 + l.length)) rest else none
theorem Kq (places : List (Nat × Nat)) (cells : List V) (i : Nat) (v : V) (rest : List (Nat × V)) : qM places cells ((i, v) :: rest) = Vg (places[i]?) v.cs places cells rest := by
 unfold Vg
 rw [qM]
 cases places[i]? with
 | none => rfl
 | some p => cases v.cs <;> rfl
theorem ZI (p : Nat × Nat) (l : List V) (places : List (Nat × Nat)) (cells : List V) (rest : List (Nat × V)) : Vg (some p) (some l) places cells rest = if l.length = p.2 ∧ p.1 + l.length ≤ cells.length then qM places (cells.take p.1 ++ l ++ cells.drop (p.1 + l.length)) rest else none := rfl
theorem Kr (k : Nat) (xs : List V) : setAll k xs [] = some xs := rfl
def acI (c : Option (List V)) (fr : Bool) (k i : Nat) (v : V) (xs : List V) (rest : List (Nat × V)) : Option (List V) :=
 c.bind fun l => if l.length = k ∧ fr = true ∧ l.all V.one = true ∧ i < xs.length then setAll k (xs.set i v) rest else none
theorem HY (k : Nat) (xs : List V) (i : Nat) (v : V) (rest : List (Nat × V)) : setAll k xs ((i, v) :: rest) = acI v.cs v.free k i v xs rest := by
 unfold acI
 rw [setAll]
 cases v.cs <;> rfl
theorem acJ (l : List V) (fr : Bool) (k i : Nat) (v : V) (xs : List V) (rest : List (Nat × V)) : acI (some l) fr k i v xs rest = if l.length = k ∧ fr = true ∧ l.all V.one = true ∧ i < xs.length then setAll k (xs.set i v) rest else none := rfl
theorem ad9 (b : Bool) : unV .not (.c (.bool b)) = some (.c (.bool (!b))) := rfl
theorem aea (k : IntKind) (n : Int) : unV .neg (.c (.int k n)) = some (.c (.int k (k.wrap (0 - n)))) := rfl
theorem aeb (k : IntKind) (n : Int) : unV .xor (.c (.int k n)) = some (.c (.int k (bits .xor k (if k.signed then -1 else k.max) n))) := rfl
theorem ZJ (xs ys : List V) : dP P .eql t (.agg xs) (.agg ys) = (sV P t).bind fun pl => (eqL pl xs ys).map fun b => .c (.bool b) := rfl
theorem ZK (xs ys : List V) : dP P .neq t (.agg xs) (.agg ys) = (sV P t).bind fun pl => (eqL pl xs ys).map fun b => .c (.bool (!b)) := rfl
theorem ZL (xs ys : List V) : eqL [] xs ys = some true := rfl
theorem Vh (o : Nat) (k : EqK) (r : List (Nat × EqK)) (xs ys : List V) : eqL ((o, k) :: r) xs ys = eqK k xs[o]? ys[o]? (eqL r xs ys) := rfl
theorem aec (k : IntKind) (a b : Int) (z : Bool) : eqK .n (some (.c (.int k a))) (some (.c (.int k b))) (some z) = some ((a == b) && z) := by simp [eqK]
theorem aed (a b z : Bool) : eqK .b (some (.c (.bool a))) (some (.c (.bool b))) (some z) = some ((a == b) && z) := rfl
theorem aee (a b : ByteArray) (z : Bool) : eqK .s (some (.c (.string a))) (some (.c (.string b))) (some z) = some (decide (a = b) && z) := rfl
theorem Vj : dP P .eql t (.c (.pointer none)) (.c (.pointer none)) = if gV P t = true then some (.c (.bool true)) else none := rfl
theorem Vk : dP P .neq t (.c (.pointer none)) (.c (.pointer none)) = if gV P t = true then some (.c (.bool false)) else none := rfl
theorem Vl (b o : Nat) : dP P .eql t (.ref b o) (.c (.pointer none)) = if gV P t = true then some (.c (.bool false)) else none := rfl
theorem Vm (b o : Nat) : dP P .neq t (.ref b o) (.c (.pointer none)) = if gV P t = true then some (.c (.bool true)) else none := rfl
theorem PY (b o : Nat) : dP P .neq t (.ref b o) (.ref b o) = if gV P t = true then some (.c (.bool false)) else none := by
 show (if gV P t = true ∧ b = b ∧ o = o then _ else _) = _
 by_cases h : gV P t = true <;> simp [h]
theorem PZ (b o : Nat) : dP P .eql t (.ref b o) (.ref b o) = if gV P t = true then some (.c (.bool true)) else none := by
 show (if gV P t = true ∧ b = b ∧ o = o then _ else _) = _
 by_cases h : gV P t = true <;> simp [h]
theorem ZM : dP P .eql t (.c (.slice none 0 0)) (.c (.slice none 0 0)) = if (elemT P t).isSome = true then some (.c (.bool true)) else none := rfl
theorem acK (k : Nat) (xs : List V) (hx : xs = []) : dP P .eql t (.sl .nn k xs) (.c (.slice none 0 0)) = if (elemT P t).isSome = true then some (.c (.bool false)) else none := by subst hx; rfl
theorem acL (tg : Tag) (k : Nat) (x : V) (xs : List V) : dP P .eql t (.sl tg k (x :: xs)) (.c (.slice none 0 0)) = if (elemT P t).isSome = true then some (.c (.bool false)) else none := rfl
theorem ae8 (k : IntKind) (a b : Int) (h : b ≠ 0) : dP P .quo t (.c (.int k a)) (.c (.int k b)) = some (.c (.int k (k.wrap (a.tdiv b)))) := by rw [Uf, if_neg h]
theorem ae9 (k : IntKind) (a b : Int) (h : b ≠ 0) : dP P .rem t (.c (.int k a)) (.c (.int k b)) = some (.c (.int k (a.tmod b))) := by rw [Ug, if_neg h]
theorem afa (k k2 : IntKind) (a b : Int) (h : 0 ≤ b) : dP P .shl t (.c (.int k a)) (.c (.int k2 b)) = some (.c (.int k (k.wrap (a * 2 ^ min b.toNat k.bits)))) := by rw [Ur, if_neg (by omega)]
theorem afb (k k2 : IntKind) (a b : Int) (h : 0 ≤ b) : dP P .shr t (.c (.int k a)) (.c (.int k2 b)) = some (.c (.int k (a.fdiv (2 ^ min b.toNat k.bits)))) := by rw [Us, if_neg (by omega)]
theorem Kt (l : List Nat) (lo hi : Option V) (a c : Int) (ha : bdV lo 0 = some a) (hc : bdV hi l.length = some c) (h0 : 0 ≤ a) (h1 : a ≤ c) (h2 : c ≤ l.length) : slV P t (.c (.string (sB l))) lo hi = if fK P t = true then some (.c (.string (sB ((l.take c.toNat).drop a.toNat)))) else none := by
 rw [Zk, ha, nX, hc]
 simp only [Option.bind_some, acC]
 by_cases he : fK P t = true <;> simp [he, h0, h1, h2]
theorem acM (l : List Nat) (k : IntKind) (a : Int) (h0 : 0 ≤ a) (h1 : a ≤ l.length) : slV P t (.c (.string (sB l))) (some (.c (.int k a))) none = if fK P t = true then some (.c (.string (sB (l.drop a.toNat)))) else none := by
 rw [Kt P t l _ _ a l.length rfl rfl h0 h1 (Int.le_refl _)]
 simp
theorem acN (l : List Nat) (k : IntKind) (c : Int) (h0 : 0 ≤ c) (h1 : c ≤ l.length) : slV P t (.c (.string (sB l))) none (some (.c (.int k c))) = if fK P t = true then some (.c (.string (sB (l.take c.toNat)))) else none := by
 rw [Kt P t l _ _ 0 c rfl rfl (Int.le_refl _) h0 h1]
 simp
theorem acO (l : List Nat) (k k' : IntKind) (a c : Int) (h0 : 0 ≤ a) (h1 : a ≤ c) (h2 : c ≤ l.length) : slV P t (.c (.string (sB l))) (some (.c (.int k a))) (some (.c (.int k' c))) = if fK P t = true then some (.c (.string (sB ((l.take c.toNat).drop a.toNat)))) else none :=
 Kt P t l _ _ a c rfl rfl h0 h1 h2
end
theorem Vo (n : Int) (h0 : -9223372036854775808 ≤ n) (h1 : n ≤ 9223372036854775807) : IntKind.i64.wrap n = n := IntWalk.i64_in n ⟨h0, h1⟩
theorem afc (n : Int) (h0 : 0 ≤ n) (h1 : n ≤ 255) : IntKind.u8.wrap n = n := IntWalk.u8_in n ⟨h0, h1⟩
theorem abB (n : Int) (h0 : 0 ≤ n) (h1 : n ≤ 18446744073709551615) : IntKind.u64.wrap n = n := IntWalk.u64_in n ⟨h0, h1⟩
theorem abC (n : Int) (h0 : 0 ≤ n) (h1 : n ≤ 4294967295) : IntKind.u32.wrap n = n := IntWalk.u32_in n ⟨h0, h1⟩
theorem aef (p : Prop) [Decidable p] (h : p) : decide p = true := decide_eq_true h
theorem aeg (p : Prop) [Decidable p] (h : ¬ p) : decide p = false := decide_eq_false h
theorem aeh (a b : Int) (h : a = b) : (a == b) = true := by simp [h]
theorem aei (a b : Int) (h : a ≠ b) : (a == b) = false := by simp [h]
theorem aej (a b : Int) (h : a ≠ b) : (a != b) = true := by simp [h]
theorem aek (a b : Int) (h : a = b) : (a != b) = false := by simp [h]
def xy : List (Nat × V) → Nat → V
 | [], _ => .top
 | (k, v) :: r, t => if t = k then v else xy r t
theorem mZ (t : Nat) : xy [] t = .top := rfl
theorem lg (k : Nat) (v : V) (r : List (Nat × V)) (t : Nat) : xy ((k, v) :: r) t = if t = k then v else xy r t := rfl
def H5 : List (Nat × TypeId × List V) → Nat → Option (TypeId × List V)
 | [], _ => none
 | (k, v) :: r, t => if t = k then some v else H5 r t
theorem Vp (t : Nat) : H5 [] t = none := rfl
theorem Nb (k : Nat) (v : TypeId × List V) (r : List (Nat × TypeId × List V)) (t : Nat) : H5 ((k, v) :: r) t = if t = k then some v else H5 r t := rfl
def mkA (X : List (Nat × V)) (B : List (Nat × TypeId × List V)) (n : Nat) (h : Nat → V) : St := ⟨xy X, H5 B, n, h⟩
theorem acP (X : List (Nat × V)) (B : List (Nat × TypeId × List V)) (n : Nat) (h : Nat → V) : mkA X B n h = ⟨xy X, H5 B, n, h⟩ := rfl
def GenA (l m : List Nat) (e : Nat → V) : List (Nat × V) → Prop
 | [] => True
 | (k, v) :: r => Gen l m (e k) v ∧ GenA l m e r
theorem aJ (l m : List Nat) (e : Nat → V) : GenA l m e [] = True := rfl
theorem ay (l m : List Nat) (e : Nat → V) (k : Nat) (v : V) (r : List (Nat × V)) : GenA l m e ((k, v) :: r) = (Gen l m (e k) v ∧ GenA l m e r) := rfl
theorem GenA.fin {l m : List Nat} {e : Nat → V} {X : List (Nat × V)} (h : GenA l m e X) (t : Nat) : Gen l m (e t) (xy X t) := by
 induction X with
 | nil => exact .inl rfl
 | cons x r ih =>
  obtain ⟨k, v⟩ := x
  rw [lg]
  split
  ·rename_i hk; subst hk; exact h.1
  ·exact ih h.2
def GenB (l m : List Nat) (b : Nat → Option (TypeId × List V)) : List (Nat × TypeId × List V) → Prop
 | [] => True
 | (k, x) :: r => (∃ b0 cs0, m[k]? = some b0 ∧ b b0 = some (x.1, cs0) ∧ GenL l m cs0 x.2) ∧ GenB l m b r
theorem aG {l m : List Nat} {b : Nat → Option (TypeId × List V)} {k : Nat} {x : TypeId × List V} {r : List (Nat × TypeId × List V)} (b0 : Nat) (cs0 : List V) (h1 : m[k]? = some b0) (h2 : b b0 = some (x.1, cs0)) (h3 : GenL l m cs0 x.2) (h4 : GenB l m b r) : GenB l m b ((k, x) :: r) := ⟨⟨b0, cs0, h1, h2, h3⟩, h4⟩
theorem GenB.fin {l m : List Nat} {b : Nat → Option (TypeId × List V)} {B : List (Nat × TypeId × List V)} (h : GenB l m b B) (k : Nat) (x : TypeId × List V) (hx : H5 B k = some x) : ∃ b0 cs0, m[k]? = some b0 ∧ b b0 = some (x.1, cs0) ∧ GenL l m cs0 x.2 := by
 induction B with
 | nil => cases hx
 | cons y r ih =>
  obtain ⟨k', v⟩ := y
  rw [Nb] at hx
  split at hx
  ·rename_i hk; subst hk; simp only [Option.some.injEq] at hx; subst hx; exact h.1
  ·exact ih h.2 hx
theorem aK (l m : List Nat) : GenL l m [] [] = True := rfl
theorem az (l m : List Nat) (x y : V) (xs ys : List V) : GenL l m (x :: xs) (y :: ys) = (Gen l m x y ∧ GenL l m xs ys) := rfl
theorem aN {l m : List Nat} {s : St} {X : List (Nat × V)} {B : List (Nat × TypeId × List V)} {n : Nat} {h : Nat → V} (hX : GenA l m s.env X) (hB : GenB l m s.bx B) (hh : ∀ t, Gen l m (s.hd t) (h t)) (hl : l.Nodup) (hm : m.Nodup) (hn : l.length ≤ n) (hn' : m.length ≤ n) : Keep l m s (mkA X B n h) where
 env := hX.fin
 hd := hh
 bx := hB.fin
 ndl := hl
 ndm := hm
 nidl := hn
 nidm := hn'
theorem bG (l m : List Nat) (f : Nat → V) : ∀ t, Gen l m (f t) ((fun _ => .top : Nat → V) t) := fun _ => .inl rfl
theorem bg {l m : List Nat} {b b' o : Nat} (h : (m.contains b && m.idxOf b == b') = true) : Gen l m (.ref b o) (.ref b' o) := by
 simp only [Bool.and_eq_true, beq_iff_eq, List.contains_iff_mem] at h
 refine .inr (.inl ⟨by simp [V.any, oL, h.1], by simp [V.map, h.2]⟩)
theorem Vq {l m : List Nat} {i j : Nat} {e : TypeId} {k : Nat} {xs ys : List V} (h : (l.contains i && l.idxOf i == j) = true) (hx : elE k xs ys) : Gen l m (.sl (.own i e) k xs) (.sl (.own j e) k ys) := by
 simp only [Bool.and_eq_true, beq_iff_eq, List.contains_iff_mem] at h
 refine .inr (.inr (.inr ⟨_, _, xs, ys, rfl, by simp [Tag.notIn, h.1], by simp [mQ, h.2], hx⟩))
theorem aU {l m : List Nat} {u v : Value} (h : u = v) : Gen l m (.c u) (.c v) := by subst h; exact of_eq_true (bV _ _ _)
theorem au {l m : List Nat} {k : IntKind} {a b : Int} (h : a = b) : Gen l m (.c (.int k a)) (.c (.int k b)) := by subst h; exact of_eq_true (bV _ _ _)
theorem Nc {l m : List Nat} {k : Nat} {xs ys : List V} (h : xs = ys) : Gen l m (.sl .fz k xs) (.sl .fz k ys) := by subst h; exact of_eq_true (bD _ _ _ _)
theorem di {l m : List Nat} {t : Tag} {k : Nat} {xs : List V} (h : xs = []) (ht : t.notNN = true := by rfl) : Gen l m (.c (.slice none 0 0)) (.sl t k xs) := by subst h; exact of_eq_true (Zr _ _ _ _ ht)
theorem bn {ι : Type} {D : Dw} {P : Program} [Tb P] {x : Code} {Q : Exit → St → Prop} {s : St} (S : ι → St) (Inv : ι → Prop) (μ : ι → Nat) (i0 : ι) (l m : List Nat) (hk : Keep l m s (S i0)) (h0 : Inv i0)
  (hr : ∀ i, Inv i → wpS D P x (Du S Inv μ i Q) (S i)) : Dq D P x Q s :=
 Zt S Inv μ i0 l m hk h0 (fun i hi s hs => by subst hs; exact hr i hi)
theorem acQ {ops : List Oper} {ks : List Kd} {q : Prop} (h1 : xm ops ks = true) (h2 : q) : xm ops ks = true ∧ q := ⟨h1, h2⟩
theorem bz {P : Program} [Tb P] {b want : Bool} {dsts : List (Option Nat)} {ops : List Oper} {Q : Exit → St → Prop} {o : Oper} {rest : List Oper} {ks : List Kd} {s : St} (ht : b = want → aH P s o (OV P dsts ops Q rest ks)) (hf : b = !want → pg P dsts ops Q rest (.p :: ks) (s.put o.dst (.c undef))) :
  yX P (some (.c (.bool b))) want dsts ops Q o rest ks s := JX P ht hf
theorem eu {P : Program} [Tb P] {g : FuncId} {args : List Operand} {d : Option Nat} {s s' : St} {K : Kd → St → Prop} {vs : List V} (r : V) (hg : GoodZ P g vs s s' r) (hvs : args.map s.ev = vs) (hK : K .z (s'.put d r)) : cu P (.fn g [] []) args d s K := by
 refine .inr ⟨s', r, ?_, hK⟩
 simpa [hvs] using hg
theorem P5 {P : Program} [Tb P] (s : St) (d : Option Nat) (src dst : TypeId) (b off : Nat) (K : Kd → St → Prop) : Ap P s d src dst (.ref b off) K = wX (iY P s src dst (.ref b off)) s d K := by
 rw [vH]
 have h1 : lh P src dst (.ref b off) = none := by unfold lh; cases qf P dst <;> rfl
 have h2 : (jD P src dst (.ref b off)).map (fun r => (r, s)) = none := rfl
 have h3 : lI P s src dst (.ref b off) = none := rfl
 rw [h1, h2, h3]
 simp only [bM, aV, or_false, false_or]
theorem dV {P : Program} [Tb P] (s : St) (d : Option Nat) (src dst : TypeId) (tg : Tag) (l : List Nat) (K : Kd → St → Prop) (hs : (elemT P src).bind (qf P) = some .u8) (hd : fK P dst = true) (hi : qf P dst = none) (he : elemT P dst = none) : Ap P s d src dst (.sl tg 1 (bv l)) K = K (kq [.sl tg 1 (bv l)] (.c (.string (sB l)))) (s.put d (.c (.string (sB l)))) := by
 have e1 : lh P src dst (.sl tg 1 (bv l)) = some (.c (.string (sB l))) := by
  have : strOfNums (l.map fun (b : Nat) => (b : Int)) = sB l := by
   apply ByteArray.ext
   simp [strOfNums, sB, Function.comp_def]
  simp [lh, hi, hs, hd, Va, this]
 rw [vH, e1]
 have h1 : (jD P src dst (.sl tg 1 (bv l))).map (fun r => (r, s)) = none := rfl
 have h2 : lI P s src dst (.sl tg 1 (bv l)) = none := by cases tg <;> simp [lI, he]
 have h3 : iY P s src dst (.sl tg 1 (bv l)) = none := rfl
 rw [h1, h2, h3]
 simp only [dJ, aV, bI, or_false]
theorem Vr (s : St) (d : Option Nat) (b o : Nat) (K : Kd → St → Prop) : TL s d (.ref b o) K = K (kq [.ref b o] (.ref b o)) (s.put d (.ref b o)) := rfl
theorem ZN (s : St) (d : Option Nat) (t : Tag) (k : Nat) (xs : List V) (i o : Nat) (K : Kd → St → Prop) : TL s d (.el t k xs i o) K = K (kq [.el t k xs i o] (.el t k xs i o)) (s.put d (.el t k xs i o)) := rfl
theorem ZO (s : St) (d : Option Nat) (f : FuncId) (x y : List V) (K : Kd → St → Prop) : TL s d (.fn f x y) K = K (kq [.fn f x y] (.fn f x y)) (s.put d (.fn f x y)) := rfl
theorem Ku (P : Program) (s : St) (d : Option Nat) (t : TypeId) (b off : Nat) (y : V) (K : Kd → St → Prop) : Eo P s d t (.ref b off) y K = iV ((jU P s t b off y).map fun s' => (.top, s')) d .x K := rfl
theorem Kv (P : Program) (s : St) (d : Option Nat) (t : TypeId) (id : Nat) (e : TypeId) (k : Nat) (xs : List V) (i off : Nat) (y : V) (K : Kd → St → Prop) : Eo P s d t (.el (.own id e) k xs i off) y K = (iV ((kK P s t id k xs i off y).map fun s' => (.top, s')) d (.w id k) K ∨ stF P s d t (.el (.own id e) k xs i off) y y.ids K) := rfl
theorem acR (e : Nat → V) (b : Nat → Option (TypeId × List V)) (n : Nat) (h : Nat → V) (v : V) : St.put ⟨e, b, n, h⟩ none v = ⟨e, b, n, h⟩ := rfl
def sbK (e : Nat → V) (bx : Nat → Option (TypeId × List V)) (nn : Nat) (hd : Nat → V) (b off n : Nat) (sz : Option Nat) (l h : Int) (cs : List V) : Option (V × St) :=
 if off = 0 ∧ sz = some 1 ∧ cs.length = n ∧ cs.all (fun v => v.free && v.one) = true ∧ 0 ≤ l ∧ l ≤ h ∧ h ≤ n then some (.sl .fz 1 ((cs.take h.toNat).drop l.toNat), ⟨iM (oZ b) e, upd (mX (oZ b) bx) b none, nn, iM (oZ b) hd⟩) else none
theorem Kw (P : Program) (e : Nat → V) (bx : Nat → Option (TypeId × List V)) (nn : Nat) (hd : Nat → V) (d : Option Nat) (t : TypeId) (b off : Nat) (lo hi : Option V) (l : List V) (K : Kd → St → Prop) : xu P ⟨e, bx, nn, hd⟩ d t (.ref b off) lo hi l K =
  iV ((bx b).bind fun y => (mF P t).bind fun p => (bdV lo 0).bind fun l => (bdV hi p.1).bind fun h => sbK e bx nn hd b off p.1 (tsz P p.2) l h y.2) d .z K := rfl
theorem acS (e : Nat → V) (bx : Nat → Option (TypeId × List V)) (nn : Nat) (hd : Nat → V) (b n : Nat) (l h : Int) (cs : List V) (h1 : cs.length = n) (h2 : cs.all (fun v => v.free && v.one) = true) (h3 : 0 ≤ l) (h4 : l ≤ h) (h5 : h ≤ n) :
  sbK e bx nn hd b 0 n (some 1) l h cs = some (.sl .fz 1 ((cs.take h.toNat).drop l.toNat), ⟨iM (oZ b) e, upd (mX (oZ b) bx) b none, nn, iM (oZ b) hd⟩) := if_pos ⟨rfl, rfl, h1, h2, h3, h4, h5⟩
theorem Vs (b : Nat) (v : V) : oZ b v = if v.any (fun _ => false) (fun j => j == b) false then .top else v := rfl
section
variable (v : Value) (e : TypeId) (id k i o b : Nat) (xs cs : List V) (f : FuncId)
theorem ael : V.ids (.c v) = [] := rfl
theorem ZP : V.ids (.sl (.own id e) k xs) = [id] := rfl
theorem acT : V.ids (.sl .fz k xs) = [] := rfl
theorem acU : V.ids (.sl .nn k xs) = [] := rfl
theorem ZQ : V.ids (.agg cs) = V.idsL cs := rfl
theorem ZR : V.ids (.tup cs) = V.idsL cs := rfl
theorem ZT : V.ids (.ref b o) = [] := rfl
theorem acV : V.ids (.el (.own id e) k xs i o) = [id] := rfl
theorem ZU : V.ids (.el .fz k xs i o) = [] := rfl
theorem acW : V.ids (.fn f xs cs) = V.idsL xs ++ V.idsL cs := rfl
theorem ZV : V.ids .top = [] := rfl
theorem ZW : V.ids .nif = [] := rfl
theorem Vt : V.idsL [] = [] := rfl
theorem P6 (x : V) : V.idsL (x :: xs) = V.ids x ++ V.idsL xs := rfl
theorem AB (s : St) (ids : List Nat) : s.freezeAll (i :: ids) = (s.mapV (frz i)).freezeAll ids := rfl
theorem acX : V.cs .nif = some [.nif] := rfl
theorem ZX : V.one .nif = true := rfl
theorem ZY (p : Tag → Bool) (q : Nat → Bool) (tp : Bool) : V.any p q tp .nif = false := rfl
theorem ZZ (τ : Tag → Tag) (ρ : Nat → Nat) : V.map τ ρ .nif = .nif := rfl
theorem P7 (n : Nat) : V.shift n .nif = .nif := rfl
theorem Z4 : V.idb .nif = 0 := rfl
theorem Vu : V.flat .nif = true := rfl
theorem Vw : V.free .nif = true := rfl
end
section
variable (P : Program) (e : Nat → V) (b : Nat → Option (TypeId × List V)) (n : Nat) (h : Nat → V)
theorem Vx (t : TypeId) (id k : Nat) (xs : List V) (i off : Nat) (x : V) : kK P ⟨e, b, n, h⟩ t id k xs i off x = (xs[i]?).bind fun x0 => x0.cs.bind fun c0 => x.cs.bind fun l => (nP x0 (c0.take off ++ l ++ c0.drop (off + l.length))).bind fun x1 =>
  if tsz P t = some l.length ∧ off + l.length ≤ c0.length ∧ l.all V.one = true ∧ x1.free = true then some ⟨iM (aF id k i x1) e, mX (aF id k i x1) b, n, iM (aF id k i x1) h⟩ else none := rfl
theorem H6 (a l : List V) : nP (.agg a) l = some (.agg l) := rfl
theorem P8 (v : Value) (y : V) : nP (.c v) [y] = if V.one (.c v) = true then some y else none := rfl
theorem Ky (t : Tag) (k : Nat) (xs : List V) (y : V) : nP (.sl t k xs) [y] = some y := rfl
variable (id k i : Nat) (x : V)
theorem Kz (ty : TypeId) (xs : List V) : aF id k i x (.sl (.own id ty) k xs) = .sl (.own id ty) k (xs.set i x) := by simp [aF]
theorem P9 (j : Nat) (ty : TypeId) (k' : Nat) (xs : List V) (hj : (j == id) = false) : aF id k i x (.sl (.own j ty) k' xs) = .sl (.own j ty) k' xs := by
 have : ¬ j = id := by simpa using hj
 simp [aF, this]
theorem H7 (ty : TypeId) (xs : List V) (i' off : Nat) : aF id k i x (.el (.own id ty) k xs i' off) = .el (.own id ty) k (xs.set i x) i' off := by simp [aF]
theorem KA (j : Nat) (ty : TypeId) (k' : Nat) (xs : List V) (i' off : Nat) (hj : (j == id) = false) : aF id k i x (.el (.own j ty) k' xs i' off) = .el (.own j ty) k' xs i' off := by
 have : ¬ j = id := by simpa using hj
 simp [aF, this]
theorem Qa (k' : Nat) (xs : List V) : aF id k i x (.sl .fz k' xs) = .sl .fz k' xs := rfl
theorem Qb (k' : Nat) (xs : List V) : aF id k i x (.sl .nn k' xs) = .sl .nn k' xs := rfl
theorem Vy (v : Value) : aF id k i x (.c v) = .c v := rfl
theorem KC (c o : Nat) : aF id k i x (.ref c o) = .ref c o := rfl
theorem KD : aF id k i x .top = .top := by show aC id .top = .top; unfold aC; split <;> rfl
theorem KE (l : List V) : aF id k i x (.agg l) = aC id (.agg l) := rfl
theorem KF (l : List V) : aF id k i x (.tup l) = aC id (.tup l) := rfl
theorem KG (k' : Nat) (xs : List V) (i' off : Nat) : aF id k i x (.el .fz k' xs i' off) = .el .fz k' xs i' off := rfl
theorem Qc (f : FuncId) (l m : List V) : aF id k i x (.fn f l m) = aC id (.fn f l m) := rfl
theorem KH : aF id k i x .nif = .nif := rfl
theorem mmT (k : IntKind) (a b : Int) : nN true (.c (.int k a)) (.c (.int k b)) = some (.c (.int k (max a b))) := by
 have h : (if b > a then b else a) = max a b := by split <;> omega
 rw [← h]; rfl
theorem mmF (k : IntKind) (a b : Int) : nN false (.c (.int k a)) (.c (.int k b)) = some (.c (.int k (min a b))) := by
 have h : (if b < a then b else a) = min a b := by split <;> omega
 rw [← h]; rfl
end
def pgf := aI @dS (aI @dU (aI @Vx (aI @H6 (aI @P8 (aI @Ky (aI @Kz (aI @P9 (aI @H7 (aI @KA (aI @Qa (aI @Qb (aI @Vy (aI @KC (aI @KD (aI @KE (aI @KF (aI @KG (aI @Qc (aI @KH (aI @mmT (aI @mmF (aI @ael (aI @ZP (aI @acT (aI @acU (aI @ZQ (aI @ZR (aI @ZT (aI @acV (aI @ZU (aI @acW (aI @ZV (aI @ZW (aI @Vt (aI @P6 (aI @AB (aI @acX (aI @ZX (aI @ZY (aI @ZZ (aI @P7 (aI @Z4 (aI @Vu (aI @Vw (aI @YJ (aI @G6 (aI @YK (aI @TI (aI @YL (aI @TJ @OM))))))))))))))))))))))))))))))))))))))))))))))))))
theorem Vz : yO (.c (.slice none 0 0)) = .n := rfl
theorem VA (id k : Nat) (e : TypeId) (xs : List V) : yO (.sl (.own id e) k xs) = .g id := rfl
def pgw := aI @Vz (aI @VA (aI @Kw (aI @acS (aI @Vs (aI @Zw (aI @Zx (aI @acK (aI @ad1 (aI @UE (aI @UF (aI @Y7 (aI @UG (aI @acr (aI @Y8 (aI @acE (aI @Zy (aI @ZJ (aI @ZK (aI @ZL (aI @Vh (aI @aec (aI @aed (aI @aee (aI @acR (aI @Vr (aI @ZN (aI @ZO (aI @Ku (aI @Kv (aI @Vb (aI @acD (aI @Zv (aI @Vd (aI @PU (aI @Dv (aI @Zz (aI @acF (aI @ZB (aI @PV (aI @ad5 (aI @ad6 (aI @ZC (aI @acG (aI @Ve (aI @ad7 (aI @ZE (aI @acH (aI @ZG (aI @ZH (aI @ad8 (aI @PW (aI @Vf (aI @PX (aI @Kq (aI @ZI (aI @Kr (aI @HY (aI @acJ (aI @ad9 (aI @aea (aI @aeb (aI @Vj (aI @Vk (aI @Vl (aI @Vm (aI @PY (aI @PZ (aI @ZM (aI @acL (aI @ae8 (aI @ae9 (aI @afa (aI @afb (aI @acM (aI @acN (aI @acO (aI @mZ (aI @lg (aI @Vp (aI @Nb (aI @acP (aI @P5 (aI @nX (aI @ai (aI @Cc (aI @EF (aI @J9 (aI @PT @Dv))))))))))))))))))))))))))))))))))))))))))))))))))))))))))))))))))))))))))))))))))))))))
def pgb := aI @Vo (aI @afc (aI @abB (aI @abC (aI @aef (aI @aeg (aI @aeh (aI @aei (aI @aej @aek))))))))
def pgn := aI @decide_true (aI @decide_false (aI @Nat.max_def (aI @Bool.not_eq_true (aI @Int.toNat_natCast (aI @Int.natCast_add (aI @Int.cast_ofNat_Int (aI @and_self (aI @not_true_eq_false (aI @not_false_eq_true (aI @Nat.le_refl (aI @Nat.add_zero (aI @Nat.zero_add (aI @eq_self.{1} (aI @Option.some.injEq.{0} (aI @List.getElem?_nil.{0} (aI @if_true.{1} (aI @if_false.{1} (aI @if_true.{0} @if_false.{0}))))))))))))))))))
def pgd := aI @decide_eq_true_eq (aI @decide_eq_false_iff_not (aI @beq_iff_eq.{0} (aI @beq_eq_false_iff_ne.{0} (aI @bne_iff_ne.{0} (aI @bne_eq_false_iff_eq.{0} (aI @Bool.not_eq_true' (aI @Bool.not_eq_false' (aI @Int.not_lt (aI @Int.not_le (aI @Nat.not_lt (aI @Nat.not_le (aI @ne_eq.{1} (aI @Bool.not_true (aI @Bool.not_false (aI @Bool.not_not (aI @Bool.true_eq_false (aI @Bool.false_eq_true (aI @not_false_eq_true (aI @not_true_eq_false @Decidable.not_not)))))))))))))))))))
def pgq := aI @ai (aI @Cc (aI @List.length_append.{0} (aI @List.length_cons.{0} (aI @List.length_nil.{0} (aI @List.length_map.{0, 0} @nX)))))
def pgo := aI pgs (aI pgl (aI pgx (aI pgw (aI pgf pgn))))
section
variable (P : Program) (s : St)
theorem acY (a : ResultVar) : o7 P s [a] = oK P s a := rfl
theorem acZ (a b : ResultVar) : o7 P s [a, b] = (oK P s a).bind fun x => (oK P s b).bind fun y => some (.tup [x, y]) := by
 simp only [o7, List.mapM_cons, List.mapM_nil]
 cases oK P s a <;> cases oK P s b <;> rfl
theorem ac0 (a b c : ResultVar) : o7 P s [a, b, c] = (oK P s a).bind fun x => (oK P s b).bind fun y => (oK P s c).bind fun z => some (.tup [x, y, z]) := by
 simp only [o7, List.mapM_cons, List.mapM_nil]
 cases oK P s a <;> cases oK P s b <;> cases oK P s c <;> rfl
theorem VB (t : Nat) : oK P s (.tmp t) = some (s.env t) := rfl
def ac1 (P : Program) (b : Nat → Option (TypeId × List V)) (x : V) (t : TypeId) : Option V := match x with | .ref k off => (b k).bind fun y => dI P t y.2 off | _ => none
theorem Qd (e : Nat → V) (b : Nat → Option (TypeId × List V)) (n : Nat) (h : Nat → V) (a : Nat) (t : TypeId) : oK P ⟨e, b, n, h⟩ (.cell a t) = ac1 P b (e a) t := by
 unfold ac1
 simp only [oK]
 cases e a <;> rfl
theorem VC (b : Nat → Option (TypeId × List V)) (k off : Nat) (t : TypeId) : ac1 P b (.ref k off) t = (b k).bind fun y => dI P t y.2 off := rfl
end
def pgr := aI @acY (aI @acZ (aI @ac0 (aI @VB (aI @Qd @VC))))
end Go.Pg
end
namespace Go.Proofs.YtaoejnjkmfkbeaaGreat
open Go Go.Pg
instance : Tb Tryz.prog where
 T _ := True
 keep _ _ _ _ := trivial
theorem mix : Tryz.prog.follows .mixedOrders = true := by kernel_rfl
end Go.Proofs.YtaoejnjkmfkbeaaGreat
