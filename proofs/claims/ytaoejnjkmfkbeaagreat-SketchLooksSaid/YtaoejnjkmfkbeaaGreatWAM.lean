/-
  Texts of this claim, merged; own names are short.
-/
import Derived.Test.YtaoejnjkmfkbeaaGreatWAL
import Derived.Test.YtaoejnjkmfkbeaaGreatProg
set_option linter.unusedVariables false
set_option linter.unusedSimpArgs false
set_option linter.unusedSectionVars false
set_option linter.defProp false
set_option maxRecDepth 100000
set_option maxHeartbeats 8000000
section
namespace Go.Pg
open Go
def tzc (P : Program) (t : TypeId) : Option (List V) := (iM P t).map fun z => z.cells.toList.map .c
section
variable (P : Program) (e : Nat → V) (b : Nat → Option (TypeId × List V)) (n : Nat) (h : Nat → V) (t : TypeId)
theorem Oy : lM P ⟨e, b, n, h⟩ t = (tzc P t).map fun l => (.ref n 0, ⟨e, upd b n (some (t, l)), n + 1, h⟩) := by simp only [lM, tzc, Option.map_map]; rfl
theorem V3 (x : V) : Du ⟨e, b, n, h⟩ t x = x.cs.map fun l => (.ref n 0, ⟨e, upd b n (some (t, l)), n + 1, h⟩) := rfl
theorem Td (k off : Nat) : iy P ⟨e, b, n, h⟩ t k off = (b k).bind fun x => aW P t x.2 off := rfl
theorem Oz (k off : Nat) (x : V) : fV P ⟨e, b, n, h⟩ t k off x = (b k).bind fun y => x.cs.bind fun l => if tsz P t = some l.length ∧ off + l.length ≤ y.2.length ∧ l.all V.one = true then some ⟨e, upd b k (some (y.1, y.2.take off ++ l ++ y.2.drop (off + l.length))), n, h⟩ else none := rfl
theorem Jh (src dst : TypeId) (k off : Nat) : eY P ⟨e, b, n, h⟩ src dst (.ref k off) = (b k).bind fun y => if Lp P src dst y.1 y.2.length off = true then some (.ref k off) else none := rfl
theorem iw (len : Nat) (parts : List (Nat × V)) : aZ P ⟨e, b, n, h⟩ t len parts = (elemT P t).bind fun el => (tapp P el).bind fun p => (zelem P el).bind fun z => (setAll p.1 (List.replicate len z) parts).bind fun xs =>
  if len * p.1 ≤ 16777216 then some (.sl (bsTag len n el) p.1 xs, ⟨e, b, n + 1, h⟩) else none := rfl
theorem Tf (id : Nat) (t : TypeId) : bsTag 0 id t = .nn := rfl
theorem Ti (l id : Nat) (t : TypeId) : bsTag (l + 1) id t = .own id t := rfl
def mkK (b : Nat) (l c : Int) (x : Option (V × St)) : Option (V × St) := if 0 ≤ l ∧ l ≤ c ∧ (b : Int) * c ≤ 281474976710656 ∧ c ≤ 9223372036854775807 then x else none
theorem V4 (b : Nat) (l c : Int) (x : Option (V × St)) (h : 0 ≤ l ∧ l ≤ c ∧ (b : Int) * c ≤ 281474976710656 ∧ c ≤ 9223372036854775807) : mkK b l c x = x := if_pos h
theorem Tj (k k' : IntKind) (l c : Int) : oH P ⟨e, b, n, h⟩ t (.c (.int k l)) (.c (.int k' c)) = (elemT P t).bind fun el => (tapp P el).bind fun p => (zelem P el).bind fun z => mkK p.2 l c (some (.sl (.own n el) p.1 (List.replicate l.toNat z), ⟨e, b, n + 1, h⟩)) := rfl
def apK (e : Nat → V) (b : Nat → Option (TypeId × List V)) (n : Nat) (h : Nat → V) (el k bytes : Nat) (x : V) (ys : List V) : Option (V × St) :=
 match x with
 | .c (.slice none 0 0) => if Fits ys.length bytes then some (.sl (.own n el) k ys, ⟨e, b, n + 1, h⟩) else none
 | .sl (.own id e') k' xs => if e' = el ∧ k' = k ∧ Fits (xs.length + ys.length) bytes then some (.sl (.own id el) k (xs ++ ys), ⟨kG (ak id) e, rP (ak id) b, max n (id + 1), kG (ak id) h⟩) else none
 | _ => none
theorem xA (t2 : TypeId) (x y : V) : fH P ⟨e, b, n, h⟩ t t2 x y = (elemT P t).bind fun el => (tapp P el).bind fun p => (tN P t2 p.1 y).bind fun ys => apK e b n h el p.1 p.2 x ys := by
 simp only [fH]
 cases elemT P t with
 | none => rfl
 | some el =>
  simp only [Option.bind_some]
  cases tapp P el with
  | none => rfl
  | some p =>
   simp only [Option.bind_some]
   cases tN P t2 p.1 y with
   | none => rfl
   | some ys => rfl
theorem Tm (el k bytes : Nat) (ys : List V) (hf : Fits ys.length bytes) : apK e b n h el k bytes (.c (.slice none 0 0)) ys = some (.sl (.own n el) k ys, ⟨e, b, n + 1, h⟩) := if_pos hf
theorem Tn (el k bytes id : Nat) (xs ys : List V) (hf : Fits (xs.length + ys.length) bytes) : apK e b n h el k bytes (.sl (.own id el) k xs) ys = some (.sl (.own id el) k (xs ++ ys), ⟨kG (ak id) e, rP (ak id) b, max n (id + 1), kG (ak id) h⟩) := if_pos ⟨rfl, rfl, hf⟩
end
section
variable (P : Program) (t : TypeId)
def ldK (ag : Option Bool) (sz : Option Nat) (cs : List V) (off : Nat) : Option V :=
 match ag with
 | some true => sz.bind fun n => if off + n ≤ cs.length then some (.agg ((cs.drop off).take n)) else none
 | some false => cs[off]?
 | none => none
theorem Ji (cs : List V) (off : Nat) : aW P t cs off = ldK (gU P t) (tsz P t) cs off := by
 unfold aW ldK; cases gU P t with
 | none => rfl
 | some b => cases b <;> rfl
theorem XE (sz : Option Nat) (cs : List V) (off : Nat) : ldK (some false) sz cs off = cs[off]? := rfl
theorem XF (n : Nat) (cs : List V) (off : Nat) : ldK (some true) (some n) cs off = if off + n ≤ cs.length then some (.agg ((cs.drop off).take n)) else none := rfl
theorem Tq (k off f : Nat) : faV P t (.ref k off) f = (gV P t f).bind fun p => (tsz P p.1).bind fun k' => if k' = 0 then none else some (.ref k (off + p.2)) := rfl
theorem V5 (tg : Tag) (j : Nat) (xs : List V) (i off f : Nat) : faV P t (.el tg j xs i off) f = (gV P t f).bind fun p => (tsz P p.1).bind fun k' => if k' = 0 then none else some (.el tg j xs i (off + p.2)) := rfl
theorem OA (cs : List V) (f : Nat) : pU P t (.agg cs) f = (gV P t f).bind fun p => aW P p.1 cs p.2 := rfl
theorem XG (tg : Tag) (k : Nat) (xs : List V) (ik : IntKind) (n : Int) (h0 : 0 ≤ n) (h : n < xs.length) : iaV P t (.sl tg k xs) (.c (.int ik n)) = if (elemT P t).bind (tsz P) = some k then some (.el tg k xs n.toNat 0) else none := by
 rw [VT]; by_cases he : (elemT P t).bind (tsz P) = some k <;> simp [he, h0, h]
theorem Tt (b off : Nat) (ik : IntKind) (n : Int) : iaV P t (.ref b off) (.c (.int ik n)) = (jb P t).bind fun p => (tsz P p.2).bind fun k => if 0 ≤ n ∧ n < p.1 then some (.ref b (off + n.toNat * k)) else none := rfl
theorem Tu (z : ByteArray) (ik : IntKind) (n : Int) (h0 : 0 ≤ n) (h : n < z.size) : ixV P t (.c (.string z)) (.c (.int ik n)) = if cO P t = true then some (.c (.int .u8 ((z.data.toList.getD n.toNat 0).toNat))) else none := by
 unfold ixV; by_cases he : cO P t = true <;> simp [he, h0, h]
theorem V6 (l : List Nat) (ik : IntKind) (n : Int) (ho : oct l) (h0 : 0 ≤ n) (h : n < l.length) : ixV P t (.c (.string (sB l))) (.c (.int ik n)) = if cO P t = true then some (.c (.int .u8 (l.getD n.toNat 0 : Nat))) else none := by
 rw [Tu P t _ _ _ h0 (by rw [jM]; exact h), Ey ho]
theorem Tv (cs : List V) (ik : IntKind) (n : Int) : ixV P t (.agg cs) (.c (.int ik n)) = (jb P t).bind fun p => (tsz P p.2).bind fun k => if 0 ≤ n ∧ n < p.1 then aW P p.2 cs (n.toNat * k) else none := rfl
def cvK (d : Option IntKind) (f : Option FloatKind) (n : Int) : Option V := match d with | some k => some (.c (.int k (k.wrap n))) | none => f.map fun k => .c (.float k (k.nearest n))
theorem Tz (src : TypeId) (k : IntKind) (n : Int) : jc P src t (.c (.int k n)) = if (P.underlying src).isSome = true then cvK (lK P t) (Z5 P t) n else none := by
 unfold jc
 cases lK P t with
 | none => rfl
 | some k' => rfl
theorem XH (k : IntKind) (f : Option FloatKind) (n : Int) : cvK (some k) f n = some (.c (.int k (k.wrap n))) := rfl
theorem Jj (src : TypeId) (z : ByteArray) : jc P src t (.c (.string z)) = if (P.underlying src).isSome && cO P t then some (.c (.string z)) else none := by
 unfold jc; cases lK P t <;> rfl
theorem OB (parts : List (Nat × V)) : nK P t parts = (tzc P t).bind fun l => (sD P t).bind fun ps => (lL ps l parts).map .agg := by
 simp only [nK, tzc]
 cases iM P t <;> rfl
theorem Jk (places : List (Nat × Nat)) (cells : List V) : lL places cells [] = some cells := rfl
def OC (p : Option (Nat × Nat)) (c : Option (List V)) (places : List (Nat × Nat)) (cells : List V) (rest : List (Nat × V)) : Option (List V) :=
 p.bind fun p => c.bind fun l => if l.length = p.2 ∧ p.1 + l.length ≤ cells.length then lL places (cells.take p.1 ++ l ++ cells.drop (p.1 + l.length)) rest else none
theorem Ez (places : List (Nat × Nat)) (cells : List V) (i : Nat) (v : V) (rest : List (Nat × V)) : lL places cells ((i, v) :: rest) = OC (places[i]?) v.cs places cells rest := by
 unfold OC
 rw [lL]
 cases places[i]? with
 | none => rfl
 | some p => cases v.cs <;> rfl
theorem TA (p : Nat × Nat) (l : List V) (places : List (Nat × Nat)) (cells : List V) (rest : List (Nat × V)) : OC (some p) (some l) places cells rest = if l.length = p.2 ∧ p.1 + l.length ≤ cells.length then lL places (cells.take p.1 ++ l ++ cells.drop (p.1 + l.length)) rest else none := rfl
theorem EC (k : Nat) (xs : List V) : setAll k xs [] = some xs := rfl
def V7 (c : Option (List V)) (fr : Bool) (k i : Nat) (v : V) (xs : List V) (rest : List (Nat × V)) : Option (List V) :=
 c.bind fun l => if l.length = k ∧ fr = true ∧ l.all V.one = true ∧ i < xs.length then setAll k (xs.set i v) rest else none
theorem Bv (k : Nat) (xs : List V) (i : Nat) (v : V) (rest : List (Nat × V)) : setAll k xs ((i, v) :: rest) = V7 v.cs v.free k i v xs rest := by
 unfold V7
 rw [setAll]
 cases v.cs <;> rfl
theorem V8 (l : List V) (fr : Bool) (k i : Nat) (v : V) (xs : List V) (rest : List (Nat × V)) : V7 (some l) fr k i v xs rest = if l.length = k ∧ fr = true ∧ l.all V.one = true ∧ i < xs.length then setAll k (xs.set i v) rest else none := rfl
theorem XI (b : Bool) : unV .not (.c (.bool b)) = some (.c (.bool (!b))) := rfl
theorem XJ (k : IntKind) (n : Int) : unV .neg (.c (.int k n)) = some (.c (.int k (k.wrap (0 - n)))) := rfl
theorem XK (k : IntKind) (n : Int) : unV .xor (.c (.int k n)) = some (.c (.int k (bits .xor k (if k.signed then -1 else k.max) n))) := rfl
theorem TB (xs ys : List V) : bn P .eql t (.agg xs) (.agg ys) = (mP P t).bind fun pl => (eqL pl xs ys).map fun b => .c (.bool b) := rfl
theorem TC (xs ys : List V) : bn P .neq t (.agg xs) (.agg ys) = (mP P t).bind fun pl => (eqL pl xs ys).map fun b => .c (.bool (!b)) := rfl
theorem TD (xs ys : List V) : eqL [] xs ys = some true := rfl
theorem OD (o : Nat) (k : EqK) (r : List (Nat × EqK)) (xs ys : List V) : eqL ((o, k) :: r) xs ys = eqK k xs[o]? ys[o]? (eqL r xs ys) := rfl
theorem XL (k : IntKind) (a b : Int) (z : Bool) : eqK .n (some (.c (.int k a))) (some (.c (.int k b))) (some z) = some ((a == b) && z) := by simp [eqK]
theorem XM (a b z : Bool) : eqK .b (some (.c (.bool a))) (some (.c (.bool b))) (some z) = some ((a == b) && z) := rfl
theorem XN (a b : ByteArray) (z : Bool) : eqK .s (some (.c (.string a))) (some (.c (.string b))) (some z) = some (decide (a = b) && z) := rfl
theorem OE : bn P .eql t (.c (.pointer none)) (.c (.pointer none)) = if dB P t = true then some (.c (.bool true)) else none := rfl
theorem OG : bn P .neq t (.c (.pointer none)) (.c (.pointer none)) = if dB P t = true then some (.c (.bool false)) else none := rfl
theorem OH (b o : Nat) : bn P .eql t (.ref b o) (.c (.pointer none)) = if dB P t = true then some (.c (.bool false)) else none := rfl
theorem OI (b o : Nat) : bn P .neq t (.ref b o) (.c (.pointer none)) = if dB P t = true then some (.c (.bool true)) else none := rfl
theorem Jl (b o : Nat) : bn P .neq t (.ref b o) (.ref b o) = if dB P t = true then some (.c (.bool false)) else none := by
 show (if dB P t = true ∧ b = b ∧ o = o then _ else _) = _
 by_cases h : dB P t = true <;> simp [h]
theorem Jm (b o : Nat) : bn P .eql t (.ref b o) (.ref b o) = if dB P t = true then some (.c (.bool true)) else none := by
 show (if dB P t = true ∧ b = b ∧ o = o then _ else _) = _
 by_cases h : dB P t = true <;> simp [h]
theorem TE : bn P .eql t (.c (.slice none 0 0)) (.c (.slice none 0 0)) = if (elemT P t).isSome = true then some (.c (.bool true)) else none := rfl
theorem V9 (k : Nat) (xs : List V) (hx : xs = []) : bn P .eql t (.sl .nn k xs) (.c (.slice none 0 0)) = if (elemT P t).isSome = true then some (.c (.bool false)) else none := by subst hx; rfl
theorem We (tg : Tag) (k : Nat) (x : V) (xs : List V) : bn P .eql t (.sl tg k (x :: xs)) (.c (.slice none 0 0)) = if (elemT P t).isSome = true then some (.c (.bool false)) else none := rfl
theorem Yz (k : IntKind) (a b : Int) (h : b ≠ 0) : bn P .quo t (.c (.int k a)) (.c (.int k b)) = some (.c (.int k (k.wrap (a.tdiv b)))) := by rw [Nh, if_neg h]
theorem YA (k : IntKind) (a b : Int) (h : b ≠ 0) : bn P .rem t (.c (.int k a)) (.c (.int k b)) = some (.c (.int k (a.tmod b))) := by rw [Nj, if_neg h]
theorem YB (k k2 : IntKind) (a b : Int) (h : 0 ≤ b) : bn P .shl t (.c (.int k a)) (.c (.int k2 b)) = some (.c (.int k (k.wrap (a * 2 ^ min b.toNat k.bits)))) := by rw [Nw, if_neg (by omega)]
theorem YC (k k2 : IntKind) (a b : Int) (h : 0 ≤ b) : bn P .shr t (.c (.int k a)) (.c (.int k2 b)) = some (.c (.int k (a.fdiv (2 ^ min b.toNat k.bits)))) := by rw [Ny, if_neg (by omega)]
theorem ED (l : List Nat) (lo hi : Option V) (a c : Int) (ha : bdV lo 0 = some a) (hc : bdV hi l.length = some c) (h0 : 0 ≤ a) (h1 : a ≤ c) (h2 : c ≤ l.length) : slV P t (.c (.string (sB l))) lo hi = if cO P t = true then some (.c (.string (sB ((l.take c.toNat).drop a.toNat)))) else none := by
 rw [SK, ha, jM, hc]
 simp only [Option.bind_some, VY]
 by_cases he : cO P t = true <;> simp [he, h0, h1, h2]
theorem Wh (l : List Nat) (k : IntKind) (a : Int) (h0 : 0 ≤ a) (h1 : a ≤ l.length) : slV P t (.c (.string (sB l))) (some (.c (.int k a))) none = if cO P t = true then some (.c (.string (sB (l.drop a.toNat)))) else none := by
 rw [ED P t l _ _ a l.length rfl rfl h0 h1 (Int.le_refl _)]
 simp
theorem Wi (l : List Nat) (k : IntKind) (c : Int) (h0 : 0 ≤ c) (h1 : c ≤ l.length) : slV P t (.c (.string (sB l))) none (some (.c (.int k c))) = if cO P t = true then some (.c (.string (sB (l.take c.toNat)))) else none := by
 rw [ED P t l _ _ 0 c rfl rfl (Int.le_refl _) h0 h1]
 simp
theorem Wj (l : List Nat) (k k' : IntKind) (a c : Int) (h0 : 0 ≤ a) (h1 : a ≤ c) (h2 : c ≤ l.length) : slV P t (.c (.string (sB l))) (some (.c (.int k a))) (some (.c (.int k' c))) = if cO P t = true then some (.c (.string (sB ((l.take c.toNat).drop a.toNat)))) else none :=
 ED P t l _ _ a c rfl rfl h0 h1 h2
end
theorem OJ (n : Int) (h0 : -9223372036854775808 ≤ n) (h1 : n ≤ 9223372036854775807) : IntKind.i64.wrap n = n := IntWalk.i64_in n ⟨h0, h1⟩
theorem YD (n : Int) (h0 : 0 ≤ n) (h1 : n ≤ 255) : IntKind.u8.wrap n = n := IntWalk.u8_in n ⟨h0, h1⟩
theorem U8 (n : Int) (h0 : 0 ≤ n) (h1 : n ≤ 18446744073709551615) : IntKind.u64.wrap n = n := IntWalk.u64_in n ⟨h0, h1⟩
theorem XO (n : Int) (h0 : 0 ≤ n) (h1 : n ≤ 4294967295) : IntKind.u32.wrap n = n := IntWalk.u32_in n ⟨h0, h1⟩
theorem XP (p : Prop) [Decidable p] (h : p) : decide p = true := decide_eq_true h
theorem XQ (p : Prop) [Decidable p] (h : ¬ p) : decide p = false := decide_eq_false h
theorem XR (a b : Int) (h : a = b) : (a == b) = true := by simp [h]
theorem XT (a b : Int) (h : a ≠ b) : (a == b) = false := by simp [h]
theorem XU (a b : Int) (h : a ≠ b) : (a != b) = true := by simp [h]
theorem XV (a b : Int) (h : a = b) : (a != b) = false := by simp [h]
def EE : List (Nat × V) → Nat → V
 | [], _ => .top
 | (k, v) :: r, t => if t = k then v else EE r t
theorem OL (t : Nat) : EE [] t = .top := rfl
theorem Gj (k : Nat) (v : V) (r : List (Nat × V)) (t : Nat) : EE ((k, v) :: r) t = if t = k then v else EE r t := rfl
def EF : List (Nat × TypeId × List V) → Nat → Option (TypeId × List V)
 | [], _ => none
 | (k, v) :: r, t => if t = k then some v else EF r t
theorem OM (t : Nat) : EF [] t = none := rfl
theorem Gl (k : Nat) (v : TypeId × List V) (r : List (Nat × TypeId × List V)) (t : Nat) : EF ((k, v) :: r) t = if t = k then some v else EF r t := rfl
def mkA (X : List (Nat × V)) (B : List (Nat × TypeId × List V)) (n : Nat) (h : Nat → V) : St := ⟨EE X, EF B, n, h⟩
theorem Wl (X : List (Nat × V)) (B : List (Nat × TypeId × List V)) (n : Nat) (h : Nat → V) : mkA X B n h = ⟨EE X, EF B, n, h⟩ := rfl
def GenA (l m : List Nat) (e : Nat → V) : List (Nat × V) → Prop
 | [] => True
 | (k, v) :: r => Gen l m (e k) v ∧ GenA l m e r
theorem bV (l m : List Nat) (e : Nat → V) : GenA l m e [] = True := rfl
theorem bI (l m : List Nat) (e : Nat → V) (k : Nat) (v : V) (r : List (Nat × V)) : GenA l m e ((k, v) :: r) = (Gen l m (e k) v ∧ GenA l m e r) := rfl
theorem GenA.fin {l m : List Nat} {e : Nat → V} {X : List (Nat × V)} (h : GenA l m e X) (t : Nat) : Gen l m (e t) (EE X t) := by
 induction X with
 | nil => exact .inl rfl
 | cons x r ih =>
  obtain ⟨k, v⟩ := x
  rw [Gj]
  split
  ·rename_i hk; subst hk; exact h.1
  ·exact ih h.2
def GenB (l m : List Nat) (b : Nat → Option (TypeId × List V)) : List (Nat × TypeId × List V) → Prop
 | [] => True
 | (k, x) :: r => (∃ b0 cs0, m[k]? = some b0 ∧ b b0 = some (x.1, cs0) ∧ GenL l m cs0 x.2) ∧ GenB l m b r
theorem bQ {l m : List Nat} {b : Nat → Option (TypeId × List V)} {k : Nat} {x : TypeId × List V} {r : List (Nat × TypeId × List V)} (b0 : Nat) (cs0 : List V) (h1 : m[k]? = some b0) (h2 : b b0 = some (x.1, cs0)) (h3 : GenL l m cs0 x.2) (h4 : GenB l m b r) : GenB l m b ((k, x) :: r) := ⟨⟨b0, cs0, h1, h2, h3⟩, h4⟩
theorem GenB.fin {l m : List Nat} {b : Nat → Option (TypeId × List V)} {B : List (Nat × TypeId × List V)} (h : GenB l m b B) (k : Nat) (x : TypeId × List V) (hx : EF B k = some x) : ∃ b0 cs0, m[k]? = some b0 ∧ b b0 = some (x.1, cs0) ∧ GenL l m cs0 x.2 := by
 induction B with
 | nil => cases hx
 | cons y r ih =>
  obtain ⟨k', v⟩ := y
  rw [Gl] at hx
  split at hx
  ·rename_i hk; subst hk; simp only [Option.some.injEq] at hx; subst hx; exact h.1
  ·exact ih h.2 hx
theorem bW (l m : List Nat) : GenL l m [] [] = True := rfl
theorem bJ (l m : List Nat) (x y : V) (xs ys : List V) : GenL l m (x :: xs) (y :: ys) = (Gen l m x y ∧ GenL l m xs ys) := rfl
theorem bZ {l m : List Nat} {s : St} {X : List (Nat × V)} {B : List (Nat × TypeId × List V)} {n : Nat} {h : Nat → V} (hX : GenA l m s.env X) (hB : GenB l m s.bx B) (hh : ∀ t, Gen l m (s.hd t) (h t)) (hl : l.Nodup) (hm : m.Nodup) (hn : l.length ≤ n) (hn' : m.length ≤ n) : Keep l m s (mkA X B n h) where
 env := hX.fin
 hd := hh
 bx := hB.fin
 ndl := hl
 ndm := hm
 nidl := hn
 nidm := hn'
theorem fC (l m : List Nat) (f : Nat → V) : ∀ t, Gen l m (f t) ((fun _ => .top : Nat → V) t) := fun _ => .inl rfl
theorem dK {l m : List Nat} {b b' o : Nat} (h : (m.contains b && m.idxOf b == b') = true) : Gen l m (.ref b o) (.ref b' o) := by
 simp only [Bool.and_eq_true, beq_iff_eq, List.contains_iff_mem] at h
 refine .inr (.inl ⟨by simp [V.any, jY, h.1], by simp [V.map, h.2]⟩)
theorem OO {l m : List Nat} {i j : Nat} {e : TypeId} {k : Nat} {xs ys : List V} (h : (l.contains i && l.idxOf i == j) = true) (hx : elE k xs ys) : Gen l m (.sl (.own i e) k xs) (.sl (.own j e) k ys) := by
 simp only [Bool.and_eq_true, beq_iff_eq, List.contains_iff_mem] at h
 refine .inr (.inr (.inr ⟨_, _, xs, ys, rfl, by simp [Tag.notIn, h.1], by simp [jk, h.2], hx⟩))
theorem dQ {l m : List Nat} {u v : Value} (h : u = v) : Gen l m (.c u) (.c v) := by subst h; exact of_eq_true (gK _ _ _)
theorem aX {l m : List Nat} {k : IntKind} {a b : Int} (h : a = b) : Gen l m (.c (.int k a)) (.c (.int k b)) := by subst h; exact of_eq_true (gK _ _ _)
theorem dR {l m : List Nat} {t : Tag} {k : Nat} {xs : List V} (h : xs = []) (ht : t.notNN = true := by rfl) : Gen l m (.c (.slice none 0 0)) (.sl t k xs) := by subst h; exact of_eq_true (SY _ _ _ _ ht)
theorem aK {ι : Type} {D : Dw} {P : Program} [Tb P] {x : Code} {Q : Exit → St → Prop} {s : St} (S : ι → St) (Inv : ι → Prop) (μ : ι → Nat) (i0 : ι) (l m : List Nat) (hk : Keep l m s (S i0)) (h0 : Inv i0)
  (hr : ∀ i, Inv i → wpS D P x (Bq S Inv μ i Q) (S i)) : A8 D P x Q s :=
 S9 S Inv μ i0 l m hk h0 (fun i hi s hs => by subst hs; exact hr i hi)
theorem Wn {ops : List Oper} {ks : List Kd} {q : Prop} (h1 : qj ops ks = true) (h2 : q) : qj ops ks = true ∧ q := ⟨h1, h2⟩
theorem gY {P : Program} [Tb P] {b want : Bool} {dsts : List (Option Nat)} {ops : List Oper} {Q : Exit → St → Prop} {o : Oper} {rest : List Oper} {ks : List Kd} {s : St} (ht : b = want → ai P s o (Il P dsts ops Q rest ks)) (hf : b = !want → kF P dsts ops Q rest (.p :: ks) (s.put o.dst (.c undef))) :
  rM P (some (.c (.bool b))) want dsts ops Q o rest ks s := Eh P ht hf
theorem XW {P : Program} [Tb P] {g : FuncId} {args : List Operand} {d : Option Nat} {s s' : St} {K : Kd → St → Prop} {vs : List V} (r : V) (hg : GoodZ P g vs s s' r) (hvs : args.map s.ev = vs) (hK : K .z (s'.put d r)) : iP P (.fn g [] []) args d s K := by
 refine .inr ⟨s', r, ?_, hK⟩
 simpa [hvs] using hg
theorem Jn {P : Program} [Tb P] (s : St) (d : Option Nat) (src dst : TypeId) (b off : Nat) (K : Kd → St → Prop) : xx P s d src dst (.ref b off) K = qf (eY P s src dst (.ref b off)) s d K := by
 rw [uM]
 have h1 : jc P src dst (.ref b off) = none := by unfold jc; cases lK P dst <;> rfl
 have h2 : (fZ P src dst (.ref b off)).map (fun r => (r, s)) = none := rfl
 have h3 : jW P s src dst (.ref b off) = none := rfl
 rw [h1, h2, h3]
 simp only [aH, au, or_false, false_or]
theorem OQ (s : St) (d : Option Nat) (b o : Nat) (K : Kd → St → Prop) : MI s d (.ref b o) K = K (kq [.ref b o] (.ref b o)) (s.put d (.ref b o)) := rfl
theorem TF (s : St) (d : Option Nat) (t : Tag) (k : Nat) (xs : List V) (i o : Nat) (K : Kd → St → Prop) : MI s d (.el t k xs i o) K = K (kq [.el t k xs i o] (.el t k xs i o)) (s.put d (.el t k xs i o)) := rfl
theorem TG (s : St) (d : Option Nat) (f : FuncId) (x y : List V) (K : Kd → St → Prop) : MI s d (.fn f x y) K = K (kq [.fn f x y] (.fn f x y)) (s.put d (.fn f x y)) := rfl
theorem EG (P : Program) (s : St) (d : Option Nat) (t : TypeId) (b off : Nat) (y : V) (K : Kd → St → Prop) : yC P s d t (.ref b off) y K = eH ((fV P s t b off y).map fun s' => (.top, s')) d .x K := rfl
theorem EH (P : Program) (s : St) (d : Option Nat) (t : TypeId) (id : Nat) (e : TypeId) (k : Nat) (xs : List V) (i off : Nat) (y : V) (K : Kd → St → Prop) : yC P s d t (.el (.own id e) k xs i off) y K = (eH ((gW P s t id k xs i off y).map fun s' => (.top, s')) d (.w id k) K ∨ stF P s d t (.el (.own id e) k xs i off) y y.ids K) := rfl
theorem Wp (e : Nat → V) (b : Nat → Option (TypeId × List V)) (n : Nat) (h : Nat → V) (v : V) : St.put ⟨e, b, n, h⟩ none v = ⟨e, b, n, h⟩ := rfl
def sbK (e : Nat → V) (bx : Nat → Option (TypeId × List V)) (nn : Nat) (hd : Nat → V) (b off n : Nat) (sz : Option Nat) (l h : Int) (cs : List V) : Option (V × St) :=
 if off = 0 ∧ sz = some 1 ∧ cs.length = n ∧ cs.all (fun v => v.free && v.one) = true ∧ 0 ≤ l ∧ l ≤ h ∧ h ≤ n then some (.sl .fz 1 ((cs.take h.toNat).drop l.toNat), ⟨kG (kw b) e, upd (rP (kw b) bx) b none, nn, kG (kw b) hd⟩) else none
theorem EI (P : Program) (e : Nat → V) (bx : Nat → Option (TypeId × List V)) (nn : Nat) (hd : Nat → V) (d : Option Nat) (t : TypeId) (b off : Nat) (lo hi : Option V) (l : List V) (K : Kd → St → Prop) : qo P ⟨e, bx, nn, hd⟩ d t (.ref b off) lo hi l K =
  eH ((bx b).bind fun y => (jb P t).bind fun p => (bdV lo 0).bind fun l => (bdV hi p.1).bind fun h => sbK e bx nn hd b off p.1 (tsz P p.2) l h y.2) d .z K := rfl
theorem Wq (e : Nat → V) (bx : Nat → Option (TypeId × List V)) (nn : Nat) (hd : Nat → V) (b n : Nat) (l h : Int) (cs : List V) (h1 : cs.length = n) (h2 : cs.all (fun v => v.free && v.one) = true) (h3 : 0 ≤ l) (h4 : l ≤ h) (h5 : h ≤ n) :
  sbK e bx nn hd b 0 n (some 1) l h cs = some (.sl .fz 1 ((cs.take h.toNat).drop l.toNat), ⟨kG (kw b) e, upd (rP (kw b) bx) b none, nn, kG (kw b) hd⟩) := if_pos ⟨rfl, rfl, h1, h2, h3, h4, h5⟩
theorem OT (b : Nat) (v : V) : kw b v = if v.any (fun _ => false) (fun j => j == b) false then .top else v := rfl
section
variable (v : Value) (e : TypeId) (id k i o b : Nat) (xs cs : List V) (f : FuncId)
theorem XX : V.ids (.c v) = [] := rfl
theorem TI : V.ids (.sl (.own id e) k xs) = [id] := rfl
theorem Ws : V.ids (.sl .fz k xs) = [] := rfl
theorem Wu : V.ids (.sl .nn k xs) = [] := rfl
theorem TJ : V.ids (.agg cs) = V.idsL cs := rfl
theorem TK : V.ids (.tup cs) = V.idsL cs := rfl
theorem TL : V.ids (.ref b o) = [] := rfl
theorem Wv : V.ids (.el (.own id e) k xs i o) = [id] := rfl
theorem TM : V.ids (.el .fz k xs i o) = [] := rfl
theorem Wx : V.ids (.fn f xs cs) = V.idsL xs ++ V.idsL cs := rfl
theorem TN : V.ids .top = [] := rfl
theorem TP : V.ids .nif = [] := rfl
theorem OU : V.idsL [] = [] := rfl
theorem Jo (x : V) : V.idsL (x :: xs) = V.ids x ++ V.idsL xs := rfl
theorem uS (s : St) (ids : List Nat) : s.freezeAll (i :: ids) = (s.mapV (frz i)).freezeAll ids := rfl
theorem Wy : V.cs .nif = some [.nif] := rfl
theorem TQ : V.one .nif = true := rfl
theorem TR (p : Tag → Bool) (q : Nat → Bool) (tp : Bool) : V.any p q tp .nif = false := rfl
theorem TS (τ : Tag → Tag) (ρ : Nat → Nat) : V.map τ ρ .nif = .nif := rfl
theorem Jp (n : Nat) : V.shift n .nif = .nif := rfl
theorem TT : V.idb .nif = 0 := rfl
theorem OV : V.flat .nif = true := rfl
theorem OW : V.free .nif = true := rfl
end
section
variable (P : Program) (e : Nat → V) (b : Nat → Option (TypeId × List V)) (n : Nat) (h : Nat → V)
theorem OX (t : TypeId) (id k : Nat) (xs : List V) (i off : Nat) (x : V) : gW P ⟨e, b, n, h⟩ t id k xs i off x = (xs[i]?).bind fun x0 => x0.cs.bind fun c0 => x.cs.bind fun l => (jE x0 (c0.take off ++ l ++ c0.drop (off + l.length))).bind fun x1 =>
  if tsz P t = some l.length ∧ off + l.length ≤ c0.length ∧ l.all V.one = true ∧ x1.free = true then some ⟨kG (ah id k i x1) e, rP (ah id k i x1) b, n, kG (ah id k i x1) h⟩ else none := rfl
theorem Bz (a l : List V) : jE (.agg a) l = some (.agg l) := rfl
theorem Jq (v : Value) (y : V) : jE (.c v) [y] = if V.one (.c v) = true then some y else none := rfl
theorem EJ (t : Tag) (k : Nat) (xs : List V) (y : V) : jE (.sl t k xs) [y] = some y := rfl
variable (id k i : Nat) (x : V)
theorem EK (ty : TypeId) (xs : List V) : ah id k i x (.sl (.own id ty) k xs) = .sl (.own id ty) k (xs.set i x) := by simp [ah]
theorem Jr (j : Nat) (ty : TypeId) (k' : Nat) (xs : List V) (hj : (j == id) = false) : ah id k i x (.sl (.own j ty) k' xs) = .sl (.own j ty) k' xs := by
 have : ¬ j = id := by simpa using hj
 simp [ah, this]
theorem BA (ty : TypeId) (xs : List V) (i' off : Nat) : ah id k i x (.el (.own id ty) k xs i' off) = .el (.own id ty) k (xs.set i x) i' off := by simp [ah]
theorem EL (j : Nat) (ty : TypeId) (k' : Nat) (xs : List V) (i' off : Nat) (hj : (j == id) = false) : ah id k i x (.el (.own j ty) k' xs i' off) = .el (.own j ty) k' xs i' off := by
 have : ¬ j = id := by simpa using hj
 simp [ah, this]
theorem Js (k' : Nat) (xs : List V) : ah id k i x (.sl .fz k' xs) = .sl .fz k' xs := rfl
theorem Jt (k' : Nat) (xs : List V) : ah id k i x (.sl .nn k' xs) = .sl .nn k' xs := rfl
theorem OY (v : Value) : ah id k i x (.c v) = .c v := rfl
theorem EM (c o : Nat) : ah id k i x (.ref c o) = .ref c o := rfl
theorem EN : ah id k i x .top = .top := by show ak id .top = .top; unfold ak; split <;> rfl
theorem EO (l : List V) : ah id k i x (.agg l) = ak id (.agg l) := rfl
theorem EP (l : List V) : ah id k i x (.tup l) = ak id (.tup l) := rfl
theorem EQ (k' : Nat) (xs : List V) (i' off : Nat) : ah id k i x (.el .fz k' xs i' off) = .el .fz k' xs i' off := rfl
theorem Ju (f : FuncId) (l m : List V) : ah id k i x (.fn f l m) = ak id (.fn f l m) := rfl
theorem ER : ah id k i x .nif = .nif := rfl
theorem mmT (k : IntKind) (a b : Int) : jC true (.c (.int k a)) (.c (.int k b)) = some (.c (.int k (max a b))) := by
 have h : (if b > a then b else a) = max a b := by split <;> omega
 rw [← h]; rfl
theorem mmF (k : IntKind) (a b : Int) : jC false (.c (.int k a)) (.c (.int k b)) = some (.c (.int k (min a b))) := by
 have h : (if b < a then b else a) = min a b := by split <;> omega
 rw [← h]; rfl
end
def pgf := aI @bz (aI @bC (aI @OX (aI @Bz (aI @Jq (aI @EJ (aI @EK (aI @Jr (aI @BA (aI @EL (aI @Js (aI @Jt (aI @OY (aI @EM (aI @EN (aI @EO (aI @EP (aI @EQ (aI @Ju (aI @ER (aI @mmT (aI @mmF (aI @XX (aI @TI (aI @Ws (aI @Wu (aI @TJ (aI @TK (aI @TL (aI @Wv (aI @TM (aI @Wx (aI @TN (aI @TP (aI @OU (aI @Jo (aI @uS (aI @Wy (aI @TQ (aI @TR (aI @TS (aI @Jp (aI @TT (aI @OV (aI @OW (aI @Rq (aI @AP (aI @Rt (aI @MF (aI @Ru (aI @MG @Ig))))))))))))))))))))))))))))))))))))))))))))))))))
theorem OZ : rC (.c (.slice none 0 0)) = .n := rfl
theorem O0 (id k : Nat) (e : TypeId) (xs : List V) : rC (.sl (.own id e) k xs) = .g id := rfl
def pgw := aI @OZ (aI @O0 (aI @EI (aI @Wq (aI @OT (aI @Tf (aI @Ti (aI @V9 (aI @XA (aI @NL (aI @NM (aI @Sl (aI @NP (aI @VO (aI @Sm (aI @V4 (aI @Tj (aI @TB (aI @TC (aI @TD (aI @OD (aI @XL (aI @XM (aI @XN (aI @Wp (aI @OQ (aI @TF (aI @TG (aI @EG (aI @EH (aI @Oy (aI @V3 (aI @Td (aI @Oz (aI @Jh (aI @xA (aI @Tm (aI @Tn (aI @Ji (aI @XE (aI @XF (aI @Tq (aI @V5 (aI @OA (aI @XG (aI @Tt (aI @V6 (aI @Tv (aI @Tz (aI @XH (aI @Jj (aI @OB (aI @Jk (aI @Ez (aI @TA (aI @EC (aI @Bv (aI @V8 (aI @XI (aI @XJ (aI @XK (aI @OE (aI @OG (aI @OH (aI @OI (aI @Jl (aI @Jm (aI @TE (aI @We (aI @Yz (aI @YA (aI @YB (aI @YC (aI @Wh (aI @Wi (aI @Wj (aI @OL (aI @Gj (aI @OM (aI @Gl (aI @Wl (aI @Jn (aI @jM (aI @uP (aI @bU (aI @yR (aI @Ew (aI @Jg @xA)))))))))))))))))))))))))))))))))))))))))))))))))))))))))))))))))))))))))))))))))))))))
def pgb := aI @OJ (aI @YD (aI @U8 (aI @XO (aI @XP (aI @XQ (aI @XR (aI @XT (aI @XU @XV))))))))
def pgn := aI @decide_true (aI @decide_false (aI @Nat.max_def (aI @Bool.not_eq_true (aI @Int.toNat_natCast (aI @Int.natCast_add (aI @Int.cast_ofNat_Int (aI @and_self (aI @not_true_eq_false (aI @not_false_eq_true (aI @Nat.le_refl (aI @Nat.add_zero (aI @Nat.zero_add (aI @eq_self.{1} (aI @Option.some.injEq.{0} (aI @List.getElem?_nil.{0} (aI @if_true.{1} (aI @if_false.{1} (aI @if_true.{0} @if_false.{0}))))))))))))))))))
def pgd := aI @decide_eq_true_eq (aI @decide_eq_false_iff_not (aI @beq_iff_eq.{0} (aI @beq_eq_false_iff_ne.{0} (aI @bne_iff_ne.{0} (aI @bne_eq_false_iff_eq.{0} (aI @Bool.not_eq_true' (aI @Bool.not_eq_false' (aI @Int.not_lt (aI @Int.not_le (aI @Nat.not_lt (aI @Nat.not_le (aI @ne_eq.{1} (aI @Bool.not_true (aI @Bool.not_false (aI @Bool.not_not (aI @Bool.true_eq_false (aI @Bool.false_eq_true (aI @not_false_eq_true (aI @not_true_eq_false @Decidable.not_not)))))))))))))))))))
def pgq := aI @uP (aI @bU (aI @List.length_append.{0} (aI @List.length_cons.{0} (aI @List.length_nil.{0} (aI @List.length_map.{0, 0} @jM)))))
def pgo := aI pgs (aI pgl (aI pgx (aI pgw (aI pgf pgn))))
section
variable (P : Program) (s : St)
theorem WA (a : ResultVar) : lH P s [a] = jX P s a := rfl
theorem WB (a b : ResultVar) : lH P s [a, b] = (jX P s a).bind fun x => (jX P s b).bind fun y => some (.tup [x, y]) := by
 simp only [lH, List.mapM_cons, List.mapM_nil]
 cases jX P s a <;> cases jX P s b <;> rfl
theorem WC (a b c : ResultVar) : lH P s [a, b, c] = (jX P s a).bind fun x => (jX P s b).bind fun y => (jX P s c).bind fun z => some (.tup [x, y, z]) := by
 simp only [lH, List.mapM_cons, List.mapM_nil]
 cases jX P s a <;> cases jX P s b <;> cases jX P s c <;> rfl
theorem O1 (t : Nat) : jX P s (.tmp t) = some (s.env t) := rfl
def WE (P : Program) (b : Nat → Option (TypeId × List V)) (x : V) (t : TypeId) : Option V := match x with | .ref k off => (b k).bind fun y => aW P t y.2 off | _ => none
theorem Jv (e : Nat → V) (b : Nat → Option (TypeId × List V)) (n : Nat) (h : Nat → V) (a : Nat) (t : TypeId) : jX P ⟨e, b, n, h⟩ (.cell a t) = WE P b (e a) t := by
 unfold WE
 simp only [jX]
 cases e a <;> rfl
theorem O3 (b : Nat → Option (TypeId × List V)) (k off : Nat) (t : TypeId) : WE P b (.ref k off) t = (b k).bind fun y => aW P t y.2 off := rfl
end
def pgr := aI @WA (aI @WB (aI @WC (aI @O1 (aI @Jv @O3))))
end Go.Pg
end
namespace Go.Proofs.YtaoejnjkmfkbeaaGreat
open Go Go.Pg
instance : Tb Tryz.prog where
 T _ := True
 keep _ _ _ _ := trivial
theorem mix : Tryz.prog.follows .mixedOrders = true := by kernel_rfl
theorem tk {p : Prop} (h : p := by (repeat' apply aI) <;> (show _ = _) <;> kernel_rfl) : p := h
abbrev yB (t n : Nat) (a : Bool) (i : Option IntKind) (s b : Bool) (e : Option TypeId) (w : Nat) : Prop := (Tryz.prog.underlying t).isSome = true ∧ tsz Tryz.prog t = some n ∧ gU Tryz.prog t = some a ∧ lK Tryz.prog t = i ∧ cO Tryz.prog t = s ∧ ig Tryz.prog t = b ∧ elemT Tryz.prog t = e ∧ tapp Tryz.prog t = some (n, w)
abbrev yS (t : Nat) (i : Option IntKind) (s b : Bool) (e : Option TypeId) (w : Nat) (z : Value) : Prop := yB t 1 false i s b e w ∧ tzc Tryz.prog t = some [.c z] ∧ zelem Tryz.prog t = some (.c z)
abbrev yI (t : Nat) (i : IntKind) (w : Nat) : Prop := yS t (some i) false false none w (.int i 0)
abbrev yL (t e : Nat) : Prop := yS t none false false (some e) 24 (.slice none 0 0)
abbrev yA (t n w : Nat) (l : List V) : Prop := yB t n true none false false none w ∧ tzc Tryz.prog t = some l ∧ zelem Tryz.prog t = some (.agg l)
abbrev yP (t : Nat) (l : List (Nat × Nat)) : Prop := sD Tryz.prog t = some l
abbrev y0 : V := .c (.int .i64 0)
abbrev yu : V := .c (.int .u64 0)
abbrev yf : V := .c (.bool false)
abbrev yn : V := .c (.slice none 0 0)
abbrev yF (t j a b : Nat) : Prop := gV Tryz.prog t j = some (a, b)
theorem y2 : yI 2 .i64 8 := tk
theorem y3 : yI 3 .i64 8 := tk
theorem y4 : yS 4 none false true none 1 (.bool false) := tk
theorem y5 : yI 5 .u8 1 := tk
theorem y6 : yI 6 .u8 1 := tk
theorem y7 : yA 7 4 24 [y0, y0, yf, .c (.int .u8 0)] ∧ yF 7 0 2 0 ∧ yF 7 1 3 1 ∧ yF 7 2 4 2 ∧ yF 7 3 6 3 ∧ yP 7 [(0, 1), (1, 1), (2, 1), (3, 1)] ∧ mP Tryz.prog 7 = some [(0, .n), (1, .n), (2, .b), (3, .n)] := tk
theorem y9 : yS 9 none true false none 16 (.string ⟨#[]⟩) := tk
theorem y12 : yI 12 .u64 8 := tk
theorem y13 : yA 13 2 24 [.c (.string ⟨#[]⟩), yu] ∧ yF 13 0 9 0 ∧ yF 13 1 12 1 ∧ yP 13 [(0, 1), (1, 1)] := tk
theorem y16 : yS 16 none false false none 8 (.pointer none) ∧ dB Tryz.prog 16 = true ∧ iO Tryz.prog 16 = some 278 := tk
theorem y17 : yS 17 none false false none 8 (.pointer none) ∧ dB Tryz.prog 17 = true ∧ iO Tryz.prog 17 = some 286 := tk
theorem y18 : yA 18 1 8 [.c (.pointer none)] ∧ yF 18 0 17 0 ∧ yP 18 [(0, 1)] := tk
theorem y21 : yI 21 .i32 4 := tk
theorem y22 : yL 22 3 := tk
theorem y23 : yI 23 .u64 8 := tk
theorem y24 : yA 24 4 32 [y0, y0, y0, yu] ∧ yF 24 0 3 0 ∧ yF 24 1 3 1 ∧ yF 24 2 3 2 ∧ yF 24 3 23 3 ∧ yP 24 [(0, 1), (1, 1), (2, 1), (3, 1)] ∧ mP Tryz.prog 24 = some [(0, .n), (1, .n), (2, .n), (3, .n)] := tk
theorem y25 : yA 25 4 32 [y0, y0, y0, yu] ∧ yF 25 0 3 0 ∧ yF 25 1 3 1 ∧ yF 25 2 3 2 ∧ yF 25 3 23 3 ∧ yP 25 [(0, 1), (1, 1), (2, 1), (3, 1)] ∧ mP Tryz.prog 25 = some [(0, .n), (1, .n), (2, .n), (3, .n)] := tk
theorem y26 : yA 26 3 24 [y0, y0, yf] ∧ yF 26 0 3 0 ∧ yF 26 1 3 1 ∧ yF 26 2 4 2 ∧ yP 26 [(0, 1), (1, 1), (2, 1)] ∧ mP Tryz.prog 26 = some [(0, .n), (1, .n), (2, .b)] := tk
theorem y27 : yA 27 3 24 [y0, y0, yf] ∧ yF 27 0 3 0 ∧ yF 27 1 3 1 ∧ yF 27 2 4 2 ∧ yP 27 [(0, 1), (1, 1), (2, 1)] ∧ mP Tryz.prog 27 = some [(0, .n), (1, .n), (2, .b)] := tk
theorem y28 : yA 28 5 56 [y0, y0, yu, yn, yf] ∧ yF 28 0 3 0 ∧ yF 28 1 3 1 ∧ yF 28 2 23 2 ∧ yF 28 3 22 3 ∧ yF 28 4 4 4 ∧ yP 28 [(0, 1), (1, 1), (2, 1), (3, 1), (4, 1)] := tk
theorem y29 : yA 29 5 56 [y0, y0, yu, yn, yf] ∧ yF 29 0 3 0 ∧ yF 29 1 3 1 ∧ yF 29 2 23 2 ∧ yF 29 3 22 3 ∧ yF 29 4 4 4 ∧ yP 29 [(0, 1), (1, 1), (2, 1), (3, 1), (4, 1)] := tk
theorem y30 : yA 30 3 40 [y0, yu, yn] ∧ yF 30 0 3 0 ∧ yF 30 1 23 1 ∧ yF 30 2 22 2 ∧ yP 30 [(0, 1), (1, 1), (2, 1)] := tk
theorem y31 : yA 31 3 40 [y0, yu, yn] ∧ yF 31 0 3 0 ∧ yF 31 1 23 1 ∧ yF 31 2 22 2 ∧ yP 31 [(0, 1), (1, 1), (2, 1)] := tk
theorem y32 : yL 32 149 := tk
theorem y33 : yA 33 4 48 [y0, y0, yn, yf] ∧ yF 33 0 3 0 ∧ yF 33 1 3 1 ∧ yF 33 2 32 2 ∧ yF 33 3 4 3 ∧ yP 33 [(0, 1), (1, 1), (2, 1), (3, 1)] := tk
theorem y34 : yA 34 4 48 [y0, y0, yn, yf] ∧ yF 34 0 3 0 ∧ yF 34 1 3 1 ∧ yF 34 2 32 2 ∧ yF 34 3 4 3 ∧ yP 34 [(0, 1), (1, 1), (2, 1), (3, 1)] := tk
theorem y35 : yA 35 5 56 [y0, y0, y0, yn, yf] ∧ yF 35 0 3 0 ∧ yF 35 1 3 1 ∧ yF 35 2 3 2 ∧ yF 35 3 32 3 ∧ yF 35 4 4 4 ∧ yP 35 [(0, 1), (1, 1), (2, 1), (3, 1), (4, 1)] := tk
theorem y36 : yA 36 5 56 [y0, y0, y0, yn, yf] ∧ yF 36 0 3 0 ∧ yF 36 1 3 1 ∧ yF 36 2 3 2 ∧ yF 36 3 32 3 ∧ yF 36 4 4 4 ∧ yP 36 [(0, 1), (1, 1), (2, 1), (3, 1), (4, 1)] := tk
theorem y37 : yL 37 108 := tk
theorem y38 : yA 38 5 56 [y0, y0, y0, yn, yf] ∧ yF 38 0 3 0 ∧ yF 38 1 3 1 ∧ yF 38 2 3 2 ∧ yF 38 3 37 3 ∧ yF 38 4 4 4 ∧ yP 38 [(0, 1), (1, 1), (2, 1), (3, 1), (4, 1)] := tk
theorem y39 : yA 39 5 56 [y0, y0, y0, yn, yf] ∧ yF 39 0 3 0 ∧ yF 39 1 3 1 ∧ yF 39 2 3 2 ∧ yF 39 3 37 3 ∧ yF 39 4 4 4 ∧ yP 39 [(0, 1), (1, 1), (2, 1), (3, 1), (4, 1)] := tk
theorem y40 : yA 40 29 312 [y0, y0, y0, yu, y0, y0, yf, y0, y0, yu, yn, yf, y0, yu, yn, y0, y0, yn, yf, y0, y0, y0, yn, yf, y0, y0, y0, yn, yf] ∧ yF 40 0 25 0 ∧ yF 40 1 27 4 ∧ yF 40 2 29 7 ∧ yF 40 3 31 12 ∧ yF 40 4 34 15 ∧ yF 40 5 36 19 ∧ yF 40 6 39 24 ∧ yP 40 [(0, 4), (4, 3), (7, 5), (12, 3), (15, 4), (19, 5), (24, 5)] := tk
theorem y41 : yA 41 29 312 [y0, y0, y0, yu, y0, y0, yf, y0, y0, yu, yn, yf, y0, yu, yn, y0, y0, yn, yf, y0, y0, y0, yn, yf, y0, y0, y0, yn, yf] ∧ yF 41 0 25 0 ∧ yF 41 1 27 4 ∧ yF 41 2 29 7 ∧ yF 41 3 31 12 ∧ yF 41 4 34 15 ∧ yF 41 5 36 19 ∧ yF 41 6 39 24 ∧ yP 41 [(0, 4), (4, 3), (7, 5), (12, 3), (15, 4), (19, 5), (24, 5)] := tk
theorem y44 : yA 44 2 24 [.c (.string ⟨#[]⟩), y0] ∧ yF 44 0 9 0 ∧ yF 44 1 3 1 ∧ yP 44 [(0, 1), (1, 1)] ∧ mP Tryz.prog 44 = some [(0, .s), (1, .n)] := tk
theorem y45 : yA 45 2 24 [.c (.string ⟨#[]⟩), y0] ∧ yF 45 0 9 0 ∧ yF 45 1 3 1 ∧ yP 45 [(0, 1), (1, 1)] ∧ mP Tryz.prog 45 = some [(0, .s), (1, .n)] := tk
theorem y47 : yI 47 .u64 8 := tk
theorem y48 : yL 48 5 := tk
theorem y50 : yI 50 .i64 8 := tk
theorem y65 : yL 65 45 := tk
theorem YE : yL 108 9 := tk
theorem YF : yI 132 .u32 4 := tk
theorem YG : yL 137 139 := tk
theorem YH : yB 139 1 false none false false none 16 := tk
theorem YI : yS 146 none false false none 8 (.pointer none) ∧ dB Tryz.prog 146 = true ∧ iO Tryz.prog 146 = some 34 := tk
theorem YJ : yA 148 3 32 [.c (.string ⟨#[]⟩), y0, y0] ∧ yF 148 0 9 0 ∧ yF 148 1 3 1 ∧ yF 148 2 3 2 ∧ yP 148 [(0, 1), (1, 1), (2, 1)] ∧ mP Tryz.prog 148 = some [(0, .s), (1, .n), (2, .n)] := tk
theorem YK : yA 149 3 32 [.c (.string ⟨#[]⟩), y0, y0] ∧ yF 149 0 9 0 ∧ yF 149 1 3 1 ∧ yF 149 2 3 2 ∧ yP 149 [(0, 1), (1, 1), (2, 1)] ∧ mP Tryz.prog 149 = some [(0, .s), (1, .n), (2, .n)] := tk
theorem YL : yS 153 none false false none 8 (.pointer none) ∧ dB Tryz.prog 153 = true ∧ iO Tryz.prog 153 = some 36 := tk
theorem YM : yS 160 none false false none 8 (.pointer none) ∧ dB Tryz.prog 160 = true ∧ iO Tryz.prog 160 = some 39 := tk
theorem YN : yA 190 3 24 [y0, y0, y0] ∧ jb Tryz.prog 190 = some (3, 3) := tk
theorem YO : yS 191 none false false none 8 (.pointer none) ∧ dB Tryz.prog 191 = true ∧ iO Tryz.prog 191 = some 193 := tk
theorem YP : yA 192 2 32 [yn, yf] ∧ yF 192 0 48 0 ∧ yF 192 1 4 1 ∧ yP 192 [(0, 1), (1, 1)] := tk
theorem YQ : yA 193 2 32 [yn, yf] ∧ yF 193 0 48 0 ∧ yF 193 1 4 1 ∧ yP 193 [(0, 1), (1, 1)] := tk
theorem YR : yS 199 none false false none 8 (.pointer none) ∧ dB Tryz.prog 199 = true ∧ iO Tryz.prog 199 = some 201 := tk
theorem YS : yA 200 2 32 [yn, yf] ∧ yF 200 0 48 0 ∧ yF 200 1 4 1 ∧ yP 200 [(0, 1), (1, 1)] := tk
theorem YT : yA 201 2 32 [yn, yf] ∧ yF 201 0 48 0 ∧ yF 201 1 4 1 ∧ yP 201 [(0, 1), (1, 1)] := tk
theorem YU : yS 203 none false false none 8 (.pointer none) ∧ dB Tryz.prog 203 = true ∧ iO Tryz.prog 203 = some 205 := tk
theorem YV : yA 204 2 32 [yn, yf] ∧ yF 204 0 48 0 ∧ yF 204 1 4 1 ∧ yP 204 [(0, 1), (1, 1)] := tk
theorem YW : yA 205 2 32 [yn, yf] ∧ yF 205 0 48 0 ∧ yF 205 1 4 1 ∧ yP 205 [(0, 1), (1, 1)] := tk
theorem YX : yS 206 none false false none 8 (.pointer none) ∧ dB Tryz.prog 206 = true ∧ iO Tryz.prog 206 = some 208 := tk
theorem YY : yA 207 2 32 [yn, yf] ∧ yF 207 0 48 0 ∧ yF 207 1 4 1 ∧ yP 207 [(0, 1), (1, 1)] := tk
theorem YZ : yA 208 2 32 [yn, yf] ∧ yF 208 0 48 0 ∧ yF 208 1 4 1 ∧ yP 208 [(0, 1), (1, 1)] := tk
theorem Y0 : yB 211 1 false none false false none 8 := tk
theorem Y1 : yL 214 23 := tk
theorem Y2 : yS 217 none false false none 8 (.map none) := tk
theorem Y3 : yS 232 none false false none 8 (.pointer none) ∧ dB Tryz.prog 232 = true ∧ iO Tryz.prog 232 = some 234 := tk
theorem Y4 : yA 233 3 40 [yn, y0, yf] ∧ yF 233 0 48 0 ∧ yF 233 1 3 1 ∧ yF 233 2 4 2 ∧ yP 233 [(0, 1), (1, 1), (2, 1)] := tk
theorem Y5 : yA 234 3 40 [yn, y0, yf] ∧ yF 234 0 48 0 ∧ yF 234 1 3 1 ∧ yF 234 2 4 2 ∧ yP 234 [(0, 1), (1, 1), (2, 1)] := tk
theorem Y6 : yI 243 .i64 8 := tk
theorem Y7 : yI 260 .u64 8 := tk
theorem Y8 : yS 263 none false false none 8 (.pointer none) ∧ dB Tryz.prog 263 = true ∧ iO Tryz.prog 263 = some 3 := tk
theorem Y9 : yS 269 none false false none 8 (.pointer none) ∧ dB Tryz.prog 269 = true ∧ iO Tryz.prog 269 = some 260 := tk
theorem Za : yA 274 4 40 [.c (.pointer none), .c (.pointer none), .c (.pointer none), .c (.string ⟨#[]⟩)] ∧ yF 274 0 17 0 ∧ yF 274 1 17 1 ∧ yF 274 2 17 2 ∧ yF 274 3 9 3 ∧ yP 274 [(0, 1), (1, 1), (2, 1), (3, 1)] := tk
theorem Zb : (Tryz.prog.underlying 276).isSome = true ∧ tsz Tryz.prog 276 = some 0 ∧ gU Tryz.prog 276 = some true ∧ lK Tryz.prog 276 = none ∧ cO Tryz.prog 276 = false ∧ ig Tryz.prog 276 = false ∧ elemT Tryz.prog 276 = none ∧ jb Tryz.prog 276 = some (0, 16) := tk
theorem Zc : (Tryz.prog.underlying 277).isSome = true ∧ tsz Tryz.prog 277 = some 0 ∧ gU Tryz.prog 277 = some true ∧ lK Tryz.prog 277 = none ∧ cO Tryz.prog 277 = false ∧ ig Tryz.prog 277 = false ∧ elemT Tryz.prog 277 = none ∧ yF 277 0 276 0 ∧ yP 277 [(0, 0)] := tk
theorem Zd : (Tryz.prog.underlying 278).isSome = true ∧ tsz Tryz.prog 278 = some 0 ∧ gU Tryz.prog 278 = some true ∧ lK Tryz.prog 278 = none ∧ cO Tryz.prog 278 = false ∧ ig Tryz.prog 278 = false ∧ elemT Tryz.prog 278 = none ∧ yF 278 0 276 0 ∧ yP 278 [(0, 0)] := tk
theorem Ze : yI 279 .u8 1 := tk
theorem Zf : yI 280 .u8 1 := tk
theorem Zg : (Tryz.prog.underlying 281).isSome = true := tk
theorem Zh : yS 282 none false false none 8 (.pointer none) ∧ dB Tryz.prog 282 = true ∧ iO Tryz.prog 282 = some 5 := tk
theorem Zi : yI 283 .i32 4 := tk
theorem Zj : yI 284 .i32 4 := tk
theorem Zk : yA 285 11 48 [yu, yu, .c (.int .u32 0), .c (.int .u8 0), .c (.int .u8 0), .c (.int .u8 0), .c (.int .u8 0), .c (.nilFunc), .c (.pointer none), .c (.int .i32 0), .c (.int .i32 0)] ∧ yF 285 0 12 0 ∧ yF 285 1 12 1 ∧ yF 285 2 132 2 ∧ yF 285 3 279 3 ∧ yF 285 4 5 4 ∧ yF 285 5 5 5 ∧ yF 285 6 280 6 ∧ yF 285 7 281 7 ∧ yF 285 8 282 8 ∧ yF 285 9 283 9 ∧ yF 285 10 284 10 ∧ yP 285 [(0, 1), (1, 1), (2, 1), (3, 1), (4, 1), (5, 1), (6, 1), (7, 1), (8, 1), (9, 1), (10, 1)] := tk
theorem Zl : yA 286 11 48 [yu, yu, .c (.int .u32 0), .c (.int .u8 0), .c (.int .u8 0), .c (.int .u8 0), .c (.int .u8 0), .c (.nilFunc), .c (.pointer none), .c (.int .i32 0), .c (.int .i32 0)] ∧ yF 286 0 12 0 ∧ yF 286 1 12 1 ∧ yF 286 2 132 2 ∧ yF 286 3 279 3 ∧ yF 286 4 5 4 ∧ yF 286 5 5 5 ∧ yF 286 6 280 6 ∧ yF 286 7 281 7 ∧ yF 286 8 282 8 ∧ yF 286 9 283 9 ∧ yF 286 10 284 10 ∧ yP 286 [(0, 1), (1, 1), (2, 1), (3, 1), (4, 1), (5, 1), (6, 1), (7, 1), (8, 1), (9, 1), (10, 1)] := tk
theorem Zm : yS 287 none false false none 8 (.pointer none) := tk
theorem TU : elemT Tryz.prog 108 = some 9 := by kernel_rfl
theorem XY : zelem Tryz.prog 9 = some (.c (.string ⟨#[]⟩)) := by kernel_rfl
theorem XZ : tapp Tryz.prog 9 = some (1, 16) := by kernel_rfl
theorem ES : elemT Tryz.prog 48 = some 5 := by kernel_rfl
theorem U9 : zelem Tryz.prog 5 = some (.c (.int .u8 0)) := by kernel_rfl
theorem Va : tapp Tryz.prog 5 = some (1, 1) := by kernel_rfl
theorem X0 : tsz Tryz.prog 5 = some 1 := by kernel_rfl
def tyf := aI y2 (aI y3 (aI y4 (aI y5 (aI y6 (aI y7 (aI y9 (aI y12 (aI y13 (aI y16 (aI y17 (aI y18 (aI y21 (aI y22 (aI y23 (aI y24 (aI y25 (aI y26 (aI y27 (aI y28 (aI y29 (aI y30 (aI y31 (aI y32 (aI y33 (aI y34 (aI y35 (aI y36 (aI y37 (aI y38 (aI y39 (aI y40 (aI y41 (aI y44 (aI y45 (aI y47 (aI y48 (aI y50 (aI y65 (aI YE (aI YF (aI YG (aI YH (aI YI (aI YJ (aI YK (aI YL (aI YM (aI YN (aI YO (aI YP (aI YQ (aI YR (aI YS (aI YT (aI YU (aI YV (aI YW (aI YX (aI YY (aI YZ (aI Y0 (aI Y1 (aI Y2 (aI Y3 (aI Y4 (aI Y5 (aI Y6 (aI Y7 (aI Y8 (aI Y9 (aI Za (aI Zb (aI Zc (aI Zd (aI Ze (aI Zf (aI Zg (aI Zh (aI Zi (aI Zj (aI Zk (aI Zl Zm))))))))))))))))))))))))))))))))))))))))))))))))))))))))))))))))))))))))))))))))))
end Go.Proofs.YtaoejnjkmfkbeaaGreat
