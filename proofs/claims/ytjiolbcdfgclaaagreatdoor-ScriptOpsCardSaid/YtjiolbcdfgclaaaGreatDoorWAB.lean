/-
  Texts of this claim, merged; own names are short.
-/
import Derived.Laws.MakeOwn
import Derived.Test.YtjiolbcdfgclaaaGreatDoorWAA
import Derived.WideLaws
set_option linter.unusedVariables false
set_option linter.unusedSimpArgs false
set_option linter.unusedSectionVars false
set_option linter.defProp false
set_option maxRecDepth 100000
set_option maxHeartbeats 8000000
section
namespace Go.Pg
open Go
def zelem (P : Program) (e : TypeId) : Option V := (tY P e).bind fun z => if z.cells.toList.all Value.oneCell' = true then some (fV z) else none
theorem Nb (p : Tag → Bool) (q : Nat → Bool) (tp : Bool) (l : List Value) : V.anyL p q tp (l.map .c) = false := by
 induction l with
 | nil => rfl
 | cons x xs ih => simp [V.anyL, V.any, ih]
theorem xE (v : Value) : (fV v).free = true := by
 cases v <;> simp [fV, V.free, V.any, Nb]
theorem FB (z : Array Value) (n : Nat) : ((Array.range (n * z.size)).map (z[· % z.size]!)).toList = (List.replicate n z.toList).flatten := by
 induction n with
 | zero => simp [Array.range_zero']
 | succ n ih =>
  have e : (Array.range ((n + 1) * z.size)).toList = List.range (n * z.size) ++ (List.range z.size).map (n * z.size + ·) := by
   simp only [Array.toList_range]
   rw [Nat.add_mul, Nat.one_mul, List.range_add]
  simp only [Array.toList_map, Array.toList_range] at ih ⊢
  simp only [Array.toList_range] at e
  rw [e, List.map_append, ih, List.replicate_succ', List.flatten_append]
  congr 1
  simp only [List.map_map, List.flatten_cons, List.flatten_nil, List.append_nil]
  apply List.ext_getElem?
  intro j
  by_cases hj : j < z.size
  ·simp [hj, Nat.mod_eq_of_lt hj]
  ·simp [hj]
section
variable {P : Program} {C : Cx} {s : St} {L L' : Lay} {a : Act} {w w' : World}
theorem uw {v : V} {z : Value} (n : Nat) (hr : Rep L w v z) (hf : v.free = true) (h1 : z.cells.toList.all Value.oneCell' = true) :
  RepE L w z.cells.size (List.replicate n v) (List.replicate n z.cells.toList).flatten := by
 induction n with
 | zero => rfl
 | succ n ih =>
  rw [List.replicate_succ, List.replicate_succ, List.flatten_cons]
  exact ⟨z, _, rfl, rfl, ⟨hf, h1⟩, hr, ih⟩
theorem FC {e : TypeId} {k cap : Nat} {xs : List V} {arr : Array Value} (S : Sim C s L a w) (hcap : arr.size = cap * k) (hlen : xs.length ≤ cap) (hm : cap ≤ maxLen) (hr : RepE L w k xs (arr.toList.take (xs.length * k))) :
  ∃ L', Sim C { s with nid := s.nid + 1 } L' a (w.alloc (.cells arr e)) ∧ Rep L' (w.alloc (.cells arr e)) (.sl (.own s.nid e) k xs) (.slice (some ⟨w.heap.size, 0, none⟩) xs.length cap) := by
 have G := Grow.alloc w (.cells arr e)
 have E := S.wf.leOwn (s := s) w.heap.size
 refine ⟨L.addOwn s.nid w.heap.size, S.grow G E rfl (fun b cs h => .inl h) (S.wf.addOwn S.hB (by simp)), _, _, _, rfl, hr.trans (p := fun _ => false) (q := fun _ => false) rfl (S.wf.whole G E), ?_⟩
 exact .inr ⟨w.heap.size, arr, by simp [Lay.addOwn, upd], rfl, heap_alloc_new w _, hlen, hm, hcap, rfl⟩
def xG (P : Program) (s : St) (t : TypeId) (l c : V) : Option (V × St) :=
 match l, c with
 | .c (.int _ n), .c (.int _ m) => (elemT P t).bind fun e => (tapp P e).bind fun (k, bytes) => (zelem P e).bind fun z =>
   if 0 ≤ n ∧ n ≤ m ∧ (bytes : Int) * m ≤ 281474976710656 ∧ m ≤ 9223372036854775807 then some (.sl (.own s.nid e) k (List.replicate n.toNat z), { s with nid := s.nid + 1 }) else none
 | _, _ => none
theorem CO {e : TypeId} {v : V} (h : zelem P e = some v) : ∃ z, tY P e = some z ∧ v = fV z ∧ z.cells.toList.all Value.oneCell' = true := by
 simp only [zelem, Option.bind_eq_some_iff, Option.ite_none_right_eq_some, Option.some.injEq] at h
 obtain ⟨z, hz, h1, rfl⟩ := h
 exact ⟨z, hz, rfl, h1⟩
theorem WX {t : TypeId} {l c r : V} {ul uc : Value} {s' : St} (h : xG P s t l c = some (r, s')) (S : Sim C s L a w) (hl : Rep L w l ul) (hc : Rep L w c uc) :
  ∃ u w' L', (Instr.makeSlice t ul uc).run P w = .ok u w' ∧ Sim C s' L' a w' ∧ Rep L' w' r u := by
 unfold xG at h
 split at h
 ·rename_i kl n kc m
  simp only [Option.bind_eq_some_iff, Prod.exists, Option.ite_none_right_eq_some, Option.some.injEq, Prod.mk.injEq] at h
  obtain ⟨e, he, k, bytes, hk, v, hv, ⟨h0, h1, h2, h3⟩, rfl, rfl⟩ := h
  obtain ⟨i, z, hi, hz, hzs, hik, rfl, hpos⟩ := vK hk
  obtain ⟨z', hz', rfl, hone⟩ := CO hv
  have : z' = z := by simp [tY, hi, hz] at hz'; exact hz'.symm
  subst this
  simp only [Rep] at hl hc; subst hl; subst hc
  have hrun := run_make (P := P) w t e i z' (dY he) hi hz kl kc n m h0 h1 h2 h3
  have hcells : (madeCells z'.cells (m.toNat * i.size)).toList = (List.replicate m.toNat z'.cells.toList).flatten := by
   rw [hik, ← hzs]; exact FB z'.cells m.toNat
  have htake : ((List.replicate m.toNat z'.cells.toList).flatten).take (n.toNat * k) = (List.replicate n.toNat z'.cells.toList).flatten := by
   have e1 : m.toNat = n.toNat + (m.toNat - n.toNat) := by omega
   rw [e1, ← List.replicate_append_replicate, List.flatten_append]
   have hl : ((List.replicate n.toNat z'.cells.toList).flatten).length = n.toNat * k := by simp [hzs]
   rw [← hl]; exact List.take_left
  obtain ⟨L', h4, h5⟩ := FC (e := e) (k := k) (cap := m.toNat) (xs := List.replicate n.toNat (fV z')) (arr := madeCells z'.cells (m.toNat * i.size)) S
   (by rw [size_madeCells, hik]) (by simp; omega) (by simp only [maxLen]; omega)
   (by rw [hcells, List.length_replicate, htake, ← hzs]; exact uw _ (uq L w z') (xE z') hone)
  rw [List.length_replicate] at h5
  exact ⟨_, _, L', hrun, h4, h5⟩
 ·cases h
def bsTag (len id : Nat) (e : TypeId) : Tag := match len with | 0 => .nn | _ + 1 => .own id e
def setAll (k : Nat) (xs : List V) : List (Nat × V) → Option (List V)
 | [] => some xs
 | (i, v) :: rest =>
  match v.cs with
  | some l => if l.length = k ∧ v.free = true ∧ l.all V.one = true ∧ i < xs.length then setAll k (xs.set i v) rest else none
  | none => none
def bV (P : Program) (s : St) (t : TypeId) (len : Nat) (parts : List (Nat × V)) : Option (V × St) :=
 (elemT P t).bind fun e => (tapp P e).bind fun (k, _) => (zelem P e).bind fun z => (setAll k (List.replicate len z) parts).bind fun xs =>
  if len * k ≤ 16777216 then some (.sl (bsTag len s.nid e) k xs, { s with nid := s.nid + 1 }) else none
theorem Nc {k : Nat} (sv : Operand → V) (se : Operand → Value) (hs : ∀ x, Rep L w (sv x) (se x)) : ∀ (parts : List (Nat × Operand)) (xs r : List V) (ucells : Array Value),
  setAll k xs (parts.map fun p => (p.1, sv p.2)) = some r → RepE L w k xs ucells.toList →
  ∃ ur, Instr.fill (fun i => some (i * k, k)) ucells (parts.map fun p => (p.1, se p.2)) = some ur ∧ RepE L w k r ur.toList ∧ r.length = xs.length := by
 intro parts
 induction parts with
 | nil =>
  intro xs r ucells h hr
  simp only [List.map_nil, setAll, Option.some.injEq] at h
  subst h
  exact ⟨ucells, rfl, hr, rfl⟩
 | cons p rest ih =>
  intro xs r ucells h hr
  obtain ⟨i, x⟩ := p
  have hv := hs x
  simp only [List.map_cons, setAll] at h ⊢
  generalize sv x = v at hv h
  generalize se x = u at hv ⊢
  split at h
  ·rename_i l hcs
   simp only [Option.ite_none_right_eq_some] at h
   obtain ⟨⟨h1, h2, h3, h4⟩, h⟩ := h
   have hrl := wL hv hcs
   have hll := hrl.length
   have hcl := hr.length
   simp only [Array.length_toList] at hll hcl
   have hfit : i * k + k ≤ xs.length * k := by
    have := Nat.mul_le_mul_right k (show i + 1 ≤ xs.length from h4)
    rwa [Nat.add_mul, Nat.one_mul] at this
   have hfold := Cj u.cells.toList 0 (i * k) ucells (by simp; omega)
   simp only [Nat.add_zero, Array.length_toList, hll, h1] at hfold
   have hr' : RepE L w k (xs.set i v) (u.cells.zipIdx.foldl (fun cs (x : Value × Nat) => cs.setIfInBounds (i * k + x.2) x.1) ucells).toList := by
    rw [← Array.foldl_toList, Array.toList_zipIdx, hfold]
    exact hr.set h4 (by omega) ⟨h2, List.all_eq_true.2 (CE hrl h3)⟩ hv
   obtain ⟨ur, h5, h6, h7⟩ := ih _ r _ h hr'
   refine ⟨ur, ?_, h6, by simpa using h7⟩
   simp only [Instr.fill]
   rw [if_neg (by simp [hll, h1]; omega)]
   exact h5
  ·cases h
theorem pG {t : TypeId} {len : Nat} {parts : Array (Nat × Operand)} {e : TypeId} {k bytes : Nat} {v : V} {xs : List V} (hev : ∀ x, Rep L w (s.ev x) (a.eval x)) (he : elemT P t = some e) (hk : tapp P e = some (k, bytes)) (hv : zelem P e = some v)
  (hxs : setAll k (List.replicate len v) (parts.toList.map fun p => (p.1, s.ev p.2)) = some xs) (h24 : len * k ≤ 16777216) :
  ∃ ur, (Instr.buildSlice t len (parts.map fun (i, x) => (i, a.eval x))).run P w = .ok (.slice (some ⟨w.heap.size, 0, none⟩) len len) (w.alloc (.cells ur e)) ∧ ur.size = len * k ∧ xs.length = len ∧ RepE L w k xs ur.toList ∧ len ≤ maxLen := by
 obtain ⟨i, z, hi, hz, hzs, hik, _, hpos⟩ := vK hk
 obtain ⟨z', hz', rfl, hone⟩ := CO hv
 have : z' = z := by simp [tY, hi, hz] at hz'; exact hz'.symm
 subst this
 have hsz : tsz P e = some k := by simp [tsz, hi, hik]
 have hinit : RepE L w k (List.replicate len (fV z')) ((Array.range (len * k)).map (z'.cells[· % z'.cells.size]!)).toList := by
  rw [← hzs, FB]
  exact uw _ (uq L w z') (xE z') hone
 obtain ⟨ur, h1, h2, h3⟩ := Nc s.ev a.eval hev parts.toList _ xs _ hxs hinit
 rw [List.length_replicate] at h3
 have hul : ur.size = len * k := by have := h2.length; simpa [h3] using this
 refine ⟨ur, ?_, hul, h3, h2, ?_⟩
 ·have h24' : ¬ len * k > 2 ^ 24 := by omega
  by_cases h0 : len * k = 0
  ·have hl0 : len = 0 := by
    rcases Nat.mul_eq_zero.1 h0 with h | h
    ·exact h
    ·omega
   subst hl0
   have h1' : Instr.fill (fun i => some (i * k, k)) ((Array.range 0).map fun x => (#[] : Array Value)[x % (#[] : Array Value).size]!) (parts.toList.map fun p => (p.1, a.eval p.2)) = some ur := by
    rw [← h1]; congr 1; simp [Array.range_zero']
   simp only [Instr.buildSlice, Sem.run_bind, run_underlying (dY he), Result.andThen_ok, jE hsz]
   rw [if_neg h24', if_pos h0]
   simp only [Sem.run_bind, Sem.run_pure, Result.andThen_ok, Array.toList_map, h0]
   simp only [h1']
   simp [newRow]
  ·simp only [Instr.buildSlice, Sem.run_bind, run_underlying (dY he), Result.andThen_ok, jE hsz]
   rw [if_neg h24', if_neg h0]
   simp only [Sem.run_bind, qZ hz', Sem.run_pure, Result.andThen_ok, Array.toList_map]
   simp only [h1]
   simp [newRow]
 ·have : len ≤ len * k := Nat.le_mul_of_pos_right len hpos
  simp only [maxLen]; omega
theorem CP {t : TypeId} {len : Nat} {parts : Array (Nat × Operand)} {r : V} {s' : St} (S : Sim C s L a w) (h : bV P s t len (parts.toList.map fun p => (p.1, s.ev p.2)) = some (r, s')) :
  ∃ u w' L', (Instr.buildSlice t len (parts.map fun (i, x) => (i, a.eval x))).run P w = .ok u w' ∧ Sim C s' L' a w' ∧ Rep L' w' r u := by
 simp only [bV, Option.bind_eq_some_iff, Prod.exists, Option.ite_none_right_eq_some, Option.some.injEq, Prod.mk.injEq] at h
 obtain ⟨e, he, k, bytes, hk, v, hv, xs, hxs, h24, rfl, rfl⟩ := h
 obtain ⟨ur, h1, hul, h3, h2, hm⟩ := pG S.ev he hk hv hxs h24
 obtain ⟨L', h4, h5⟩ := FC (e := e) (k := k) (cap := len) (xs := xs) (arr := ur) S hul (by omega) hm (by rw [h3, ← hul, ← Array.length_toList, List.take_length]; exact h2)
 rw [h3] at h5
 refine ⟨_, _, L', h1, h4, ?_⟩
 cases len with
 | zero =>
  have hx : xs = [] := List.eq_nil_of_length_eq_zero h3
  subst hx
  exact ⟨_, 0, [], rfl, rfl, rfl, rfl⟩
 | succ n => exact h5
def nO (P : Program) (s : St) (t : TypeId) (id k : Nat) (xs : List V) (lo hi : Option V) : Option (V × St) :=
 (slV P t (.sl .fz k xs) lo hi).map fun r => (r, s.mapV (frz id))
theorem Ji {t e : TypeId} {id k : Nat} {xs : List V} {r : V} {ux : Value} {s' : St} {lo hi : Option Operand} (h : nO P s t id k xs (lo.map s.ev) (hi.map s.ev) = some (r, s')) (S : Sim C s L a w) (hx : Rep L w (.sl (.own id e) k xs) ux)
  (hlo : ∀ x, lo = some x → ∃ u, s.ev x = .c u) (hhi : ∀ x, hi = some x → ∃ u, s.ev x = .c u) :
  ∃ u L', (Instr.sliceAt t ux (lo.map a.eval) (hi.map a.eval) none).run P w = .ok u w ∧ Sim C s' L' a w ∧ Rep L' w r u := by
 simp only [nO, Option.map_eq_some_iff, Prod.mk.injEq] at h
 obtain ⟨r', hr, rfl, rfl⟩ := h
 obtain ⟨S', hψ⟩ := S.freeze id
 have hx' := hψ _ _ hx
 have e1 : frz id (.sl (.own id e) k xs) = .sl .fz k xs := by simp [frz, V.map, Tag.is]
 rw [e1] at hx'
 have bd : ∀ (o : Option Operand), (∀ x, o = some x → ∃ u, s.ev x = .c u) → o.map s.ev = none ∧ o.map a.eval = none ∨ ∃ v u, o.map s.ev = some v ∧ o.map a.eval = some u ∧ Rep (L.freeze id) w v u := by
  intro o ho
  cases o with
  | none => exact .inl ⟨rfl, rfl⟩
  | some x =>
   obtain ⟨u, hu⟩ := ho x rfl
   have := S.ev x
   rw [hu] at this
   exact .inr ⟨_, _, rfl, rfl, by rw [hu]; exact this⟩
 obtain ⟨u, h1, h2⟩ := QB hr hx' (bd lo hlo) (bd hi hhi)
 exact ⟨u, L.freeze id, h1, S', h2⟩
def kz (P : Program) (src dst : TypeId) (x : V) : Option V :=
 match x with
 | .c (.string z) => if ji P src = true ∧ (elemT P dst).bind (rY P) = some .u8 then some (.sl .fz 1 (l7 z)) else none
 | _ => none
theorem CQ (w : World) (g n : Nat) (arr : Array Value) (e : TypeId) (fr : Nat × Nat) (hg : w.heap[g]? = some (.cells arr e fr)) : ∃ fr', (w.freeze ⟨g, n, none⟩ 1).heap[g]? = some (.cells arr e fr') := by
 simp only [World.freeze]
 rw [if_neg (by decide)]
 simp only [Array.getElem?_modify, if_true, hg, Option.map_some]
 exact ⟨_, rfl⟩
theorem l9 (w : World) (g n k : Nat) (h : k ≠ g) : (w.freeze ⟨g, n, none⟩ 1).heap[k]? = w.heap[k]? := by
 simp only [World.freeze]
 rw [if_neg (by decide)]
 simp only [Array.getElem?_modify]
 rw [if_neg (by omega)]
theorem uz (w : World) (g n : Nat) : (w.freeze ⟨g, n, none⟩ 1).heap.size = w.heap.size := by
 simp only [World.freeze]
 rw [if_neg (by decide)]
 simp
theorem Jj {src dst : TypeId} {x r : V} {ux : Value} (h : kz P src dst x = some r) (S : Sim C s L a w) (hx : Rep L w x ux) :
  ∃ u w' L', (convert src dst ux).run P w = .ok u w' ∧ Sim C s L' a w' ∧ Rep L' w' r u := by
 unfold kz at h
 split at h
 ·rename_i z
  simp only [Option.ite_none_right_eq_some, Option.bind_eq_some_iff, Option.some.injEq] at h
  obtain ⟨⟨h0, e, he, h1⟩, rfl⟩ := h
  simp only [Rep] at hx; subst hx
  have hcap := grownCap_ge w z.size 0 e
  let arr : Array Value := z.data.map (fun b => Value.int .u8 b.toNat) ++ Array.replicate (grownCap w z.size 0 e - z.size) (.int .u8 0)
  have harr : arr.toList.take z.size = byteCells z := by
   have : (z.data.map (fun b => Value.int .u8 b.toNat)).toList = byteCells z := by simp [byteCells]
   simp only [arr, Array.toList_append, this]
   rw [← byteCells_length z]
   exact List.take_left
  have hasz : arr.size = grownCap w z.size 0 e := by simp [arr]; omega
  let w1 : World := w.drew.alloc (.cells arr e)
  have hh : w1.heap[w.heap.size]? = some (.cells arr e (0, 0)) := heap_alloc_new w.drew _
  have G1 : Grow w w1 := Grow.drewAlloc w _
  let w2 : World := w1.freeze ⟨w.heap.size, arr.size, none⟩ 1
  have G : Grow w w2 := ⟨rfl, rfl, rfl, by rw [uz]; exact G1.size, fun k hk => (l9 w1 _ _ k (by omega)).trans (G1.block k hk)⟩
  have E := Lay.leA L w.heap.size
  have hsz : w.heap.size < w2.heap.size := by rw [uz]; simp [w1]
  obtain ⟨fr, hfr⟩ := CQ w1 w.heap.size arr.size arr e (0, 0) hh
  refine ⟨.slice (some ⟨w.heap.size, 0, none⟩) z.size (grownCap w z.size 0 e), w2, L.addA w.heap.size, ?_, S.grow G E rfl (fun b cs h => .inl h) (S.wf.addA S.hB hsz), some ⟨w.heap.size, 0, none⟩, grownCap w z.size 0 e, byteCells z, by simp [l7], CJ z, ?_⟩
  ·have hsh : w1.shape? w.heap.size = some (e, arr.size) := by simp [World.shape?, hh]
   simp only [convert, Sem.run_bind, run_underlying (kS h0), run_underlying (dY he), run_underlying (qY h1), Result.andThen_ok, Conv.stringToBytes, run_choose_drew]
   have hnf : (Question.appendCap z.size 0 e).forced = false := rfl
   rw [hnf]
   simp only [Bool.false_eq_true, if_false, Result.andThen_ok, newRow, Sem.run_bind, run_newObj_alloc, Sem.run_pure, markStringish, run_shape]
   have e2 : ((w.drew.alloc (.cells (z.data.map (fun b => Value.int .u8 b.toNat) ++ Array.replicate ((Question.appendCap z.size 0 e).cut (w.tape w.drawn (.appendCap z.size 0 e)) - z.size) (.int .u8 0)) e)).shape? w.drew.heap.size) = some (e, arr.size) := hsh
   rw [e2]
   rfl
  ·refine ⟨by simpa [l7] using hcap, .inr ⟨w.heap.size, 0, rfl, .inr rfl, arr, e, fr, hfr, ?_⟩⟩
   simp only [List.drop_zero, byteCells_length]
   exact harr
 ·cases h
def mX (P : Program) (s : St) (src dst : TypeId) (x : V) : Option (V × St) :=
 match x with
 | .sl (.own id _) k xs => if src = dst ∧ (elemT P dst).bind (rY P) = some .u8 ∧ 0 < xs.length then some (.sl .fz k xs, s.mapV (frz id)) else none
 | _ => none
theorem Tq {src dst : TypeId} {x r : V} {ux : Value} {s' : St} (h : mX P s src dst x = some (r, s')) (S : Sim C s L a w) (hx : Rep L w x ux) :
  ∃ u w' L', (convert src dst ux).run P w = .ok u w' ∧ Sim C s' L' a w' ∧ Rep L' w' r u := by
 unfold mX at h
 split at h
 ·rename_i id e' k xs
  simp only [Option.ite_none_right_eq_some, Option.bind_eq_some_iff, Option.some.injEq, Prod.mk.injEq] at h
  obtain ⟨⟨rfl, ⟨e, he, h1⟩, hpos⟩, rfl, rfl⟩ := h
  obtain ⟨S', hψ⟩ := S.freeze id
  have hx' := hψ _ _ hx
  have e1 : frz id (.sl (.own id e') k xs) = .sl .fz k xs := by simp [frz, V.map, Tag.is]
  rw [e1] at hx'
  obtain ⟨ad, cap, cells, rfl, h2, h3⟩ := hx
  rcases h3 with ⟨h4, _⟩ | ⟨g, arr, h4, rfl, h5, _⟩
  ·omega
  ·have hW := S.wf.own id g h4
   have hA : (L.freeze id).A g := .inr h4
   have hO : ∀ i, (L.freeze id).own i ≠ some g := fun i h => (S'.wf.own i g h).2.2 hA
   obtain ⟨fr, hfr⟩ := CQ w g arr.size arr e' (0, 0) h5
   have K : Whole (L.freeze id) (L.freeze id) w (w.freeze ⟨g, arr.size, none⟩ 1) := by
    refine ⟨rfl, fun g' h => ⟨h, ?_⟩, fun j e _ g' h => ⟨⟨rfl, h⟩, l9 w _ _ g' (fun e => by subst e; exact hO j h)⟩, fun _ _ _ h => h⟩
    by_cases hg : g' = g
    ·subst hg
     intro arr' e'' fr' h'
     rw [h5] at h'
     simp only [Option.some.injEq, Obj.cells.injEq] at h'
     obtain ⟨rfl, rfl, _⟩ := h'
     exact ⟨fr, hfr⟩
    ·exact .of (l9 w _ _ g' hg)
   have hsz : (w.freeze ⟨g, arr.size, none⟩ 1).heap.size = w.heap.size := uz w _ _
   refine ⟨.slice (some ⟨g, 0, none⟩) xs.length cap, w.freeze ⟨g, arr.size, none⟩ 1, L.freeze id, ?_, ⟨S'.defers, S'.size, fun t => (S'.env t).whole K, fun t => (S'.hid t).whole K, ?_, S'.wf.mono (Nat.le_refl _) (by rw [hsz]; exact Nat.le_refl _), S'.kp.trans ⟨rfl, rfl, rfl, by rw [hsz]; exact Nat.le_refl _, ?_⟩⟩, hx'.whole K⟩
   ·have hsh : w.shape? g = some (e', arr.size) := by simp [World.shape?, h5]
    simp [convert, run_underlying (dY he), run_underlying (qY h1), markStringish, hsh]
   ·intro b cs hb
    obtain ⟨g', arr', h7, h8, h9⟩ := S'.box b cs hb
    exact ⟨g', arr', h7, (l9 w _ _ g' (fun e => by subst e; exact (S'.wf.boxW b _ h7).2.2 hA)).trans h8, h9.whole K⟩
   ·intro k' hk' hW'
    exact l9 w _ _ k' (fun e => by subst e; exact hW.2.1.elim (fun h => by omega) hW')
 ·cases h
def rf (b : Nat) (v : V) : V := if v.any (fun _ => false) (fun j => j == b) false then .top else v
def Lay.kill (L : Lay) (b : Nat) : Lay := { L with A := fun g => L.A g ∨ L.box b = some g, box := fun j => if j = b then none else L.box j }
theorem Sim.kill (S : Sim C s L a w) (b : Nat) : Sim C { (s.mapV (rf b)) with bx := upd (fun j => (s.bx j).map fun x => (x.1, x.2.map (rf b))) b none } (L.kill b) a w := by
 have W := S.wf
 have K : Trans (fun _ => false) (fun j => j == b) _root_.id _root_.id L (L.kill b) w w := by
  refine ⟨rfl, fun g h => ⟨.inl h, .of rfl⟩, fun j e _ g h => ⟨⟨rfl, h⟩, rfl⟩, fun j hj g h => ?_⟩
  have : j ≠ b := by simpa using hj
  simp only [Lay.kill, id_eq, if_neg this]; exact h
 have hψ : ∀ v u, Rep L w v u → Rep (L.kill b) w (rf b v) u := by
  intro v u h
  unfold rf
  split
  ·trivial
  ·rename_i hv
   have := h.trans rfl K (by simpa using hv)
   rwa [map_id.1] at this
 refine ⟨S.defers, S.size, fun t => hψ _ _ (S.env t), fun t => hψ _ _ (S.hid t), ?_, ?_, S.kp⟩
 ·intro j cs h
  simp only [upd] at h
  split at h
  ·cases h
  ·rename_i hj
   simp only [Option.map_eq_some_iff] at h
   obtain ⟨l, hl, rfl⟩ := h
   obtain ⟨g, arr, h1, h2, h3⟩ := S.box j l hl
   exact ⟨g, arr, by simp only [Lay.kill, if_neg hj]; exact h1, h2, Jg hψ h3⟩
 ·exact {
   nidO := W.nidO
   nidB := fun j g h => by
    simp only [Lay.kill] at h
    split at h
    ·cases h
    ·exact W.nidB j g h
   own := fun j g h => by
    obtain ⟨h1, h2, h3⟩ := W.own j g h
    exact ⟨h1, h2, fun h' => h'.elim h3 (fun h' => W.dis j b g h h')⟩
   boxW := fun j g h => by
    simp only [Lay.kill] at h
    split at h
    ·cases h
    ·rename_i hj
     obtain ⟨h1, h2, h3⟩ := W.boxW j g h
     exact ⟨h1, h2, fun h' => h'.elim h3 (fun h' => hj (W.injB j b g h h'))⟩
   injO := W.injO
   injB := fun i j g h h' => by
    simp only [Lay.kill] at h h'
    split at h
    ·cases h
    ·split at h'
     ·cases h'
     ·exact W.injB i j g h h'
   dis := fun i j g h h' => by
    simp only [Lay.kill] at h'
    split at h'
    ·cases h'
    ·exact W.dis i j g h h'
   old := fun g h => h.elim (W.old g) (fun h => (W.boxW b g h).1)
   frz := fun g h => h.elim (W.frz g) (fun h => .inr (W.boxW b g h).2.1) }
theorem Tt {L : Lay} {w : World} {l : List V} {us : List Value} (h : Reps L w l us) (h1 : l.all (fun v => v.free && v.one) = true) : RepE L w 1 l us := by
 induction l generalizing us with
 | nil => exact h
 | cons x xs ih =>
  obtain ⟨u, r, rfl, h2, h3⟩ := h
  simp only [List.all_cons, Bool.and_eq_true] at h1
  have ho := QC h2 h1.1.2
  have hc : u.cells = #[u] := by cases u <;> first | rfl | (simp [Value.oneCell'] at ho)
  exact ⟨u, r, by simp [hc], by simp [hc], ⟨h1.1.1, by simp [hc, ho]⟩, h2, ih h3 h1.2⟩
def xH (P : Program) (s : St) (t : TypeId) (b off : Nat) (lo hi : Option V) : Option (V × St) :=
 (s.bx b).bind fun y => (jD P t).bind fun (n, e) => (bdV lo 0).bind fun l => (bdV hi n).bind fun h =>
  if off = 0 ∧ tsz P e = some 1 ∧ y.2.length = n ∧ y.2.all (fun v => v.free && v.one) = true ∧ 0 ≤ l ∧ l ≤ h ∧ h ≤ n then
   some (.sl .fz 1 ((y.2.take h.toNat).drop l.toNat), { (s.mapV (rf b)) with bx := upd (fun j => (s.bx j).map fun x => (x.1, x.2.map (rf b))) b none }) else none
theorem Jk {t : TypeId} {b off : Nat} {r : V} {ux : Value} {s' : St} {lo hi : Option Operand} (h : xH P s t b off (lo.map s.ev) (hi.map s.ev) = some (r, s')) (S : Sim C s L a w) (hx : Rep L w (.ref b off) ux)
  (rl : lo.map s.ev = none ∧ lo.map a.eval = none ∨ ∃ v u, lo.map s.ev = some v ∧ lo.map a.eval = some u ∧ Rep L w v u) (rh : hi.map s.ev = none ∧ hi.map a.eval = none ∨ ∃ v u, hi.map s.ev = some v ∧ hi.map a.eval = some u ∧ Rep L w v u) :
  ∃ u L', (Instr.sliceAt t ux (lo.map a.eval) (hi.map a.eval) none).run P w = .ok u w ∧ Sim C s' L' a w ∧ Rep L' w r u := by
 simp only [xH, Option.bind_eq_some_iff, Prod.exists, Option.ite_none_right_eq_some, Option.some.injEq, Prod.mk.injEq] at h
 obtain ⟨e0, cs, hcs, n, e, hn, l, hl, h', hh, ⟨rfl, h1, h2, h3, h4, h5, h6⟩, rfl, rfl⟩ := h
 obtain ⟨g, arr, hg, ha, hr⟩ := S.box b _ hcs
 obtain ⟨g', hg', rfl⟩ := hx
 rw [hg] at hg'
 simp only [Option.some.injEq] at hg'
 subst hg'
 have S' := S.kill b
 have hal : arr.toList.length = cs.length := hr.length
 have hb := rZ (P := P) (w := w) (isS := false) (len := n) (Nat.le_refl _) (qy hl rl) (qy hh rh) h4 h5 h6
 have hE := Tt hr h3
 have K : Trans (fun _ => false) (fun j => j == b) _root_.id _root_.id L (L.kill b) w w := by
  refine ⟨rfl, fun g h => ⟨.inl h, .of rfl⟩, fun j e _ g h => ⟨⟨rfl, h⟩, rfl⟩, fun j hj g h => ?_⟩
  have : j ≠ b := by simpa using hj
  simp only [Lay.kill, id_eq, if_neg this]; exact h
 have hE' := RepE.trans rfl K hE
 have hlen : ((cs.take h'.toNat).drop l.toNat).length = h'.toNat - l.toNat := by simp; omega
 refine ⟨.slice (some (if n = l.toNat then (⟨g, 0, none⟩ : Addr) else (⟨g, 0, none⟩ : Addr).add (l.toNat * 1))) (h'.toNat - l.toNat) (n - l.toNat), L.kill b, ?_, S', ?_⟩
 ·simp [Instr.sliceAt, run_underlying (wK hn), hb, jE h1, Instr.sureAddr]
 ·refine ⟨_, _, (arr.toList.take (h'.toNat * 1)).drop (l.toNat * 1), by rw [hlen], (hE'.take _).drop _, ?_⟩
  rw [hlen]
  refine ⟨by omega, ?_⟩
  rcases Nat.eq_zero_or_pos (h'.toNat - l.toNat) with hz | hz
  ·exact .inl hz
  ·right
   refine ⟨g, l.toNat, ?_, .inr hg, arr, e0, (0, 0), ha, ?_⟩
   ·rw [if_neg (by omega)]; simp [Addr.add]; omega
   ·simp only [Nat.mul_one]
    rw [List.drop_take]
    simp only [List.length_take, List.length_drop]
    congr 1
    omega
end
end Go.Pg
end
section
namespace Go.Pg
open Go
def qA (x0 : V) (cs : List V) : Option V :=
 match x0, cs with
 | .agg _, cs => some (.agg cs)
 | x, [y] => if x.one = true then some y else none
 | _, _ => none
def mY (P : Program) (s : St) (t : TypeId) (id k : Nat) (xs : List V) (i off : Nat) (x : V) : Option St :=
 (xs[i]?).bind fun x0 => x0.cs.bind fun c0 => x.cs.bind fun l => (qA x0 (c0.take off ++ l ++ c0.drop (off + l.length))).bind fun x1 =>
  if tsz P t = some l.length ∧ off + l.length ≤ c0.length ∧ l.all V.one = true ∧ x1.free = true then some (s.mapV (ay id k i x1)) else none
section
variable {P : Program} {C : Cx} {s : St} {L L' : Lay} {a : Act} {w w' : World}
theorem Jl {x0 x1 : V} {cs : List V} {u0 : Value} {us : List Value} (h : qA x0 cs = some x1) (h0 : Rep L w x0 u0) (hr : Reps L w cs us) (hone : ∀ u ∈ us, u.oneCell' = true) :
  ∃ u1 : Value, u1.cells.toList = us ∧ Rep L w x1 u1 := by
 unfold qA at h
 split at h
 ·simp only [Option.some.injEq] at h
  subst h
  exact ⟨.agg us.toArray, by simp [Value.cells], us.toArray, rfl, by simpa using hr⟩
 ·rename_i y hx
  simp only [Option.ite_none_right_eq_some, Option.some.injEq] at h
  obtain ⟨_, rfl⟩ := h
  obtain ⟨u, r, rfl, h2, h3⟩ := hr
  simp only [Reps] at h3
  subst h3
  have hu := hone u (by simp)
  refine ⟨u, ?_, h2⟩
  cases u <;> first | rfl | (simp [Value.oneCell'] at hu)
 ·cases h
theorem Nh {id k i g : Nat} {x1 : V} {u1 : Value} {arr arr' : Array Value} {e : TypeId} (hg : L.own id = some g) (ha : w.heap[g]? = some (.cells arr e (0, 0)))
  (hinj : ∀ j, L.own j = some g → j = id) (hnA : ¬ L.A g) (harr : arr'.size = arr.size) (hk : u1.cells.size = k)
  (harr' : ∀ len, i < len → len * k ≤ arr.size → arr'.toList.take (len * k) = (arr.toList.take (len * k)).take (i * k) ++ u1.cells.toList ++ (arr.toList.take (len * k)).drop (i * k + k))
  (harr0 : ∀ len, len ≤ i → arr'.toList.take (len * k) = arr.toList.take (len * k))
  (hx1 : Rep L (w.setRow g arr') x1 u1) (hf : x1.free = true ∧ u1.cells.toList.all Value.oneCell' = true) {v : V} {u : Value} (h : Rep L w v u) : Rep L (w.setRow g arr') (ay id k i x1 v) u := by
 have K : Trans (Tag.is id) (fun _ => false) _root_.id _root_.id L L w (w.setRow g arr') :=
  ⟨rfl, fun g' h => ⟨h, .of (setRow_other w g g' arr' (fun e => by subst e; exact hnA h))⟩,
   fun j e hj g' h => ⟨⟨rfl, h⟩, setRow_other w g g' arr' (fun e => by subst e; have := hinj j h; simp [Tag.is, this] at hj)⟩, fun _ _ _ h => h⟩
 unfold ay
 split
 ·rename_i j e' k' xs
  split
  ·rename_i hj
   subst hj
   split
   ·rename_i hkk
    subst hkk
    obtain ⟨ad, cap, cells, rfl, h2, h3⟩ := h
    have h2' := h2.trans (p := Tag.is j) (q := fun _ => false) rfl K
    rcases h3 with ⟨h4, rfl, rfl⟩ | ⟨g', arr0, h4, rfl, h5, h6, h7, h8, h9⟩
    ·have hx0 : xs = [] := List.eq_nil_of_length_eq_zero h4
     subst hx0
     exact ⟨none, 0, cells, rfl, h2', .inl ⟨rfl, rfl, rfl⟩⟩
    ·rw [hg] at h4
     simp only [Option.some.injEq] at h4
     subst h4
     rw [ha] at h5
     simp only [Option.some.injEq, Obj.cells.injEq] at h5
     obtain ⟨rfl, rfl, _⟩ := h5
     have hle : xs.length * k' ≤ arr.size := by rw [h8]; exact Nat.mul_le_mul_right _ h6
     by_cases hi : i < xs.length
     ·refine ⟨some ⟨g, 0, none⟩, cap, _, by simp, h2'.set hi hk hf hx1, .inr ⟨g, arr', hg, rfl, setRow_heap w g arr _ _ _ ha, by simpa using h6, h7, by rw [harr, h8], ?_⟩⟩
      rw [List.length_set, harr' xs.length hi hle, h9]
     ·rw [List.set_eq_of_length_le (by omega)]
      exact ⟨some ⟨g, 0, none⟩, cap, cells, rfl, h2', .inr ⟨g, arr', hg, rfl, setRow_heap w g arr _ _ _ ha, h6, h7, by rw [harr, h8], by rw [harr0 xs.length (by omega)]; exact h9⟩⟩
   ·trivial
  ·rename_i hj
   have := h.trans rfl K (by simp [V.any, Tag.is, hj])
   rwa [map_id.1] at this
 ·rename_i j e' k' xs i' off
  split
  ·rename_i hj
   subst hj
   split
   ·rename_i hkk
    subst hkk
    obtain ⟨g0, o, cells, rfl, h2, h3⟩ := h
    have h2' := h2.trans (p := Tag.is j) (q := fun _ => false) rfl K
    obtain ⟨h4, rfl, arr0, h5, h9⟩ := h3
    rw [hg] at h4
    simp only [Option.some.injEq] at h4
    subst h4
    rw [ha] at h5
    simp only [Option.some.injEq, Obj.cells.injEq] at h5
    obtain ⟨rfl, rfl, _⟩ := h5
    have hcl : cells.length = xs.length * k' := h2.length
    have hle : xs.length * k' ≤ arr.size := by
     have := congrArg List.length h9
     rw [hcl, List.length_take] at this
     have e : arr.toList.length = arr.size := Array.length_toList
     omega
    by_cases hi : i < xs.length
    ·have h7 := h2'.set hi hk hf hx1
     have h8 := h7.length
     refine ⟨g, 0, _, rfl, h7, hg, rfl, arr', setRow_heap w g arr _ _ _ ha, ?_⟩
     rw [h8, List.length_set, harr' xs.length hi hle, ← hcl, h9]
    ·rw [List.set_eq_of_length_le (by omega)]
     exact ⟨g, 0, cells, rfl, h2', hg, rfl, arr', setRow_heap w g arr _ _ _ ha, by rw [hcl, harr0 xs.length (by omega), ← hcl]; exact h9⟩
   ·trivial
  ·rename_i hj
   have := h.trans rfl K (by simp [V.any, Tag.is, hj])
   rwa [map_id.1] at this
 ·exact su K h
theorem WY (l u : List Value) (i k n : Nat) (hu : u.length = k) (hi : i + k ≤ n) (hn : n ≤ l.length) :
  (l.take i ++ u ++ l.drop (i + k)).take n = (l.take n).take i ++ u ++ (l.take n).drop (i + k) := by
 have e1 : (l.take i ++ u).length = i + k := by simp [hu]; omega
 rw [List.take_append, List.take_of_length_le (by omega), e1, List.take_take, Nat.min_eq_left (by omega), List.drop_take]
theorem Tu {t : TypeId} {id k i off : Nat} {e : TypeId} {xs : List V} {x : V} {u ux : Value} {s' : St} (h : mY P s t id k xs i off x = some s') (S : Sim C s L a w) (hu : Rep L w (.el (.own id e) k xs i off) u) (hx : Rep L w x ux) :
  ∃ w', (Instr.storeAt t u ux).run P w = .ok () w' ∧ Sim C s' L a w' := by
 simp only [mY, Option.bind_eq_some_iff, Option.ite_none_right_eq_some, Option.some.injEq] at h
 obtain ⟨x0, hx0, c0, hc0, l, hl, x1, hx1, ⟨h1, h2, h3, h4⟩, rfl⟩ := h
 obtain ⟨g, o, cells, rfl, hr, hg, rfl, arr, ha, htake⟩ := hu
 obtain ⟨u0, h5, h6, h7, h8⟩ := hr.get hx0
 have hcl := hr.length
 have hi : i < xs.length := (List.getElem?_eq_some_iff.1 hx0).1
 have hik : i * k + k ≤ xs.length * k := by
  have := Nat.mul_le_mul_right k (show i + 1 ≤ xs.length from hi)
  rwa [Nat.add_mul, Nat.one_mul] at this
 have hrl := wL hx hl
 have hll : ux.cells.size = l.length := by simpa using hrl.length
 have hr0 := wL h8 hc0
 have hc0l : u0.cells.size = c0.length := by simpa using hr0.length
 have hal : xs.length * k ≤ arr.size := by
  have := congrArg List.length htake
  simp only [List.length_take, Array.length_toList] at this
  omega
 have hone := CE hrl h3
 have hrun := AC (P := P) (w := w) (t := t) (g := g) (o := 0 + i * k + off) (v := ux) (arr := arr) (e := e) (by rw [hll]; exact h1) ha (by omega) hone
 obtain ⟨hw1, hw2, hw3⟩ := S.wf.own id g hg
 let us1 : List Value := u0.cells.toList.take off ++ ux.cells.toList ++ u0.cells.toList.drop (off + l.length)
 have hus1 : Reps L w (c0.take off ++ l ++ c0.drop (off + l.length)) us1 := ((hr0.take off).append hrl).append (hr0.drop _)
 have hone1 : ∀ u ∈ us1, u.oneCell' = true := by
  intro v hv
  simp only [us1, List.mem_append] at hv
  rcases hv with (hv | hv) | hv
  ·exact List.all_eq_true.1 h7.2 v (List.mem_of_mem_take hv)
  ·exact hone v hv
  ·exact List.all_eq_true.1 h7.2 v (List.mem_of_mem_drop hv)
 obtain ⟨u1, hu1, hru1⟩ := Jl hx1 h8 hus1 hone1
 have hu1k : u1.cells.size = k := by
  have : u1.cells.toList.length = us1.length := by rw [hu1]
  simp only [Array.length_toList, us1, List.length_append, List.length_take, List.length_drop, hll] at this
  omega
 have hu0 : (arr.toList.drop (i * k)).take k = u0.cells.toList := by
  rw [← h5, ← htake, List.drop_take, List.take_take]
  congr 1
  rw [hcl]
  omega
 have hnew : arr.toList.take (0 + i * k + off) ++ ux.cells.toList ++ arr.toList.drop (0 + i * k + off + ux.cells.size) = arr.toList.take (i * k) ++ u1.cells.toList ++ arr.toList.drop (i * k + k) := by
  rw [hu1, hll]
  simp only [us1, Nat.zero_add]
  have e1 : arr.toList.take (i * k + off) = arr.toList.take (i * k) ++ u0.cells.toList.take off := by
   rw [List.take_add, ← hu0, List.take_take, Nat.min_eq_left (by omega)]
  have e2 : arr.toList.drop (i * k + off + l.length) = u0.cells.toList.drop (off + l.length) ++ arr.toList.drop (i * k + k) := by
   rw [← hu0]
   have := List.take_append_drop (k - (off + l.length)) (arr.toList.drop (i * k + off + l.length))
   rw [← this, List.drop_drop, List.drop_take, List.drop_drop]
   congr 2
   ·congr 1; omega
   ·omega
  rw [e1, e2]
  simp [List.append_assoc]
 rw [hnew] at hrun
 let arr' : Array Value := (arr.toList.take (i * k) ++ u1.cells.toList ++ arr.toList.drop (i * k + k)).toArray
 have harr : arr'.size = arr.size := by simp [arr', hu1k]; omega
 have hfree : x1.free = true ∧ u1.cells.toList.all Value.oneCell' = true := ⟨h4, by rw [hu1]; exact List.all_eq_true.2 hone1⟩
 have K0 : Trans (Tag.is id) (fun _ => false) _root_.id _root_.id L L w (w.setRow g arr') :=
  ⟨rfl, fun g' h => ⟨h, .of (setRow_other w g g' arr' (fun e => by subst e; exact hw3 h))⟩,
   fun j e hj g' h => ⟨⟨rfl, h⟩, setRow_other w g g' arr' (fun e => by subst e; have := S.wf.injO j id _ h hg; simp [Tag.is, this] at hj)⟩, fun _ _ _ h => h⟩
 have hru1' : Rep L (w.setRow g arr') x1 u1 := by
  have := hru1.trans rfl K0 (V.free.any h4 (Tag.is id) (fun _ => false) rfl false)
  rwa [map_id.1] at this
 refine ⟨_, hrun, S.mapV (nid := s.nid) (fun v u h => Nh (arr := arr) (arr' := arr') hg ha (fun j hj => S.wf.injO j id g hj hg) hw3 harr hu1k ?_ ?_ hru1' hfree h)
  (fun b g' h => ⟨h, setRow_other w g g' _ (fun e => by subst e; exact S.wf.dis id b _ hg h)⟩) (S.wf.mono (Nat.le_refl _) (by simp)) (Kp.setRow _ hw2)⟩
 ·intro len hlen hle
  have := Nat.mul_le_mul_right k (show i + 1 ≤ len from hlen)
  rw [Nat.add_mul, Nat.one_mul] at this
  simp only [arr']
  exact WY _ _ _ _ _ (by simpa using hu1k) this (by simpa using hle)
 ·intro len hlen
  have := Nat.mul_le_mul_right k hlen
  simp only [arr']
  rw [List.append_assoc, List.take_append, List.take_take, Nat.min_eq_left this]
  have : len * k - (arr.toList.take (i * k)).length = 0 := by simp; omega
  rw [this]
  simp
theorem Jm (w : World) (g o n : Nat) (arr : Array Value) (e : TypeId) (fr : Nat × Nat) (hg : w.heap[g]? = some (.cells arr e fr)) : ∃ fr', (w.freeze ⟨g, o, none⟩ n).heap[g]? = some (.cells arr e fr') := by
 simp only [World.freeze]
 split
 ·exact ⟨fr, hg⟩
 ·simp only [Array.getElem?_modify, if_true, hg, Option.map_some]
  exact ⟨_, rfl⟩
theorem nJ (w : World) (g o n k : Nat) (h : k ≠ g) : (w.freeze ⟨g, o, none⟩ n).heap[k]? = w.heap[k]? := by
 simp only [World.freeze]
 split
 ·rfl
 ·simp only [Array.getElem?_modify]
  rw [if_neg (by omega)]
theorem GR (w : World) (g o n : Nat) : (w.freeze ⟨g, o, none⟩ n).heap.size = w.heap.size := by
 simp only [World.freeze]
 split <;> simp
theorem GU (w : World) (g o n : Nat) : (w.freeze ⟨g, o, none⟩ n).os = w.os ∧ (w.freeze ⟨g, o, none⟩ n).tape = w.tape ∧ (w.freeze ⟨g, o, none⟩ n).output = w.output := by
 simp only [World.freeze]
 split <;> exact ⟨rfl, rfl, rfl⟩
theorem Sim.freezeW (S : Sim C s L a w) {id g : Nat} (n o : Nat) {arr : Array Value} {e : TypeId} (h4 : L.own id = some g) (h5 : w.heap[g]? = some (.cells arr e (0, 0))) :
  Sim C (s.mapV (frz id)) (L.freeze id) a (w.freeze ⟨g, o, none⟩ n) := by
 obtain ⟨S', hψ⟩ := S.freeze id
 have hW := S.wf.own id g h4
 have hA : (L.freeze id).A g := .inr h4
 have hO : ∀ i, (L.freeze id).own i ≠ some g := fun i h => (S'.wf.own i g h).2.2 hA
 obtain ⟨fr, hfr⟩ := Jm w g o n arr e (0, 0) h5
 have K : Whole (L.freeze id) (L.freeze id) w (w.freeze ⟨g, o, none⟩ n) := by
  refine ⟨rfl, fun g' h => ⟨h, ?_⟩, fun j e _ g' h => ⟨⟨rfl, h⟩, nJ w _ _ _ g' (fun e => by subst e; exact hO j h)⟩, fun _ _ _ h => h⟩
  by_cases hg : g' = g
  ·subst hg
   intro arr' e'' fr' h'
   rw [h5] at h'
   simp only [Option.some.injEq, Obj.cells.injEq] at h'
   obtain ⟨rfl, rfl, _⟩ := h'
   exact ⟨fr, hfr⟩
  ·exact .of (nJ w _ _ _ g' hg)
 have hsz : (w.freeze ⟨g, o, none⟩ n).heap.size = w.heap.size := GR w _ _ _
 obtain ⟨ho, ht, hp⟩ := GU w g o n
 refine ⟨S'.defers, S'.size, fun t => (S'.env t).whole K, fun t => (S'.hid t).whole K, ?_, S'.wf.mono (Nat.le_refl _) (by rw [hsz]; exact Nat.le_refl _), S'.kp.trans ⟨ho, ht, hp, by rw [hsz]; exact Nat.le_refl _, ?_⟩⟩
 ·intro b cs hb
  obtain ⟨g', arr', h7, h8, h9⟩ := S'.box b cs hb
  exact ⟨g', arr', h7, (nJ w _ _ _ g' (fun e => by subst e; exact (S'.wf.boxW b _ h7).2.2 hA)).trans h8, h9.whole K⟩
 ·intro k' hk' hW'
  exact nJ w _ _ _ k' (fun e => by subst e; exact hW.2.1.elim (fun h => by omega) hW')
def u8L : List V → Option (List UInt8)
 | [] => some []
 | .c (.int .u8 n) :: r => if 0 ≤ n ∧ n < 256 then (u8L r).map (UInt8.ofNat n.toNat :: ·) else none
 | _ => none
theorem Tv {xs : List V} {l : List UInt8} {cells : List Value} (h : u8L xs = some l) (r : RepE L w 1 xs cells) : cells = Lib.byteCells l := by
 induction xs generalizing l cells with
 | nil => simp [u8L] at h; subst h; simpa [RepE, Lib.byteCells] using r
 | cons x xs ih =>
  unfold u8L at h
  split at h
  ·rename_i heq; cases heq
  ·rename_i n r' heq
   simp only [List.cons.injEq] at heq
   obtain ⟨rfl, rfl⟩ := heq
   simp only [Option.ite_none_right_eq_some, Option.map_eq_some_iff] at h
   obtain ⟨⟨h0, h1⟩, l', h2, rfl⟩ := h
   obtain ⟨u, rest, rfl, _, _, h4, h5⟩ := r
   simp only [Rep] at h4
   subst h4
   rw [ih h2 h5]
   have : ((UInt8.ofNat n.toNat).toNat : Int) = n := by
    rw [UInt8.toNat_ofNat']
    omega
   simp only [Lib.byteCells, Value.cells, List.map_cons, this]
   rfl
  ·cases h
theorem ac2 {xs : List V} {l : List UInt8} (h : u8L xs = some l) : l.length = xs.length := by
 induction xs generalizing l with
 | nil => simp [u8L] at h; subst h; rfl
 | cons x xs ih =>
  unfold u8L at h
  split at h
  ·rename_i heq; cases heq
  ·rename_i n r' heq
   simp only [List.cons.injEq] at heq
   obtain ⟨rfl, rfl⟩ := heq
   simp only [Option.ite_none_right_eq_some, Option.map_eq_some_iff] at h
   obtain ⟨_, l', h2, rfl⟩ := h
   simp [ih h2]
  ·cases h
def sdV (x : V) : Option V :=
 match x with
 | .sl t k (y :: ys) => some (.el t k (y :: ys) 0 0)
 | _ => none
theorem ac3 {x r : V} {u : Value} (h : sdV x = some r) (rx : Rep L w x u) (ts : Array TypeId) (ty : TypeId) : ∃ v, (Builtin.unsafeSliceData_ ts ty #[u]).run P w = .ok v w ∧ Rep L w r v := by
 unfold sdV at h
 split at h
 ·rename_i t k y ys
  simp only [Option.some.injEq] at h
  subst h
  obtain ⟨ad, cap, cells, rfl, h2, h3⟩ := rx
  obtain ⟨g, o, rfl, h4⟩ := h3.el (by simp) h2.length
  have hc : cap ≠ 0 := by have := h3.le; simp at this; omega
  exact ⟨_, Lib.run_unsafeSliceData_row w ts ty _ _ _ hc, g, o, cells, by simp, h2, h4⟩
 ·cases h
def rq (P : Program) (t : TypeId) : Option TypeId := match P.underlying t with | some (.pointer e) => some e | _ => none
theorem Tz {t e : TypeId} (h : rq P t = some e) : P.underlying t = some (.pointer e) := by
 unfold rq at h; split at h <;> simp_all
def usV (P : Program) (s : St) (pt : TypeId) (x n : V) : Option (V × St) :=
 match x, n with
 | .el (.own id e) 1 xs 0 0, .c (.int .i64 m) => (u8L xs).bind fun l => if rq P pt = some e ∧ P.cellsOf e = 1 ∧ m = xs.length ∧ xs.length ≠ 0 ∧ xs.length ≤ 9223372036854775807 then some (.c (.string ⟨l.toArray⟩), s.mapV (frz id)) else none
 | _, _ => none
theorem ahr {pt it ty : TypeId} {x n r : V} {ux un : Value} {s' : St} (h : usV P s pt x n = some (r, s')) (S : Sim C s L a w) (hx : Rep L w x ux) (hn : Rep L w n un) :
  ∃ u w' L', (Builtin.unsafeString_ #[pt, it] ty #[ux, un]).run P w = .ok u w' ∧ Sim C s' L' a w' ∧ Rep L' w' r u := by
 unfold usV at h
 split at h
 ·rename_i id e xs m
  simp only [Option.bind_eq_some_iff, Option.ite_none_right_eq_some, Option.some.injEq, Prod.mk.injEq] at h
  obtain ⟨l, hl, ⟨hp, hc, rfl, h0, h63⟩, rfl, rfl⟩ := h
  simp only [Rep] at hn; subst hn
  obtain ⟨g, o, cells, rfl, h2, hg, rfl, arr, h5, h6⟩ := hx
  have hll := ac2 hl
  have hcells := Tv hl h2
  subst hcells
  have hle : l.length ≤ arr.size := by
   have := congrArg List.length h6
   simp only [List.length_take, Array.length_toList, Lib.byteCells_length] at this
   omega
  have hrun := Lib.run_unsafeString_row (P := P) w pt it ty e (Tz hp) hc g arr.size (by simp [World.shape?, h5]) l (by intro hh; subst hh; simp at hll; exact h0 hll.symm) hle (by omega) (by
   intro j x hj
   rw [kU]
   have hrow : Row w g 0 (Lib.byteCells l) := ⟨arr, e, (0, 0), h5, by rw [List.drop_zero]; exact h6⟩
   exact hrow.cell (by simp [Lib.byteCells, hj]))
  rw [hll] at hrun
  exact ⟨_, _, _, by simpa using hrun, S.freezeW _ _ hg h5, rfl⟩
 ·cases h
end
end Go.Pg
end
section
namespace Go.Pg
open Go
structure ResLay (A : Nat → Prop) (w w' : World) (L : Lay) : Prop where
 A : ∀ g, L.A g → A g ∨ (w.heap.size ≤ g ∧ g < w'.heap.size)
 own : ∀ id g, L.own id = some g → w.heap.size ≤ g ∧ g < w'.heap.size ∧ ¬ L.A g
 inj : ∀ i j g, L.own i = some g → L.own j = some g → i = j
def zA (P : Program) (f : FuncId) : Bool :=
 match P.funcs[f]? with
 | some fn => !(fn.name == "runtime.NumGoroutine") && fn.body.isSome
 | none => false
def Good (P : Program) [Tb P] (f : FuncId) (args : List V) (r : V) : Prop :=
 zA P f = true ∧ ∀ (A : Nat → Prop) (w : World) (cargs : List Value), Tb.T P w → (∀ g, A g → g < w.heap.size) → Reps ⟨A, fun _ => none, fun _ => none⟩ w args cargs →
  Calls P f cargs.toArray w fun e w' => ∃ u L, e = .returned u ∧ Rep L w' r u ∧ Kp (fun _ => False) w.heap.size w w' ∧ ResLay A w w' L
mutual
def V.idb : V → Nat
 | .c _ => 0
 | .sl (.own id _) _ _ => id + 1
 | .sl .fz _ _ => 0
 | .sl .nn _ _ => 0
 | .agg cs => V.idbL cs
 | .tup cs => V.idbL cs
 | .ref _ _ => 0
 | .el (.own id _) _ _ _ _ => id + 1
 | .el .fz _ _ _ _ => 0
 | .el .nn _ _ _ _ => 0
 | .fn _ fs cs => max (V.idbL fs) (V.idbL cs)
 | .top => 0
 | .nif => 0
def V.idbL : List V → Nat
 | [] => 0
 | x :: xs => max (V.idb x) (V.idbL xs)
end
mutual
def V.flat : V → Bool
 | .c _ => true
 | .sl (.own _ _) _ xs => V.flatL xs
 | .sl .fz _ _ => false
 | .sl .nn _ xs => V.flatL xs
 | .agg cs => V.flatL cs
 | .tup cs => V.flatL cs
 | .ref _ _ => false
 | .el _ _ _ _ _ => false
 | .fn _ fs cs => V.flatL fs && V.flatL cs
 | .top => true
 | .nif => true
def V.flatL : List V → Bool
 | [] => true
 | x :: xs => V.flat x && V.flatL xs
end
def Tag.ge (n : Nat) : Tag → Bool
 | .fz => false
 | .nn => false
 | .own id _ => !decide (id < n)
theorem GV (n : Nat) : (∀ v : V, v.idb ≤ n → v.any (Tag.ge n) (fun _ => false) false = false) ∧ (∀ l, V.idbL l ≤ n → V.anyL (Tag.ge n) (fun _ => false) false l = false) := by
 refine V.ind ?_ ?_ ?_ ?_ ?_ ?_ ?_ ?_ ?_ ?_ ?_
 ·intro v _; rfl
 ·intro _; rfl
 ·intro t k xs _ h; cases t with
  | fz => rfl
  | nn => rfl
  | own id e => simp only [V.idb] at h; simp [V.any, Tag.ge]; omega
 ·intro cs ih h; exact ih h
 ·intro cs ih h; exact ih h
 ·intro b o _; rfl
 ·intro t k xs i o _ h; cases t with
  | fz => rfl
  | nn => rfl
  | own id e => simp only [V.idb] at h; simp [V.any, Tag.ge]; omega
 ·intro f fs cs h1 h2 h; simp only [V.idb] at h; simp [V.any, h1 (by omega), h2 (by omega)]
 ·intro _; rfl
 ·intro _; rfl
 ·intro x xs h1 h2 h; simp only [V.idbL] at h; simp [V.anyL, h1 (by omega), h2 (by omega)]
theorem Jn {L : Lay} {w : World} (A : Nat → Prop) : (∀ v u, V.flat v = true → Rep L w v u → Rep { L with A := A } w v u) ∧
  (∀ l, (∀ us, V.flatL l = true → Reps L w l us → Reps { L with A := A } w l us) ∧ (∀ k us, V.flatL l = true → RepE L w k l us → RepE { L with A := A } w k l us)) := by
 refine V.ind ?_ ?_ ?_ ?_ ?_ ?_ ?_ ?_ ?_ ?_ ?_
 ·intro v u _ h; exact h
 ·intro u _ h; exact h
 ·rintro t k xs ⟨_, ih⟩ u hf ⟨a, cap, cells, h1, h2, h3⟩
  cases t with
  | fz => simp [V.flat] at hf
  | nn => exact ⟨a, cap, cells, h1, ih k cells hf h2, h3⟩
  | own id e => exact ⟨a, cap, cells, h1, ih k cells hf h2, h3⟩
 ·rintro cs ⟨ih, _⟩ u hf ⟨a, h1, h2⟩; exact ⟨a, h1, ih _ hf h2⟩
 ·rintro cs ⟨ih, _⟩ u hf ⟨a, h1, h2⟩; exact ⟨a, h1, ih _ hf h2⟩
 ·intro b o u hf; simp [V.flat] at hf
 ·intro t k xs i o _ u hf; simp [V.flat] at hf
 ·rintro f fs cs ⟨ih1, _⟩ ⟨ih2, _⟩ u hf ⟨a, b, h1, h2, h3⟩
  simp only [V.flat, Bool.and_eq_true] at hf
  exact ⟨a, b, h1, ih1 _ hf.1 h2, ih2 _ hf.2 h3⟩
 ·intro u _ _; trivial
 ·exact ⟨fun us _ h => h, fun k us _ h => h⟩
 ·rintro x xs ihx ⟨ih1, ih2⟩
  refine ⟨?_, ?_⟩
  ·rintro us hf ⟨u, r, h1, h2, h3⟩
   simp only [V.flatL, Bool.and_eq_true] at hf
   exact ⟨u, r, h1, ihx u hf.1 h2, ih1 r hf.2 h3⟩
  ·rintro k us hf ⟨u, r, h1, h2, h3, h4, h5⟩
   simp only [V.flatL, Bool.and_eq_true] at hf
   exact ⟨u, r, h1, h2, h3, ihx u hf.1 h4, ih2 k r hf.2 h5⟩
def V.erase (v : V) : V := v.map (fun _ => .fz) id
def V.shift (n : Nat) (v : V) : V := v.map (fun t => match t with | .fz => .fz | .nn => .nn | .own id e => .own (id + n) e) id
def V.noRef (v : V) : Bool := !v.any (fun _ => false) (fun _ => true) false
def ownFree (l : List V) : Bool := !V.anyL Tag.isOwn (fun _ => false) false l
def noRefs (l : List V) : Bool := !V.anyL (fun _ => false) (fun _ => true) false l
def St.freezeAll (s : St) : List Nat → St
 | [] => s
 | id :: ids => (s.mapV (frz id)).freezeAll ids
inductive Kd where
 | p | q | r | x | z
 | a (l : List (Nat × Nat))
 | w (id k : Nat)
 | n
 | g (id : Nat)
 | o (b : Bool)
def V.calm (v : V) : Bool := !v.any Tag.isOwn (fun _ => true) false
def V.ownless (v : V) : Bool := !v.any Tag.isOwn (fun _ => false) true
def kq (l : List V) (v : V) : Kd := if l.all V.free && v.calm then .p else if l.all V.ownless && v.ownless then .o false else .q
def kr (v : V) : Kd := if v.ownless then .o true else .r
def V.aOk : V → Bool
 | .c _ => true
 | .sl _ _ _ => true
 | .el _ _ _ _ _ => true
 | .ref _ _ => true
 | .nif => true
 | _ => false
def V.aL : V → List (Nat × Nat)
 | .sl (.own id _) k _ => [(id, k)]
 | .el (.own id _) k _ _ _ => [(id, k)]
 | _ => []
def ka (l : List V) (v : V) : Kd :=
 match l.all V.aOk, l.flatMap V.aL with
 | true, p :: r => .a (p :: r)
 | _, _ => kq l v
def kc (l : List V) (ids : List Nat) (r : V) : Kd :=
 match ids with
 | [] => if r.idb = 0 then kq l r else .n
 | _ => .z
def GoodZ (P : Program) [Tb P] (g : FuncId) (args : List V) (s s' : St) (r : V) : Prop :=
 ∀ (C : Cx) (L : Lay) (a : Act) (w : World) (cargs : List Value), C.TOk P → Sim C s L a w → Reps L w args cargs →
  (zA P g = true ∧ Calls P g cargs.toArray w fun e w' => ∃ u L', e = .returned u ∧ Sim C s' L' a w' ∧ Rep L' w' r u) ∨
  ∃ u w' L', (callFunc g cargs.toArray).run P w = .ok (.value u) w' ∧ Sim C s' L' a w' ∧ Rep L' w' r u
def gU (P : Program) [Tb P] (f : V) (args : List Operand) (d : Option Nat) (s : St) (K : Kd → St → Prop) : Prop :=
 match f with
 | .fn g fs cs => (∃ (ids : List Nat) (r : V), Good P g ((fs ++ args.map (s.freezeAll ids).ev ++ cs).map V.erase) r ∧ ownFree (fs ++ cs) = true ∧ noRefs (fs ++ args.map (s.freezeAll ids).ev ++ cs) = true ∧ r.noRef = true ∧
   (ownFree (args.map (s.freezeAll ids).ev) || r.flat) = true ∧ K (kc (f :: args.map s.ev) ids r) (St.put { s.freezeAll ids with nid := s.nid + r.idb } d (r.shift s.nid))) ∨
   ∃ (s' : St) (r : V), GoodZ P g (fs ++ args.map s.ev ++ cs) s s' r ∧ K .z (s'.put d r)
 | _ => False
section
variable {P : Program} [Tb P] {C : Cx} {s : St} {L L' : Lay} {a : Act} {w w' : World}
theorem EK (ids : List Nat) : ∀ s : St, (s.freezeAll ids).nid = s.nid := by
 induction ids with
 | nil => intro s; rfl
 | cons i ids ih => intro s; exact ih _
theorem Sim.freezeAll (ids : List Nat) : ∀ {s : St} {L : Lay}, Sim C s L a w → ∃ L', Sim C (s.freezeAll ids) L' a w ∧ ∀ v u, ownFree [v] = true → Rep L w v u → Rep L' w v u := by
 induction ids with
 | nil => intro s L S; exact ⟨L, S, fun v u _ h => h⟩
 | cons i ids ih =>
  intro s L S
  obtain ⟨S1, hψ⟩ := S.freeze i
  obtain ⟨L2, S2, h2⟩ := ih S1
  refine ⟨L2, S2, fun v u hv h => h2 v u hv ?_⟩
  have K : Trans Tag.isOwn (fun _ => false) _root_.id _root_.id L (L.freeze i) w w :=
   ⟨rfl, fun g h => ⟨.inl h, .of rfl⟩, fun j e hj g h => by simp [Tag.isOwn] at hj, fun _ _ _ h => h⟩
  have := h.trans rfl K (by simpa [ownFree, V.anyL] using hv)
  rwa [map_id.1] at this
theorem Jo (p : Tag → Bool) (q : Nat → Bool) (tp : Bool) (l l' : List V) : V.anyL p q tp (l ++ l') = (V.anyL p q tp l || V.anyL p q tp l') := by
 induction l with
 | nil => simp [V.anyL]
 | cons x xs ih => simp [V.anyL, ih, Bool.or_assoc]
theorem GX {p p' : Tag → Bool} {q q' : Nat → Bool} : (∀ v : V, v.any p q false = false → v.any p' q' false = false → v.any (fun t => p t || p' t) (fun b => q b || q' b) false = false) ∧
  (∀ l, V.anyL p q false l = false → V.anyL p' q' false l = false → V.anyL (fun t => p t || p' t) (fun b => q b || q' b) false l = false) := by
 refine V.ind ?_ ?_ ?_ ?_ ?_ ?_ ?_ ?_ ?_ ?_ ?_ <;> simp_all [V.any, V.anyL]
theorem WZ (hT : C.TOk P) (S : Sim C s L a w) : Tb.T P w := hT w S.kp
theorem TA {f : FuncId} {vs : List V} {us : List Value} {r : V} (hT : C.TOk P) (S : Sim C s L a w) (hr : Reps L w vs us) (hg : Good P f (vs.map V.erase) r) (href : noRefs vs = true) (hrr : r.noRef = true) (hof : (ownFree vs || r.flat) = true) :
  Calls P f us.toArray w fun e w' => ∃ u L', e = .returned u ∧ Sim C { s with nid := s.nid + r.idb } L' a w' ∧ Rep L' w' (r.shift s.nid) u := by
 have hB := S.hB
 let A1 : Nat → Prop := fun g => L.A g ∨ (r.flat = true ∧ ∃ id, L.own id = some g)
 have hA1 : ∀ g, A1 g → g < w.heap.size := fun g h => h.elim (S.wf.old g) (fun ⟨_, id, h⟩ => (S.wf.own id g h).1)
 have hargs : Reps ⟨A1, fun _ => none, fun _ => none⟩ w (vs.map V.erase) us := by
  cases hfl : r.flat with
  | true =>
   have K : Trans (fun _ => false) (fun _ => true) (fun _ => .fz) id L ⟨A1, fun _ => none, fun _ => none⟩ w w :=
    ⟨rfl, fun g h => ⟨.inl h, .of rfl⟩, fun i e _ g h => ⟨.inr ⟨hfl, i, h⟩, rfl⟩, fun b hb => by simp at hb⟩
   have := hr.trans rfl K (by simpa [noRefs] using href)
   rwa [xx] at this
  | false =>
   have K : Trans Tag.isOwn (fun _ => true) (fun _ => .fz) id L ⟨A1, fun _ => none, fun _ => none⟩ w w :=
    ⟨rfl, fun g h => ⟨.inl h, .of rfl⟩, fun i e h => by simp [Tag.isOwn] at h, fun b hb => by simp at hb⟩
   have h1 : ownFree vs = true := by simpa [hfl] using hof
   have h3 := (GX (p := Tag.isOwn) (p' := fun _ => false) (q := fun _ => false) (q' := fun _ => true)).2 vs (by simpa [ownFree] using h1) (by simpa [noRefs] using href)
   have := hr.trans (p := Tag.isOwn) (q := fun _ => true) rfl K (by simpa using h3)
   rwa [xx] at this
 refine (hg.2 A1 w us (WZ hT S) hA1 hargs).mono ?_
 rintro e w' ⟨u, L1, rfl, hru, hkp, hlay⟩
 have G : Grow w w' := ⟨hkp.os, hkp.tape, hkp.output, hkp.size, fun k hk => hkp.block k hk (fun h => h)⟩
 let L2 : Lay := { A := fun g => L.A g ∨ (L1.A g ∧ w.heap.size ≤ g), own := fun j => if j < s.nid then L.own j else if j - s.nid < r.idb then L1.own (j - s.nid) else none, box := L.box }
 have E : L.Le L2 := ⟨fun g h => .inl h, fun i g h => by simp [L2, S.wf.nidO i g h, h], fun _ _ h => h⟩
 have W := S.wf
 have wf : Wf C (s.nid + r.idb) L2 w' := {
  nidO := fun j g h => by
   simp only [L2] at h
   split at h
   ·omega
   ·split at h
    ·omega
    ·cases h
  nidB := fun b g h => by have := W.nidB b g h; omega
  own := fun j g h => by
   simp only [L2] at h
   split at h
   ·obtain ⟨h1, h2, h3⟩ := W.own j g h
    exact ⟨by have := G.size; omega, h2, fun h' => h'.elim h3 (fun ⟨_, h'⟩ => by omega)⟩
   ·split at h
    ·obtain ⟨h1, h2, h3⟩ := hlay.own _ g h
     exact ⟨h2, .inl (by omega), fun h' => h'.elim (fun h' => by have := W.old g h'; omega) (fun ⟨h', _⟩ => h3 h')⟩
    ·cases h
  boxW := fun b g h => by
   obtain ⟨h1, h2, h3⟩ := W.boxW b g h
   exact ⟨by have := G.size; omega, h2, fun h' => h'.elim h3 (fun ⟨_, h'⟩ => by omega)⟩
  injO := fun i j g h h' => by
   simp only [L2] at h h'
   split at h
   ·split at h'
    ·exact W.injO i j g h h'
    ·split at h'
     ·have := (W.own i g h).1; have := (hlay.own _ g h').1; omega
     ·cases h'
   ·split at h
    ·split at h'
     ·have := (W.own j g h').1; have := (hlay.own _ g h).1; omega
     ·split at h'
      ·have := hlay.inj _ _ g h h'; omega
      ·cases h'
    ·cases h
  injB := W.injB
  dis := fun i j g h h' => by
   simp only [L2] at h
   split at h
   ·exact W.dis i j g h h'
   ·split at h
    ·have := (hlay.own _ g h).1; have := (W.boxW j g h').1; omega
    ·cases h
  old := fun g h => h.elim (fun h => by have := W.old g h; have := G.size; omega) (fun ⟨h, h'⟩ => by
   rcases hlay.A g h with h1 | h1
   ·have := hA1 g h1; omega
   ·exact h1.2)
  frz := fun g h => h.elim (W.frz g) (fun ⟨_, h'⟩ => .inr (.inl (by omega))) }
 refine ⟨u, L2, rfl, S.grow G E rfl (fun b cs h => .inl h) wf, ?_⟩
 have hsh : ∀ id e, Tag.ge r.idb (.own id e) = false → ∀ g, L1.own id = some g → L2.own (id + s.nid) = some g := by
  intro id e hid g h
  simp only [Tag.ge, Bool.not_eq_eq_eq_not, Bool.not_false, decide_eq_true_eq] at hid
  have h1 : ¬ id + s.nid < s.nid := by omega
  have h2 : id + s.nid - s.nid = id := by omega
  simp only [L2, if_neg h1, h2, if_pos hid, h]
 have hany : r.any (fun t => Tag.ge r.idb t || false) (fun b => false || true) false = false := by
  have := (GX (p := Tag.ge r.idb) (p' := fun _ => false) (q := fun _ => false) (q' := fun _ => true)).1 r ((GV r.idb).1 r (Nat.le_refl _)) (by simpa [V.noRef] using hrr)
  exact this
 cases hfl : r.flat with
 | true =>
  have hru' := (Jn (fun _ => False)).1 r u hfl hru
  have K : Trans (fun t => Tag.ge r.idb t || false) (fun b => false || true) (fun t => match t with | .fz => .fz | .nn => .nn | .own id e => .own (id + s.nid) e) id { L1 with A := fun _ => False } L2 w' w' :=
   ⟨rfl, fun g h => h.elim, fun id e hid g h => ⟨⟨rfl, hsh id e (by simpa using hid) g h⟩, rfl⟩, fun b hb => by simp at hb⟩
  exact hru'.trans rfl K hany
 | false =>
  have K : Trans (fun t => Tag.ge r.idb t || false) (fun b => false || true) (fun t => match t with | .fz => .fz | .nn => .nn | .own id e => .own (id + s.nid) e) id L1 L2 w' w' := by
   refine ⟨rfl, fun g h => ⟨?_, .of rfl⟩, fun id e hid g h => ⟨⟨rfl, hsh id e (by simpa using hid) g h⟩, rfl⟩, fun b hb => by simp at hb⟩
   rcases hlay.A g h with h1 | h1
   ·rcases h1 with h1 | ⟨h1, _⟩
    ·exact .inl h1
    ·rw [hfl] at h1; cases h1
   ·exact .inr ⟨h, h1.1⟩
  exact hru.trans rfl K hany
end
end Go.Pg
end
section
namespace Go.Pg
open Go
def exV (x : V) (i : Nat) : Option V := match x with | .tup vs => vs[i]? | _ => none
def uA (P : Program) (t : TypeId) : Bool := match P.underlying t with | some (.interface _) => true | _ => false
def wQ (P : Program) (op : BinOp) (t : TypeId) (x : V) : Option V :=
 match op, x with
 | .eql, .c .nilIface => if uA P t then some (.c (.bool true)) else none
 | .neq, .c .nilIface => if uA P t then some (.c (.bool false)) else none
 | .eql, .c (.iface _ _) => if uA P t then some (.c (.bool false)) else none
 | .neq, .c (.iface _ _) => if uA P t then some (.c (.bool true)) else none
 | _, _ => none
def zB (P : Program) (op : BinOp) (t : TypeId) (x y : V) (oy : Operand) : Option V :=
 match oy with
 | .const .nilIface => wQ P op t x
 | _ => eu P op t x y
theorem vM {P : Program} {t : TypeId} (h : uA P t = true) : P.underlying t = some (.interface (P.methodsAt t)) := by
 unfold uA at h
 split at h
 ·rename_i ms hm; simp [Program.methodsAt, hm]
 ·cases h
theorem W9 {P : Program} {L : Lay} {w : World} {op : BinOp} {t : TypeId} {x y r : V} {ux uy : Value} {ox oy : Operand} (h : zB P op t x y oy = some r) (rx : Rep L w x ux) (ry : Rep L w y uy) (hc : ∀ v, oy = .const v → uy = v) :
  ∃ u, (do eqGuard op t ox oy ux uy; Go.binOp op t ux uy : Sem Value).run P w = .ok u w ∧ Rep L w r u := by
 unfold zB at h
 split at h
 ·have := hc _ rfl
  subst this
  unfold wQ at h
  split at h
  ·simp only [Rep] at rx; subst rx
   simp only [Option.ite_none_right_eq_some, Option.some.injEq] at h
   obtain ⟨h0, rfl⟩ := h
   exact ⟨.bool true, by rw [eqGuard_nil_constR]; exact run_eql_nil_nil w t (vM h0), rfl⟩
  ·simp only [Rep] at rx; subst rx
   simp only [Option.ite_none_right_eq_some, Option.some.injEq] at h
   obtain ⟨h0, rfl⟩ := h
   exact ⟨.bool false, by rw [eqGuard_nil_constR]; exact run_neq_nil_nil w t (vM h0), rfl⟩
  ·simp only [Rep] at rx; subst rx
   simp only [Option.ite_none_right_eq_some, Option.some.injEq] at h
   obtain ⟨h0, rfl⟩ := h
   exact ⟨.bool false, by rw [Sem.run_bind, gp _ _ _ _ _ _ (by simp) (by simp)]; exact run_eql_held_nil w t _ _ (vM h0), rfl⟩
  ·simp only [Rep] at rx; subst rx
   simp only [Option.ite_none_right_eq_some, Option.some.injEq] at h
   obtain ⟨h0, rfl⟩ := h
   exact ⟨.bool true, by rw [Sem.run_bind, gp _ _ _ _ _ _ (by simp) (by simp)]; exact run_neq_held_nil w t _ _ (vM h0), rfl⟩
  ·cases h
 ·exact WT h rx ry _ _
def qv (P : Program) (s : St) (op : Op) : Option V :=
 match op with
 | .move x => some (s.ev x)
 | .assign x => some (s.ev x)
 | .pick c x y => match s.ev c with | .c (.bool b) => some (tZ b (s.ev x) (s.ev y)) | _ => none
 | .binOp op t x y _ => zB P op t (s.ev x) (s.ev y) y
 | .unOp op _ x => unV op (s.ev x)
 | .convert src dst x => mM P src dst (s.ev x)
 | .extract x i => exV (s.ev x) i
 | .field t x f => zx P t (s.ev x) f
 | .index t x i => ixV P t (s.ev x) (s.ev i)
 | .indexAddr t x i => iaV P t (s.ev x) (s.ev i)
 | .fieldAddr t x f => faV P t (s.ev x) f
 | .nilCheck x => match s.ev x with | .ref b o => some (.ref b o) | .el t k xs i o => some (.el t k xs i o) | .fn f fs cs => some (.fn f fs cs) | _ => none
 | .makeFunc (.func f) fs cs => some (.fn f (fs.toList.map s.ev) (cs.toList.map s.ev))
 | .build t parts => wM P t (parts.toList.map fun p => (p.1, s.ev p.2))
 | .slice t x lo hi none => slV P t (s.ev x) (lo.map s.ev) (hi.map s.ev)
 | .load t x => match s.ev x with | .el _ _ xs i off => (xs[i]?).bind fun y => y.cs.bind fun cs => eH P t cs off | _ => none
 | .call { callee := .builtin .len, args, argTypes } => match args.toList, argTypes.toList with | [x], [t] => Je P t (s.ev x) | _, _ => none
 | .call { callee := .builtin .unsafeSliceData, args, .. } => match args.toList with | [x] => sdV (s.ev x) | _ => none
 | .call { callee := .builtin .max, args, .. } => match args.toList with | [x, y] => qx true (s.ev x) (s.ev y) | _ => none
 | .call { callee := .builtin .min, args, .. } => match args.toList with | [x, y] => qx false (s.ev x) (s.ev y) | _ => none
 | _ => none
def isC : V → Bool
 | .c _ => true
 | _ => false
def Jp (P : Program) (src dst e : TypeId) (n off : Nat) : Bool :=
 match P.underlying src, P.underlying dst with
 | some (.pointer t), some .unsafePointer => (match P.info? t with | some j => decide (j.size ≠ 0) && decide (off < n) | none => false)
 | some .unsafePointer, some (.pointer u) => (P.info? u).isSome && liesAt P P.depth e (n / P.cellsOf e) off u 1
 | _, _ => false
def jF (P : Program) (s : St) (src dst : TypeId) (x : V) : Option V :=
 match x with
 | .ref b off => (s.bx b).bind fun y => if Jp P src dst y.1 y.2.length off = true then some (.ref b off) else none
 | _ => none
def xv (P : Program) (s : St) (op : Op) : Option (V × St) :=
 match op with
 | .alloc e => uu P s e
 | .box e x => MZ s e (s.ev x)
 | .buildSlice t len parts => bV P s t len (parts.toList.map fun p => (p.1, s.ev p.2))
 | .store t x y => match s.ev x with
  | .ref b off => (lZ P s t b off (s.ev y)).map fun s' => (.top, s')
  | .el (.own id _) k xs i off => (mY P s t id k xs i off (s.ev y)).map fun s' => (.top, s')
  | _ => none
 | .makeSlice t l c => xG P s t (s.ev l) (s.ev c)
 | .convert src dst x => (kz P src dst (s.ev x)).map fun r => (r, s)
 | .call { callee := .builtin .append, args, argTypes } => match args.toList, argTypes.toList with | [x, y], [t, t2] => lC P s t t2 (s.ev x) (s.ev y) | _, _ => none
 | _ => none
mutual
def V.ids : V → List Nat
 | .c _ => []
 | .sl (.own id _) _ _ => [id]
 | .sl .fz _ _ => []
 | .sl .nn _ _ => []
 | .agg cs => V.idsL cs
 | .tup cs => V.idsL cs
 | .ref _ _ => []
 | .el (.own id _) _ _ _ _ => [id]
 | .el .fz _ _ _ _ => []
 | .el .nn _ _ _ _ => []
 | .fn _ fs cs => V.idsL fs ++ V.idsL cs
 | .top => []
 | .nif => []
def V.idsL : List V → List Nat
 | [] => []
 | x :: xs => V.ids x ++ V.idsL xs
end
def frX (P : Program) (s : St) (ids : List Nat) (op : Op) : Option (V × St) :=
 match ids with
 | [] => none
 | i :: l => xv P (s.freezeAll (i :: l)) op
def zv (P : Program) (s : St) (op : Op) : Option (V × St) :=
 match op with
 | .slice t x lo hi none => match s.ev x with
  | .sl (.own id _) k xs => if (lo.map s.ev).all isC && (hi.map s.ev).all isC then nO P s t id k xs (lo.map s.ev) (hi.map s.ev) else none
  | .ref b off => xH P s t b off (lo.map s.ev) (hi.map s.ev)
  | _ => none
 | .convert src dst x => mX P s src dst (s.ev x)
 | .buildSlice t len parts => frX P s (V.idsL (parts.toList.map fun p => s.ev p.2)) (.buildSlice t len parts)
 | .store t x y => match s.ev x with | .el (.own _ _) _ _ _ _ => frX P s (s.ev y).ids (.store t x y) | _ => none
 | .call { callee := .builtin .unsafeString, args, argTypes } => match args.toList, argTypes.toList with | [x, n], [pt, _] => usV P s pt (s.ev x) (s.ev n) | _, _ => none
 | _ => none
def rv (P : Program) (s : St) (op : Op) : Option V :=
 match op with
 | .load t x => match s.ev x with | .ref b off => nN P s t b off | _ => none
 | .convert src dst x => jF P s src dst (s.ev x)
 | _ => none
def jV (x : Option (V × St)) (d : Option Nat) (k : Kd) (K : Kd → St → Prop) : Prop :=
 match x with
 | some (r, s') => K k (s'.put d r)
 | none => False
def oM (x : Option V) (s : St) (d : Option Nat) (l : List V) (K : Kd → St → Prop) : Prop :=
 match x with
 | some r => K (kq l r) (s.put d r)
 | none => False
def xI (f : List V → V → Kd) (x : Option V) (s : St) (d : Option Nat) (l : List V) (K : Kd → St → Prop) : Prop :=
 match x with
 | some r => K (f l r) (s.put d r)
 | none => False
def kqo (op : Op) : List V → V → Kd :=
 match op with
 | .move _ => ka
 | .assign _ => ka
 | .indexAddr _ _ _ => ka
 | .fieldAddr _ _ _ => ka
 | _ => kq
def Bf : V → Kd
 | .c (.slice none 0 0) => .n
 | .sl (.own id _) _ _ => .g id
 | _ => .x
def kx (s : St) (op : Op) : Kd :=
 match op with
 | .store _ x _ => (match s.ev x with | .el (.own id _) k _ _ _ => .w id k | _ => .x)
 | .buildSlice _ _ _ => .n
 | .makeSlice _ _ _ => .n
 | .call { callee := .value _, .. } => .n
 | .call { callee := .builtin .append, args := ⟨[x, _]⟩, .. } => Bf (s.ev x)
 | _ => .x
theorem eP (x : Option V) (s : St) (d : Option Nat) (l : List V) (K : Kd → St → Prop) : xI kq x s d l K = oM x s d l K := rfl
def xJ (x : Option V) (s : St) (d : Option Nat) (K : Kd → St → Prop) : Prop :=
 match x with
 | some r => K (kr r) (s.put d r)
 | none => False
def az (P : Program) [Tb P] (s : St) (o : Oper) (K : Kd → St → Prop) : Prop :=
 match o.op with
 | .call { callee := .value f, args, .. } => gU P (s.ev f) args.toList o.dst s K
 | op => xI (kqo op) (qv P s op) s o.dst (op.operands.toList.map s.ev) K ∨ xJ (rv P s op) s o.dst K ∨ jV (xv P s op) o.dst (kx s op) K ∨ jV (zv P s op) o.dst .z K
section
variable {P : Program} [Tb P] {C : Cx} {s : St} {L L' : Lay} {a : Act} {w w' : World}
def Does (P : Program) (o : Oper) (a : Act) (w : World) (u : Value) (w' : World) : Prop :=
 (execOp a.eval o).run P w = .ok (.value u) w' ∨ ((execOp a.eval o).run P w = .ok .skip w' ∧ u = undef)
theorem Does.wp {o : Oper} {u : Value} {next : Act → World → Prop} {Q : Exit → Act → World → Prop} (h : Does P o a w u w') (hn : next (a.put o.dst u) w') : o.wp P a w next Q := by
 unfold Oper.wp
 rcases h with h | ⟨h, rfl⟩ <;> rw [h] <;> exact hn
theorem evs (S : Sim C s L a w) (l : List Operand) : Reps L w (l.map s.ev) (l.map a.eval) := by
 induction l with
 | nil => rfl
 | cons x xs ih => exact ⟨_, _, rfl, S.ev x, ih⟩
theorem GY (S : Sim C s L a w) (o : Option Operand) : o.map s.ev = none ∧ o.map a.eval = none ∨ ∃ v u, o.map s.ev = some v ∧ o.map a.eval = some u ∧ Rep L w v u := by
 cases o with
 | none => exact .inl ⟨rfl, rfl⟩
 | some x => exact .inr ⟨_, _, rfl, rfl, S.ev x⟩
theorem QD {o : Oper} {r : V} (h : qv P s o.op = some r) (S : Sim C s L a w) : ∃ u, Does P o a w u w ∧ Rep L w r u := by
 obtain ⟨dst, op, type, pos, after, guard⟩ := o
 simp only at h
 unfold qv at h
 split at h
 ·simp only [Option.some.injEq] at h; subst h
  exact ⟨_, .inl rfl, S.ev _⟩
 ·simp only [Option.some.injEq] at h; subst h
  exact ⟨_, .inl rfl, S.ev _⟩
 ·rename_i c x y
  split at h
  ·rename_i b hb
   simp only [Option.some.injEq] at h; subst h
   have hc := S.ev c
   rw [hb] at hc
   simp only [Rep] at hc
   refine ⟨if b then a.eval x else a.eval y, .inl ?_, Tm (S.ev x) (S.ev y)⟩
   simp only [execOp, hc, asBool, Sem.run_bind, Sem.run_pure, Result.andThen_ok]
  ·cases h
 ·rename_i op t x y yt
  obtain ⟨u, h1, h2⟩ := W9 (ox := x) h (S.ev x) (S.ev y) (fun v hv => by subst hv; rfl)
  exact ⟨u, .inl (by simp only [execOp]; rw [Sem.run_bind]; rw [h1]; rfl), h2⟩
 ·rename_i op t x
  obtain ⟨u, h1, h2⟩ := acX (P := P) h (S.ev x)
  exact ⟨u, .inl (by simp only [execOp, Sem.run_bind, h1, Result.andThen_ok, Sem.run_pure]), h2⟩
 ·rename_i src dst' x
  obtain ⟨u, h1, h2⟩ := Tj h (S.ev x)
  exact ⟨u, .inl (by simp only [execOp, Sem.run_bind, h1, Result.andThen_ok, Sem.run_pure]), h2⟩
 ·rename_i x i
  unfold exV at h
  split at h
  ·rename_i vs hvs
   have hx := S.ev x
   rw [hvs] at hx
   obtain ⟨ar, har, hr⟩ := hx
   obtain ⟨u, h1, h2⟩ := hr.get h
   refine ⟨u, .inl ?_, h2⟩
   simp only [Array.getElem?_toList] at h1
   simp only [execOp, har, Instr.extract, h1, Sem.run_bind, Sem.run_pure, Result.andThen_ok]
  ·cases h
 ·rename_i t x f
  obtain ⟨u, h1, h2⟩ := MW h (S.ev x)
  exact ⟨u, .inl (by simp only [execOp, Sem.run_bind, h1, Result.andThen_ok, Sem.run_pure]), h2⟩
 ·rename_i t x i
  obtain ⟨u, h1, h2⟩ := ac0 h (S.ev x) (S.ev i)
  exact ⟨u, .inl (by simp only [execOp, Sem.run_bind, h1, Result.andThen_ok, Sem.run_pure]), h2⟩
 ·rename_i t x i
  obtain ⟨u, h1, h2⟩ := acY h (S.ev x) (S.ev i)
  exact ⟨u, .inl (by simp only [execOp, Sem.run_bind, h1, Result.andThen_ok, Sem.run_pure]), h2⟩
 ·rename_i t x f
  obtain ⟨u, h1, h2⟩ := acZ h (S.ev x)
  exact ⟨u, .inl (by simp only [execOp, Sem.run_bind, h1, Result.andThen_ok, Sem.run_pure]), h2⟩
 ·rename_i x
  have hx := S.ev x
  split at h
  ·rename_i b o hb
   simp only [Option.some.injEq] at h; subst h
   rw [hb] at hx
   obtain ⟨g, h1, h2⟩ := hx
   exact ⟨_, .inl (by simp only [execOp, h2]; rfl), g, h1, rfl⟩
  ·rename_i t k xs i o hb
   simp only [Option.some.injEq] at h; subst h
   rw [hb] at hx
   have hx' := hx
   obtain ⟨g, o', cells, h2, _⟩ := hx
   exact ⟨_, .inl (by simp only [execOp, h2]; rfl), h2 ▸ hx'⟩
  ·rename_i f fs cs hb
   simp only [Option.some.injEq] at h; subst h
   rw [hb] at hx
   have hx' := hx
   obtain ⟨a1, b1, h2, _⟩ := hx
   exact ⟨_, .inl (by simp only [execOp, h2]; rfl), h2 ▸ hx'⟩
  ·cases h
 ·rename_i f fs cs
  simp only [Option.some.injEq] at h; subst h
  exact ⟨_, .inl rfl, _, _, rfl, by simpa using evs S fs.toList, by simpa using evs S cs.toList⟩
 ·rename_i t parts
  obtain ⟨u, h1, h2⟩ := MX (parts := parts) s.ev a.eval S.ev h
  exact ⟨u, .inl (by simp only [execOp, Sem.run_bind, h1, Result.andThen_ok, Sem.run_pure]), h2⟩
 ·rename_i t x lo hi
  obtain ⟨u, h1, h2⟩ := QB h (S.ev x) (GY S lo) (GY S hi)
  exact ⟨u, .inl (by simp only [execOp, Sem.run_bind, Option.map_none, h1, Result.andThen_ok, Sem.run_pure]), h2⟩
 ·rename_i t x
  split at h
  ·rename_i tg k xs i off hx
   simp only [Option.bind_eq_some_iff] at h
   obtain ⟨y, hy, cs, hcs, h⟩ := h
   have hr := S.ev x
   rw [hx] at hr
   obtain ⟨u, h1, h2⟩ := WV hr hy hcs h
   exact ⟨u, .inl (by simp only [execOp, Sem.run_bind, h1, Result.andThen_ok, Sem.run_pure]), h2⟩
  ·cases h
 ·rename_i args argTypes
  split at h
  ·rename_i x t hx ht
   obtain ⟨u, h1, h2⟩ := WU (ty := type) h (S.ev x)
   have e1 : args = #[x] := by apply Array.ext'; simpa using hx
   have e2 : argTypes = #[t] := by apply Array.ext'; simpa using ht
   subst e1; subst e2
   refine ⟨u, .inl ?_, h2⟩
   simp only [execOp, resolve, Sem.run_bind, Sem.run_pure, Result.andThen_ok, invoke, builtin, List.map_toArray, List.map_cons, List.map_nil]
   rw [h1]; rfl
  ·cases h
 ·rename_i args argTypes
  split at h
  ·rename_i x hx
   obtain ⟨u, h1, h2⟩ := ac3 (P := P) h (S.ev x) argTypes type
   have e1 : args = #[x] := by apply Array.ext'; simpa using hx
   subst e1
   refine ⟨u, .inl ?_, h2⟩
   simp only [execOp, resolve, Sem.run_bind, Sem.run_pure, Result.andThen_ok, invoke, builtin, List.map_toArray, List.map_cons, List.map_nil]
   rw [h1]; rfl
  ·cases h
 ·rename_i args argTypes
  split at h
  ·rename_i x y hx
   obtain ⟨u, h1, h2⟩ := AB (P := P) (at_ := argTypes) (ty := type) h (S.ev x) (S.ev y)
   have e1 : args = #[x, y] := by apply Array.ext'; simpa using hx
   subst e1
   refine ⟨u, .inl ?_, h2⟩
   simp only [execOp, resolve, Sem.run_bind, Sem.run_pure, Result.andThen_ok, invoke, builtin, List.map_toArray, List.map_cons, List.map_nil]
   simp only [if_true] at h1
   rw [h1]; rfl
  ·cases h
 ·rename_i args argTypes
  split at h
  ·rename_i x y hx
   obtain ⟨u, h1, h2⟩ := AB (P := P) (at_ := argTypes) (ty := type) h (S.ev x) (S.ev y)
   have e1 : args = #[x, y] := by apply Array.ext'; simpa using hx
   subst e1
   refine ⟨u, .inl ?_, h2⟩
   simp only [execOp, resolve, Sem.run_bind, Sem.run_pure, Result.andThen_ok, invoke, builtin, List.map_toArray, List.map_cons, List.map_nil]
   simp only [Bool.false_eq_true, if_false] at h1
   rw [h1]; rfl
  ·cases h
 ·cases h
theorem Nj {src dst : TypeId} {x r : V} {ux : Value} (h : jF P s src dst x = some r) (S : Sim C s L a w) (hx : Rep L w x ux) : ∃ u, (convert src dst ux).run P w = .ok u w ∧ Rep L w r u := by
 unfold jF at h
 split at h
 ·rename_i b off
  simp only [Option.bind_eq_some_iff, Option.ite_none_right_eq_some, Option.some.injEq] at h
  obtain ⟨⟨e, cs⟩, hb, h0, rfl⟩ := h
  obtain ⟨g, arr, hg, ha, hr⟩ := S.box b _ hb
  have hx' := hx
  obtain ⟨g', hg', rfl⟩ := hx
  rw [hg] at hg'
  simp only [Option.some.injEq] at hg'
  subst hg'
  have hl : arr.size = cs.length := by simpa using hr.length
  have hsh : w.shape? g = some (e, arr.size) := by simp [World.shape?, ha]
  unfold Jp at h0
  split at h0
  ·rename_i t hs hd
   split at h0
   ·rename_i j hj
    simp only [Bool.and_eq_true, decide_eq_true_eq] at h0
    exact ⟨_, Lib.run_to_unsafe w _ hs hd hj h0.1 hsh (by rw [hl]; exact h0.2), hx'⟩
   ·cases h0
  ·rename_i u hs hd
   simp only [Bool.and_eq_true] at h0
   obtain ⟨j, hj⟩ := Option.isSome_iff_exists.1 h0.1
   refine ⟨_, Lib.run_from_unsafe w _ hs hd hj hsh ?_, hx'⟩
   rw [hl]; exact h0.2
  ·cases h0
 ·cases h
theorem ac4 {o : Oper} {r : V} (h : rv P s o.op = some r) (S : Sim C s L a w) : ∃ u, Does P o a w u w ∧ Rep L w r u := by
 obtain ⟨dst, op, type, pos, after, guard⟩ := o
 simp only at h
 unfold rv at h
 split at h
 ·rename_i t x
  split at h
  ·rename_i b off hx
   have hr := S.ev x
   rw [hx] at hr
   obtain ⟨u, h1, h2⟩ := CB h S hr
   exact ⟨u, .inl (by simp only [execOp, Sem.run_bind, h1, Result.andThen_ok, Sem.run_pure]), h2⟩
  ·cases h
 ·rename_i src dst' x
  obtain ⟨u, h1, h2⟩ := Nj h S (S.ev x)
  exact ⟨u, .inl (by simp only [execOp, Sem.run_bind, h1, Result.andThen_ok, Sem.run_pure]), h2⟩
 ·cases h
theorem QE {o : Oper} {r : V} {s' : St} (h : xv P s o.op = some (r, s')) (S : Sim C s L a w) : ∃ u w' L', Does P o a w u w' ∧ Sim C s' L' a w' ∧ Rep L' w' r u := by
 obtain ⟨dst, op, type, pos, after, guard⟩ := o
 simp only at h
 unfold xv at h
 split at h
 ·obtain ⟨u, w', L', h1, h2, h3⟩ := Tn h S
  exact ⟨u, w', L', .inl (by simp only [execOp, Sem.run_bind, h1, Result.andThen_ok, Sem.run_pure]), h2, h3⟩
 ·rename_i e x
  obtain ⟨u, w', L', h1, h2, h3⟩ := ac1 (P := P) (elem := e) h S (S.ev x)
  exact ⟨u, w', L', .inl (by simp only [execOp, Sem.run_bind, h1, Result.andThen_ok, Sem.run_pure]), h2, h3⟩
 ·rename_i t len parts
  obtain ⟨u, w', L', h1, h2, h3⟩ := CP (parts := parts) S h
  exact ⟨u, w', L', .inl (by simp only [execOp, Sem.run_bind, h1, Result.andThen_ok, Sem.run_pure]), h2, h3⟩
 ·rename_i t x y
  have hx := S.ev x
  split at h
  ·rename_i b off hb
   simp only [Option.map_eq_some_iff, Prod.mk.injEq] at h
   obtain ⟨s1, h, rfl, rfl⟩ := h
   rw [hb] at hx
   obtain ⟨w', h1, h2⟩ := Fz h S hx (S.ev y)
   exact ⟨undef, w', L, .inr ⟨by simp only [execOp, Sem.run_bind, h1, Result.andThen_ok, Sem.run_pure], rfl⟩, h2, trivial⟩
  ·rename_i id e k xs i off hb
   simp only [Option.map_eq_some_iff, Prod.mk.injEq] at h
   obtain ⟨s1, h, rfl, rfl⟩ := h
   rw [hb] at hx
   obtain ⟨w', h1, h2⟩ := Tu h S hx (S.ev y)
   exact ⟨undef, w', L, .inr ⟨by simp only [execOp, Sem.run_bind, h1, Result.andThen_ok, Sem.run_pure], rfl⟩, h2, trivial⟩
  ·cases h
 ·rename_i t l c
  obtain ⟨u, w', L', h1, h2, h3⟩ := WX h S (S.ev l) (S.ev c)
  exact ⟨u, w', L', .inl (by simp only [execOp, Sem.run_bind, h1, Result.andThen_ok, Sem.run_pure]), h2, h3⟩
 ·rename_i src dst' x
  simp only [Option.map_eq_some_iff, Prod.mk.injEq] at h
  obtain ⟨r', h, rfl, rfl⟩ := h
  obtain ⟨u, w', L', h1, h2, h3⟩ := Jj h S (S.ev x)
  exact ⟨u, w', L', .inl (by simp only [execOp, Sem.run_bind, h1, Result.andThen_ok, Sem.run_pure]), h2, h3⟩
 ·rename_i args argTypes
  split at h
  ·rename_i x y t t2 hx ht
   obtain ⟨u, w', L', h1, h2, h3⟩ := Na (ty := type) h S (S.ev x) (S.ev y)
   have e1 : args = #[x, y] := by apply Array.ext'; simpa using hx
   have e2 : argTypes = #[t, t2] := by apply Array.ext'; simpa using ht
   subst e1; subst e2
   refine ⟨u, w', L', .inl ?_, h2, h3⟩
   simp only [execOp, resolve, Sem.run_bind, Sem.run_pure, Result.andThen_ok, invoke, builtin, List.map_toArray, List.map_cons, List.map_nil]
   rw [h1]; rfl
  ·cases h
 ·cases h
theorem Jq {o : Oper} {ids : List Nat} {r : V} {s' : St} (h : frX P s ids o.op = some (r, s')) (S : Sim C s L a w) : ∃ u w' L', Does P o a w u w' ∧ Sim C s' L' a w' ∧ Rep L' w' r u := by
 unfold frX at h
 split at h
 ·cases h
 ·rename_i i l
  obtain ⟨L1, S1, _⟩ := Sim.freezeAll (i :: l) S
  exact QE h S1
theorem ac5 {o : Oper} {r : V} {s' : St} (h : zv P s o.op = some (r, s')) (S : Sim C s L a w) : ∃ u w' L', Does P o a w u w' ∧ Sim C s' L' a w' ∧ Rep L' w' r u := by
 obtain ⟨dst, op, type, pos, after, guard⟩ := o
 simp only at h
 unfold zv at h
 split at h
 ·rename_i t x lo hi
  split at h
  ·rename_i id e k xs hb
   simp only [Option.ite_none_right_eq_some, Bool.and_eq_true] at h
   obtain ⟨⟨h1, h2⟩, h⟩ := h
   have hx := S.ev x
   rw [hb] at hx
   have isC_of : ∀ (o : Option Operand), (o.map s.ev).all isC = true → ∀ x, o = some x → ∃ u, s.ev x = .c u := by
    rintro o ho x rfl
    simp only [Option.map_some, Option.all_some] at ho
    generalize s.ev x = v at ho
    cases v <;> simp only [isC, Bool.false_eq_true] at ho
    exact ⟨_, rfl⟩
   obtain ⟨u, L', h3, h4, h5⟩ := Ji h S hx (isC_of lo h1) (isC_of hi h2)
   exact ⟨u, w, L', .inl (by simp only [execOp, Sem.run_bind, Option.map_none, h3, Result.andThen_ok, Sem.run_pure]), h4, h5⟩
  ·rename_i b off hb
   have hx := S.ev x
   rw [hb] at hx
   obtain ⟨u, L', h3, h4, h5⟩ := Jk h S hx (GY S lo) (GY S hi)
   exact ⟨u, w, L', .inl (by simp only [execOp, Sem.run_bind, Option.map_none, h3, Result.andThen_ok, Sem.run_pure]), h4, h5⟩
  ·cases h
 ·rename_i src dst' x
  obtain ⟨u, w', L', h1, h2, h3⟩ := Tq h S (S.ev x)
  exact ⟨u, w', L', .inl (by simp only [execOp, Sem.run_bind, h1, Result.andThen_ok, Sem.run_pure]), h2, h3⟩
 ·exact Jq (o := ⟨dst, _, type, pos, after, guard⟩) h S
 ·split at h
  ·exact Jq (o := ⟨dst, _, type, pos, after, guard⟩) h S
  ·cases h
 ·rename_i args argTypes
  split at h
  ·rename_i x n pt it hx ht
   obtain ⟨u, w', L', h1, h2, h3⟩ := ahr (it := it) (ty := type) h S (S.ev x) (S.ev n)
   have e1 : args = #[x, n] := by apply Array.ext'; simpa using hx
   have e2 : argTypes = #[pt, it] := by apply Array.ext'; simpa using ht
   subst e1; subst e2
   refine ⟨u, w', L', .inl ?_, h2, h3⟩
   simp only [execOp, resolve, Sem.run_bind, Sem.run_pure, Result.andThen_ok, invoke, builtin, List.map_toArray, List.map_cons, List.map_nil]
   rw [h1]; rfl
  ·cases h
 ·cases h
theorem jo {l l' : List V} : ownFree (l ++ l') = (ownFree l && ownFree l') := by
 simp [ownFree, Jo]
theorem AL {l : List V} (h : ownFree l = true) : ∀ v ∈ l, ownFree [v] = true := by
 induction l with
 | nil => intro v hv; cases hv
 | cons x xs ih =>
  simp only [ownFree, V.anyL, Bool.not_eq_eq_eq_not, Bool.not_true, Bool.or_eq_false_iff] at h
  intro v hv
  rcases List.mem_cons.1 hv with rfl | hv
  ·simp [ownFree, V.anyL, h.1]
  ·exact ih (by simp [ownFree, h.2]) v hv
theorem Reps.of {l : List V} {us : List Value} (h : Reps L w l us) (hf : ∀ v ∈ l, ∀ u, Rep L w v u → Rep L' w' v u) : Reps L' w' l us := by
 induction l generalizing us with
 | nil => exact h
 | cons x xs ih => obtain ⟨u, r, rfl, h2, h3⟩ := h; exact ⟨u, r, rfl, hf x (by simp) u h2, ih h3 (fun v hv => hf v (by simp [hv]))⟩
theorem sD {f : FuncId} (h : zA P f = true) (args : Array Value) : (callFunc f args).run P w = .ok (.enter f args) w := by
 unfold zA at h
 split at h
 ·rename_i fn hf
  simp only [Bool.and_eq_true, Bool.not_eq_eq_eq_not, Bool.not_true] at h
  have hn : ¬ fn.name = "runtime.NumGoroutine" := by simpa using h.1
  have hb : ¬ fn.body = none := fun e => by rw [e] at h; simp at h
  simp [callFunc, hf, hn, hb]
 ·cases h
theorem qB {o : Oper} {K : Kd → St → Prop} {next : Act → World → Prop} {Q : Exit → Act → World → Prop} (h : az P s o K) (hT : C.TOk P) (S : Sim C s L a w) (hd : ∀ t, o.dst = some t → t < C.n)
  (hn : ∀ κ s' L' a' w', K κ s' → Sim C s' L' a' w' → next a' w') : o.wp P a w next Q := by
 unfold az at h
 split at h
 ·rename_i f args argTypes heq
  unfold gU at h
  split at h
  ·rename_i g fs cs hf
   rcases h with h | ⟨s1, r, hz, hK⟩
   case inr =>
    have hfv := S.ev f
    rw [hf] at hfv
    obtain ⟨af, ac, hfe, hrf, hrc⟩ := hfv
    have hargs : Reps L w (fs ++ args.toList.map s.ev ++ cs) (af.toList ++ args.toList.map a.eval ++ ac.toList) := (hrf.append (evs S args.toList)).append hrc
    have e1 : (af.toList ++ args.toList.map a.eval ++ ac.toList).toArray = af ++ args.map a.eval ++ ac := by
     apply Array.ext'; simp
    rcases hz C L a w _ hT S hargs with ⟨hen, hcall⟩ | ⟨u, w', L', hrun, S2, hr2⟩
    ·rw [e1] at hcall
     have hexec : (execOp a.eval o).run P w = .ok (.enter g (af ++ args.map a.eval ++ ac)) w := by
      simp only [execOp, heq, resolve, hfe, Deferred.ofValue, Sem.run_bind, Sem.run_pure, Result.andThen_ok, invoke]
      exact sD hen _
     unfold Oper.wp
     rw [hexec]
     simp only [Oper.upon]
     refine hcall.mono ?_
     rintro e w' ⟨u, L2, rfl, S2, hr2⟩
     exact hn _ _ _ _ _ hK (S2.put hr2 hd)
    ·rw [e1] at hrun
     have hexec : (execOp a.eval o).run P w = .ok (.value u) w' := by
      simp only [execOp, heq, resolve, hfe, Deferred.ofValue, Sem.run_bind, Sem.run_pure, Result.andThen_ok, invoke]
      exact hrun
     unfold Oper.wp
     rw [hexec]
     simp only [Oper.upon]
     exact hn _ _ _ _ _ hK (S2.put hr2 hd)
   obtain ⟨ids, r, hg, hown, href, hrr, hof, hK⟩ := h
   have hfv := S.ev f
   rw [hf] at hfv
   obtain ⟨af, ac, hfe, hrf, hrc⟩ := hfv
   obtain ⟨L1, S1, hfree⟩ := S.freezeAll ids
   rw [jo, Bool.and_eq_true] at hown
   have hrf' := hrf.of (fun v hv u h => hfree v u (AL hown.1 v hv) h)
   have hrc' := hrc.of (fun v hv u h => hfree v u (AL hown.2 v hv) h)
   have hargs : Reps L1 w (fs ++ args.toList.map (s.freezeAll ids).ev ++ cs) (af.toList ++ args.toList.map a.eval ++ ac.toList) := (hrf'.append (evs S1 args.toList)).append hrc'
   have hof' : (ownFree (fs ++ args.toList.map (s.freezeAll ids).ev ++ cs) || r.flat) = true := by
    rw [jo, jo, hown.1, hown.2]
    simpa using hof
   have hcall := TA hT S1 hargs hg href hrr hof'
   have hexec : (execOp a.eval o).run P w = .ok (.enter g (af ++ args.map a.eval ++ ac)) w := by
    simp only [execOp, heq, resolve, hfe, Deferred.ofValue, Sem.run_bind, Sem.run_pure, Result.andThen_ok, invoke]
    exact sD hg.1 _
   unfold Oper.wp
   rw [hexec]
   simp only [Oper.upon]
   have e1 : (af.toList ++ args.toList.map a.eval ++ ac.toList).toArray = af ++ args.map a.eval ++ ac := by
    apply Array.ext'; simp
   rw [e1] at hcall
   refine hcall.mono ?_
   rintro e w' ⟨u, L2, rfl, S2, hr2⟩
   rw [EK] at S2 hr2
   exact hn _ _ _ _ _ hK (S2.put hr2 hd)
  ·cases h
 ·rcases h with h | h | h | h
  ·unfold xI at h
   split at h
   ·rename_i r hr
    obtain ⟨u, h1, h2⟩ := QD hr S
    exact h1.wp (hn _ _ _ _ _ h (S.put h2 hd))
   ·cases h
  ·unfold xJ at h
   split at h
   ·rename_i r hr
    obtain ⟨u, h1, h2⟩ := ac4 hr S
    exact h1.wp (hn _ _ _ _ _ h (S.put h2 hd))
   ·cases h
  ·unfold jV at h
   split at h
   ·rename_i r s' hr
    obtain ⟨u, w', L', h1, h2, h3⟩ := QE hr S
    exact h1.wp (hn _ _ _ _ _ h (h2.put h3 hd))
   ·cases h
  ·unfold jV at h
   split at h
   ·rename_i r s' hr
    obtain ⟨u, w', L', h1, h2, h3⟩ := ac5 hr S
    exact h1.wp (hn _ _ _ _ _ h (h2.put h3 hd))
   ·cases h
def iR (s : St) (dsts : List (Option Nat)) (j : Nat) : Option V :=
 match dsts[j]? with
 | some (some d) => some (s.env d)
 | _ => none
def wpL (P : Program) [Tb P] (dsts : List (Option Nat)) (K : St → Prop) : List Oper → St → Prop
 | [], s => K s
 | o :: rest, s =>
  match o.guard with
  | none => az P s o (fun _ => wpL P dsts K rest)
  | some (j, want) => match iR s dsts j with
   | some (.c (.bool b)) => if b = want then az P s o (fun _ => wpL P dsts K rest) else wpL P dsts K rest (s.put o.dst (.c undef))
   | some (.c _) => wpL P dsts K rest (s.put o.dst (.c undef))
   | _ => False
theorem wE {ops : Array Oper} {j : Nat} {b : Bool} (S : Sim C s L a w) (h : iR s (ops.toList.map (·.dst)) j = some (.c (.bool b))) : yielded ops a.tmps j = some b := by
 unfold iR at h
 split at h
 ·rename_i d hd
  simp only [Option.some.injEq] at h
  simp only [List.getElem?_map, Option.map_eq_some_iff] at hd
  obtain ⟨o, ho, hod⟩ := hd
  simp only [Array.getElem?_toList] at ho
  have he := S.env d
  rw [h] at he
  simp only [Rep] at he
  have : a.tmps[d]? = some (.bool b) := by
   rcases Nat.lt_or_ge d a.tmps.size with hl | hl
   ·simp only [Array.getD_eq_getD_getElem?, Array.getElem?_eq_getElem hl, Option.getD_some] at he ⊢
    rw [he]
   ·simp [Array.getD_eq_getD_getElem?, Array.getElem?_eq_none hl, undef] at he
  simp [yielded, ho, hod, this]
 ·cases h
theorem CS {ops : Array Oper} {j : Nat} {v : Value} (S : Sim C s L a w) (h : iR s (ops.toList.map (·.dst)) j = some (.c v)) (hv : ∀ b, v ≠ .bool b) : yielded ops a.tmps j = none := by
 unfold iR at h
 split at h
 ·rename_i d hd
  simp only [Option.some.injEq] at h
  simp only [List.getElem?_map, Option.map_eq_some_iff] at hd
  obtain ⟨o, ho, hod⟩ := hd
  simp only [Array.getElem?_toList] at ho
  have he := S.env d
  rw [h] at he
  simp only [Rep] at he
  simp only [yielded, ho, hod, Option.bind_some]
  rcases Nat.lt_or_ge d a.tmps.size with hl | hl
  ·simp only [Array.getD_eq_getD_getElem?, Array.getElem?_eq_getElem hl, Option.getD_some] at he
   simp only [Array.getElem?_eq_getElem hl, he]
   cases v <;> first | rfl | exact absurd rfl (hv _)
  ·simp [Array.getElem?_eq_none hl]
 ·cases h
theorem TB (hT : C.TOk P) {ops : Array Oper} {K : St → Prop} {Q : Exit → Act → World → Prop} (hK : ∀ s' L' a' w', K s' → Sim C s' L' a' w' → Q .normal a' w') (l : List Oper) (hl : ∀ o ∈ l, ∀ t, o.dst = some t → t < C.n) :
  ∀ {s : St} {L : Lay} {a : Act} {w : World}, wpL P (ops.toList.map (·.dst)) K l s → Sim C s L a w → wpList P ops Q l a w := by
 induction l with
 | nil => intro s L a w h S; exact hK s L a w h S
 | cons o rest ih =>
  intro s L a w h S
  have hd := hl o (by simp)
  have ih' := @ih (fun o ho => hl o (by simp [ho]))
  unfold wpList
  unfold wpL at h
  split at h
  ·rename_i hg
   rw [if_pos (by simp [Region.wanted, hg])]
   exact .inl (qB h hT S hd (fun _ s' L' a' w' h' S' => ih' h' S'))
  ·rename_i j want hg
   split at h
   ·rename_i b hb
    have hy := wE S hb
    split at h
    ·rename_i hbw
     rw [if_pos (by simp [Region.wanted, hg, hy, hbw])]
     exact .inl (qB h hT S hd (fun _ s' L' a' w' h' S' => ih' h' S'))
    ·rename_i hbw
     rw [if_neg (by simp [Region.wanted, hg, hy, hbw])]
     exact ih' h (S.put (v := .c undef) rfl hd)
   ·rename_i v hnb hb
    rw [if_neg (by simp [Region.wanted, hg, CS S hb (fun b e => hnb b (by rw [e]))])]
    exact ih' h (S.put (v := .c undef) rfl hd)
   ·cases h
end
end Go.Pg
end
section
namespace Go.Pg
open Go
def Nk (n : Nat) (ops : List Oper) : Bool := ops.all fun o => match o.dst with | some d => decide (d < n) | none => true
def xK (n : Nat) : Code → Bool
 | .region _ ops _ => Nk n ops.toList
 | .seq x y => xK n x && xK n y
 | .cond _ x y => xK n x && xK n y
 | .block _ x => xK n x
 | .loop x => xK n x
 | .rangeFunc .. => false
 | .scope _ => false
 | .refuse _ => true
 | _ => true
def Weak (s s' : St) : Prop := ∀ (C : Cx) (L : Lay) (a : Act) (w : World), Sim C s L a w → ∃ L', Sim C s' L' a w
def uB (k : St → Prop) (Q : Exit → St → Prop) : Exit → St → Prop
 | .normal, s => k s
 | e, s => Q e s
def inB (id : Nat) (Q : Exit → St → Prop) : Exit → St → Prop
 | .exit id', s => if id' = id then Q .normal s else Q (.exit id') s
 | e, s => Q e s
def FD (v : V) (x y : Prop) : Prop :=
 match v with
 | .c (.bool b) => if b = true then x else y
 | _ => False
def agZ (body : (Exit → St → Prop) → St → Prop) (Q : Exit → St → Prop) (s : St) : Prop :=
 ∃ (I : Nat → St → Prop) (n : Nat), (∃ s0, Weak s s0 ∧ I n s0) ∧ ∀ n s1, I n s1 → body (uB (fun s2 => ∃ m s3, m < n ∧ Weak s2 s3 ∧ I m s3) Q) s1
structure Dw where
 d : (P : Program) → [Tb P] → Array Oper → (St → Prop) → St → Prop
 cuts : List Nat
def kC : Code → Option Nat
 | .region id _ _ => some id
 | .seq x _ => kC x
 | .block _ x => kC x
 | .loop x => kC x
 | _ => none
def nP (cuts : List Nat) (r : Option Nat) : Bool := match r with | some n => cuts.contains n | none => false
def ahs (k : St → Prop) (s : St) : Prop := ∃ s', Weak s s' ∧ k s'
def wpS (D : Dw) (P : Program) [Tb P] : Code → (Exit → St → Prop) → St → Prop
 | .skip, Q, s => Q .normal s
 | .region _ ops draw, Q, s => if draw = true then D.d P ops (Q .normal) s else wpL P (ops.toList.map (·.dst)) (Q .normal) ops.toList s
 | .seq x y, Q, s => wpS D P x (uB (bif nP D.cuts (kC y) then ahs (fun s' => wpS D P y Q s') else fun s' => wpS D P y Q s') Q) s
 | .cond c x y, Q, s => FD (s.ev c) (wpS D P x Q s) (wpS D P y Q s)
 | .block id x, Q, s => wpS D P x (inB id Q) s
 | .loop x, Q, s => agZ (fun Q s => wpS D P x Q s) Q s
 | .exit id, Q, s => Q (.exit id) s
 | .label _, Q, s => Q .normal s
 | .goto l, Q, s => Q (.goto l) s
 | .ret, Q, s => Q .ret s
 | _, _, _ => False
def aht (C : Cx) (Q : Exit → St → Prop) : Exit → Act → World → Prop := fun e a w => ∃ s L, Q e s ∧ Sim C s L a w
def mZ (P : Program) [Tb P] (D : Dw) : Prop :=
 ∀ (id : Nat) (C : Cx) (ops : Array Oper) (K : St → Prop) (Q : Exit → St → Prop) (s : St) (L : Lay) (a : Act) (w : World), C.TOk P → Nk C.n ops.toList = true → Q .normal = K → D.d P ops K s → Sim C s L a w → (Code.region id ops true).wp P (aht C Q) a w
theorem pI {n : Nat} {ops : List Oper} (h : Nk n ops = true) : ∀ o ∈ ops, ∀ t, o.dst = some t → t < n := by
 intro o ho t ht
 have := List.all_eq_true.1 h o ho
 rw [ht] at this
 simpa using this
section
variable {P : Program} [Tb P] {D : Dw} {C : Cx}
theorem FH (hD : mZ P D) (hT : C.TOk P) (c : Code) : ∀ {Q : Exit → St → Prop} {s : St} {L : Lay} {a : Act} {w : World}, wpS D P c Q s → xK C.n c = true → Sim C s L a w → c.wp P (aht C Q) a w := by
 induction c with
 | skip => intro Q s L a w h _ S; exact wp_skip ⟨s, L, h, S⟩
 | region id ops draw =>
  intro Q s L a w h hf S
  simp only [wpS] at h
  cases draw with
  | true => exact hD id C ops (Q .normal) Q s L a w hT hf rfl h S
  | false =>
   simp only [Bool.false_eq_true, if_false] at h
   exact wp_region_list (TB hT (K := Q .normal) (fun s' L' a' w' h' S' => ⟨s', L', h', S'⟩) ops.toList (pI hf) h S)
 | seq x y ihx ihy =>
  intro Q s L a w h hf S
  simp only [xK, Bool.and_eq_true] at hf
  refine wp_seq (Code.wp_mono ?_ (ihx h hf.1 S))
  rintro e a' w' ⟨s', L', h', S'⟩
  cases e with
  | normal =>
   simp only [uB] at h'
   cases hc : nP D.cuts (kC y) with
   | true =>
    rw [hc] at h'
    obtain ⟨s2, hw, h2⟩ := h'
    obtain ⟨L2, S2⟩ := hw C L' a' w' S'
    exact ihy h2 hf.2 S2
   | false => rw [hc] at h'; exact ihy h' hf.2 S'
  | _ => exact ⟨s', L', h', S'⟩
 | cond c x y ihx ihy =>
  intro Q s L a w h hf S
  simp only [xK, Bool.and_eq_true] at hf
  simp only [wpS, FD] at h
  split at h
  ·rename_i b hb
   have hc := S.ev c
   rw [hb] at hc
   simp only [Rep] at hc
   refine wp_cond hc ?_
   cases b with
   | true => exact ihx (by simpa using h) hf.1 S
   | false => exact ihy (by simpa using h) hf.2 S
  ·cases h
 | block id x ih =>
  intro Q s L a w h hf S
  refine wp_block (Code.wp_mono ?_ (ih h hf S))
  rintro e a' w' ⟨s', L', h', S'⟩
  cases e with
  | exit id' =>
   simp only [inB] at h'
   simp only [Exit.inBlock]
   split at h'
   ·rename_i hi; rw [if_pos hi]; exact ⟨s', L', h', S'⟩
   ·rename_i hi; rw [if_neg hi]; exact ⟨s', L', h', S'⟩
  | _ => exact ⟨s', L', h', S'⟩
 | loop x ih =>
  intro Q s L a w h hf S
  obtain ⟨I, n, ⟨s0, hw0, h0⟩, hround⟩ := h
  obtain ⟨L0, S0⟩ := hw0 C L a w S
  have key : ∀ n s L a w, I n s → Sim C s L a w → ∀ (b : Frame) (k : List Item) (cs : List Frame),
    ∃ e a' w', aht C Q e a' w' ∧ Arrives P (lone (b.at a (.code x :: .inLoop x :: k)) cs w) b k cs e a' w' := by
   intro n
   induction n using Nat.strongRecOn with
   | _ n ihn =>
    intro s L a w hI S b k cs
    obtain ⟨e, a₁, w₁, ⟨s1, L1, hq, S1⟩, harr⟩ := ih (hround n s hI) hf S b (.inLoop x :: k) cs
    cases e with
    | normal =>
     obtain ⟨m, s3, hlt, hw, hI3⟩ := hq
     obtain ⟨L3, S3⟩ := hw C L1 a₁ w₁ S1
     obtain ⟨e₂, a₂, w₂, hq₂, harr₂⟩ := ihn m hlt s3 L3 a₁ w₁ hI3 S3 b k cs
     exact ⟨e₂, a₂, w₂, hq₂, .of_steps (Steps.trans harr (.one step_inLoop)) harr₂⟩
    | exit id => exact ⟨_, a₁, w₁, ⟨s1, L1, hq, S1⟩, .pass (x := .inLoop x) rfl (fun _ _ => .inl (by simp)) harr⟩
    | goto l => exact ⟨_, a₁, w₁, ⟨s1, L1, hq, S1⟩, .pass (x := .inLoop x) rfl (fun _ _ => .inl (by simp)) harr⟩
    | ret => exact ⟨_, a₁, w₁, ⟨s1, L1, hq, S1⟩, .pass (x := .inLoop x) rfl (fun _ _ => .inl (by simp)) harr⟩
    | panic ch => exact ⟨_, a₁, w₁, ⟨s1, L1, hq, S1⟩, .pass (x := .inLoop x) rfl (fun _ _ => .inl (by simp)) harr⟩
    | outgrown => exact ⟨_, a₁, w₁, ⟨s1, L1, hq, S1⟩, .pass (x := .inLoop x) rfl (fun _ _ => .inl (by simp)) harr⟩
  intro b k cs
  obtain ⟨e, a', w', hq, harr⟩ := key n s0 L0 a w h0 S0 b k cs
  exact ⟨e, a', w', hq, .of_steps (.one step_loop) harr⟩
 | exit id => intro Q s L a w h _ S; exact wp_exit ⟨s, L, h, S⟩
 | label l => intro Q s L a w h _ S; exact wp_label ⟨s, L, h, S⟩
 | goto l => intro Q s L a w h _ S; exact wp_goto ⟨s, L, h, S⟩
 | ret => intro Q s L a w h _ S; exact wp_ret ⟨s, L, h, S⟩
 | rangeFunc => intro Q s L a w h; exact h.elim
 | scope => intro Q s L a w h; exact h.elim
 | refuse => intro Q s L a w h; exact h.elim
def qC : List V → Nat → Nat → V
 | [], _ => fun _ => .top
 | x :: xs, k => upd (qC xs (k + 1)) k x
def Jr (args : List V) : St := { env := qC args 0, bx := fun _ => none, nid := 0 }
def qP (P : Program) (s : St) : ResultVar → Option V
 | .tmp t => some (s.env t)
 | .cell a t => match s.env a with | .ref b off => nN P s t b off | _ => none
def pJ (P : Program) (s : St) (rs : List ResultVar) : Option V :=
 match rs with
 | [r] => qP P s r
 | rs => (rs.mapM (qP P s)).map .tup
def Tag.notIn (l : List Nat) : Tag → Bool
 | .fz => false
 | .nn => false
 | .own id _ => !l.contains id
def sF (l : List Nat) : Tag → Tag
 | .fz => .fz
 | .nn => .nn
 | .own id e => .own (l.idxOf id) e
def ac6 (P : Program) (rs : List ResultVar) (r : V) : Exit → St → Prop := fun e s =>
 match e with
 | .normal | .ret => ∃ r0 l, pJ P s rs = some r0 ∧ List.Nodup l ∧ r0.any (Tag.notIn l) (fun _ => true) false = false ∧ r0.map (sF l) id = r
 | _ => False
theorem FI {L : Lay} {w : World} : ∀ (args : List V) (us : List Value) (k : Nat) (rest : List Value), Reps L w args us → ∀ (pre : List Value), pre.length = k → ∀ t, Rep L w (qC args k t) ((pre ++ us ++ rest).toArray.getD t undef) := by
 intro args
 induction args with
 | nil => intro us k rest _ pre _ t; trivial
 | cons x xs ih =>
  rintro us k rest ⟨u, r, rfl, h2, h3⟩ pre hk t
  simp only [qC, upd]
  split
  ·rename_i ht
   subst ht
   have : (pre ++ (u :: r) ++ rest).toArray.getD t undef = u := by
    simp [Array.getD_eq_getD_getElem?, ← hk]
   rw [this]; exact h2
  ·have := ih r (k + 1) rest h3 (pre ++ [u]) (by simp [hk]) t
   simpa using this
def Xa (a : Act) : ResultVar → Sem Value
 | .tmp t => pure (a.tmps.getD t undef)
 | .cell b t => do loadVar t (← asAddr (a.tmps.getD b undef))
theorem AO {fn : Func} {s : St} {L : Lay} {a : Act} {w : World} {rs : List ResultVar} {r : V} (hrs : fn.results = rs.toArray) (h : pJ P s rs = some r) (S : Sim C s L a w) :
  ∃ u, (results fn a.tmps).run P w = .ok u w ∧ Rep L w r u := by
 have one : ∀ x v, qP P s x = some v → ∃ u, (Xa a x).run P w = .ok u w ∧ Rep L w v u := by
  intro x v hx
  cases x with
  | tmp t =>
   simp only [qP, Option.some.injEq] at hx
   subst hx
   exact ⟨_, rfl, S.env t⟩
  | cell b t =>
   simp only [qP] at hx
   split at hx
   ·rename_i b' off hb
    have hr := S.env b
    rw [hb] at hr
    obtain ⟨u, h1, h2⟩ := CB hx S hr
    obtain ⟨g, h3, h4⟩ := hr
    refine ⟨u, ?_, h2⟩
    rw [h4] at h1
    simp only [Xa, h4]
    simpa [Instr.loadAt, Instr.sureAddr, asAddr] using h1
   ·cases hx
 have many : ∀ (l : List ResultVar) (vs : List V), l.mapM (qP P s) = some vs → ∃ us, (l.mapM (Xa a)).run P w = .ok us w ∧ Reps L w vs us := by
  intro l
  induction l with
  | nil => intro vs h; simp at h; subst h; exact ⟨[], rfl, rfl⟩
  | cons x xs ih =>
   intro vs h
   simp only [List.mapM_cons, Option.bind_eq_bind, Option.bind_eq_some_iff, Option.pure_def, Option.some.injEq] at h
   obtain ⟨v, hv, vs', hvs, rfl⟩ := h
   obtain ⟨u, h1, h2⟩ := one x v hv
   obtain ⟨us, h3, h4⟩ := ih vs' hvs
   refine ⟨u :: us, ?_, u, us, rfl, h2, h4⟩
   rw [List.mapM_cons, Sem.run_bind, h1]
   simp only [Result.andThen_ok, Sem.run_bind, h3, Sem.run_pure]
 have hres : ∀ (us : List Value), (rs.mapM (Xa a)).run P w = .ok us w →
   (results fn a.tmps).run P w = .ok (if h : us.toArray.size = 1 then us.toArray[0] else .tuple us.toArray) w := by
  intro us hus
  have e : results fn a.tmps = (do let vs ← rs.toArray.mapM (Xa a); pure (if h : vs.size = 1 then vs[0] else .tuple vs)) := by
   unfold results
   rw [hrs]
   rfl
  rw [e, Array.mapM_eq_mapM_toList, Sem.run_bind, Sem.run_map, hus]
  rfl
 unfold pJ at h
 split at h
 ·rename_i x
  obtain ⟨u, h1, h2⟩ := one x r h
  refine ⟨u, ?_, h2⟩
  rw [hres [u] (by rw [List.mapM_cons, Sem.run_bind, h1]; rfl)]
  rfl
 ·rename_i hne
  simp only [Option.map_eq_some_iff] at h
  obtain ⟨vs, hvs, rfl⟩ := h
  obtain ⟨us, h1, h2⟩ := many rs vs hvs
  have hl : us.toArray.size ≠ 1 := by
   have e1 := h2.length
   have e2 : vs.length = rs.length := by
    have : ∀ (l : List ResultVar) (vs : List V), l.mapM (qP P s) = some vs → vs.length = l.length := by
     intro l
     induction l with
     | nil => intro vs h; simp at h; simp [h]
     | cons x xs ih =>
      intro vs h
      simp only [List.mapM_cons, Option.bind_eq_bind, Option.bind_eq_some_iff, Option.pure_def, Option.some.injEq] at h
      obtain ⟨v, hv, vs', hvs, rfl⟩ := h
      simp [ih vs' hvs]
    exact this rs vs hvs
   simp only [List.size_toArray]
   intro h1
   rw [e1, e2] at h1
   match rs, h1, hne with
   | [x], _, hne => exact hne x rfl
  refine ⟨.tuple us.toArray, ?_, us.toArray, rfl, by simpa using h2⟩
  rw [hres us h1, dif_neg hl]
theorem zC (l : List Nat) (i : Nat) (h : i ∈ l) : l[l.idxOf i]? = some i := by
 induction l with
 | nil => cases h
 | cons x xs ih =>
  by_cases hx : x = i
  ·subst hx; simp
  ·have : i ∈ xs := by simpa [Ne.symm hx] using h
   rw [List.idxOf_cons]
   have hb : (x == i) = false := by simpa using hx
   rw [hb]
   simpa using ih this
theorem dE (hD : mZ P D) {f : FuncId} {fn : Func} {c : Code} {rs : List ResultVar} {args : List V} {r : V} (hf : P.funcs[f]? = some fn) (hb : fn.body = some c) (hrs : fn.results = rs.toArray) (hn : (fn.name == "runtime.NumGoroutine") = false)
  (hfit : xK fn.ntmps c = true) (hlen : args.length ≤ fn.ntmps) (h : wpS D P c (ac6 P rs r) (Jr args)) : Good P f args r := by
 refine ⟨by simp [zA, hf, hb, hn], fun A w cargs hT hA hargs => ?_⟩
 let C : Cx := { n := fn.ntmps, A0 := A, Wr := fun _ => False, w0 := w }
 have hl := hargs.length
 have S : Sim C (Jr args) ⟨A, fun _ => none, fun _ => none⟩ { tmps := cargs.toArray ++ Array.replicate (fn.ntmps - cargs.toArray.size) undef, defers := [] } w := by
  refine ⟨rfl, by simp [C]; omega, fun t => ?_, fun _ => trivial, fun b cs h => by simp [Jr] at h, ?_, Kp.refl _ _ _⟩
  ·have := FI args cargs 0 (List.replicate (fn.ntmps - cargs.length) undef) hargs [] rfl t
   have e : (cargs ++ List.replicate (fn.ntmps - cargs.length) undef).toArray = cargs.toArray ++ Array.replicate (fn.ntmps - cargs.toArray.size) undef := by
    apply Array.ext'; simp
   rw [List.nil_append, e] at this
   exact this
  ·exact {
    nidO := fun _ _ h => by cases h
    nidB := fun _ _ h => by cases h
    own := fun _ _ h => by cases h
    boxW := fun _ _ h => by cases h
    injO := fun _ _ _ h => by cases h
    injB := fun _ _ _ h => by cases h
    dis := fun _ _ _ h => by cases h
    old := hA
    frz := fun g h => .inl h }
 refine calls_of_wp hf hb (Code.wp_mono ?_ (FH (C := C) hD (fun w' hk => Tb.keep w w' hT hk) c h hfit S))
 rintro e a' w' ⟨s', L', hq, S'⟩
 have fin : (∃ r0 l, pJ P s' rs = some r0 ∧ List.Nodup l ∧ r0.any (Tag.notIn l) (fun _ => true) false = false ∧ r0.map (sF l) id = r) → a'.defers = [] ∧ ∃ v, (results fn a'.tmps).run P w' = .ok v w' ∧ ∃ u L, Ending.returned v = .returned u ∧ Rep L w' r u ∧ Kp (fun _ => False) w.heap.size w w' ∧ ResLay A w w' L := by
  rintro ⟨r0, l, h1, hnd, h2, rfl⟩
  obtain ⟨u, h3, h4⟩ := AO hrs h1 S'
  let L2 : Lay := { A := L'.A, own := fun j => (l[j]?).bind L'.own, box := fun _ => none }
  have K : Trans (Tag.notIn l) (fun _ => true) (sF l) id L' L2 w' w' := by
   refine ⟨rfl, fun g h => ⟨h, .of rfl⟩, fun i e hi g h => ⟨⟨rfl, ?_⟩, rfl⟩, fun b hb => by simp at hb⟩
   have hm : i ∈ l := by simpa [Tag.notIn] using hi
   simp only [L2, zC l i hm, Option.bind_some, h]
  refine ⟨S'.defers, u, h3, u, L2, rfl, h4.trans rfl K h2, S'.kp, ?_, ?_, ?_⟩
  ·intro g hg
   rcases S'.wf.frz g hg with h | h | h
   ·exact .inl h
   ·exact .inr ⟨h, S'.wf.old g hg⟩
   ·exact h.elim
  ·intro j g hg
   simp only [L2, Option.bind_eq_some_iff] at hg
   obtain ⟨i, hi, hg⟩ := hg
   obtain ⟨h5, h6, h7⟩ := S'.wf.own i g hg
   exact ⟨h6.elim id (fun h => h.elim), h5, h7⟩
  ·intro i j g hi hj
   simp only [L2, Option.bind_eq_some_iff] at hi hj
   obtain ⟨i', hi', hi⟩ := hi
   obtain ⟨j', hj', hj⟩ := hj
   have := S'.wf.injO i' j' g hi hj
   subst this
   have hil := (List.getElem?_eq_some_iff.1 hi').1
   exact (List.getElem?_inj hil hnd).1 (hi'.trans hj'.symm)
 cases e with
 | normal => exact fin hq
 | ret => exact fin hq
 | _ => exact hq.elim
end
end Go.Pg
end
namespace Go.Pg
open Go
def zD (m : List Nat) (b : Nat) : Bool := !m.contains b
def elE (k : Nat) : List V → List V → Prop
 | [], [] => True
 | x :: xs, y :: ys => (x = y ∨ (k = 1 ∧ x = .c (.slice none 0 0) ∧ ∃ k', y = .sl .fz k' [])) ∧ elE k xs ys
 | _, _ => False
theorem Js {k : Nat} {x y : V} (h : x = y ∨ (k = 1 ∧ x = .c (.slice none 0 0) ∧ ∃ k', y = .sl .fz k' [])) : ∀ xs : List V, elE k (xs ++ [x]) (xs ++ [y])
 | [] => ⟨h, trivial⟩
 | _ :: xs => ⟨.inl rfl, Js h xs⟩
theorem QF {k : Nat} : ∀ {xs ys : List V}, elE k xs ys → xs.length = ys.length
 | [], [], _ => rfl
 | _ :: _, _ :: _, h => by simp [QF h.2]
 | [], _ :: _, h => h.elim
 | _ :: _, [], h => h.elim
theorem Xb {L : Lay} {w : World} {k : Nat} : ∀ {xs ys : List V} {us : List Value}, elE k xs ys → RepE L w k xs us → RepE L w k ys us := by
 intro xs
 induction xs with
 | nil => intro ys us h hr; cases ys with
  | nil => exact hr
  | cons _ _ => exact h.elim
 | cons x xs ih =>
  intro ys us h hr
  cases ys with
  | nil => exact h.elim
  | cons y ys =>
   obtain ⟨u, r, h1, h2, h3, h4, h5⟩ := hr
   refine ⟨u, r, h1, h2, ?_, ?_, ih h.2 h5⟩
   ·rcases h.1 with rfl | ⟨_, rfl, k', rfl⟩
    ·exact h3
    ·exact ⟨rfl, h3.2⟩
   ·rcases h.1 with rfl | ⟨_, rfl, k', rfl⟩
    ·exact h4
    ·simp only [Rep] at h4
     subst h4
     exact ⟨none, 0, [], rfl, rfl, by simp, .inl rfl⟩
def Gen (l m : List Nat) (v0 v : V) : Prop :=
 v = .top ∨ (v0.any (Tag.notIn l) (zD m) false = false ∧ v = v0.map (sF l) (fun b => m.idxOf b)) ∨ (v0 = .c (.slice none 0 0) ∧ ∃ t k, t.notNN = true ∧ v = .sl t k []) ∨ ∃ t k xs ys, v0 = .sl t k xs ∧ t.notIn l = false ∧ v = .sl (sF l t) k ys ∧ elE k xs ys
def GenL (l m : List Nat) : List V → List V → Prop
 | [], [] => True
 | x :: xs, y :: ys => Gen l m x y ∧ GenL l m xs ys
 | _, _ => False
structure Keep (l m : List Nat) (s s' : St) : Prop where
 env : ∀ t, Gen l m (s.env t) (s'.env t)
 hd : ∀ t, Gen l m (s.hd t) (s'.hd t)
 bx : ∀ b cs, s'.bx b = some cs → ∃ b0 cs0, m[b]? = some b0 ∧ s.bx b0 = some (cs.1, cs0) ∧ GenL l m cs0 cs.2
 ndl : l.Nodup
 ndm : m.Nodup
 nidl : l.length ≤ s'.nid
 nidm : m.length ≤ s'.nid
theorem Keep.weakR {l m : List Nat} {s s' : St} (H : Keep l m s s') (C : Cx) (L : Lay) (a : Act) (w : World) (S : Sim C s L a w) : ∃ L', Sim C s' L' a w ∧ ∀ v u, v.any (Tag.notIn l) (zD m) false = false → Rep L w v u → Rep L' w (v.map (sF l) (fun b => m.idxOf b)) u := by
 let L' : Lay := { A := L.A, own := fun j => (l[j]?).bind L.own, box := fun j => (m[j]?).bind L.box }
 have K : Trans (Tag.notIn l) (zD m) (sF l) (fun b => m.idxOf b) L L' w w := by
  refine ⟨rfl, fun g h => ⟨h, .of rfl⟩, fun i e hi g h => ⟨⟨rfl, ?_⟩, rfl⟩, fun b hb g h => ?_⟩
  ·have hm : i ∈ l := by simpa [Tag.notIn] using hi
   simp only [L', zC l i hm, Option.bind_some, h]
  ·have hm : b ∈ m := by simpa [zD] using hb
   simp only [L', zC m b hm, Option.bind_some, h]
 have gen : ∀ v0 v u, Gen l m v0 v → Rep L w v0 u → Rep L' w v u := by
  rintro v0 v u (rfl | ⟨h1, rfl⟩ | ⟨rfl, t, k, hnn, rfl⟩ | ⟨t, k, xs, ys, rfl, h1, rfl, h2⟩) h
  ·trivial
  ·exact h.trans rfl K h1
  ·simp only [Rep] at h
   subst h
   cases t with
   | fz => exact ⟨none, 0, [], rfl, rfl, by simp, .inl rfl⟩
   | nn => cases hnn
   | own id e => exact ⟨none, 0, [], rfl, rfl, .inl ⟨rfl, rfl, rfl⟩⟩
  ·obtain ⟨a, cap, cells, rfl, h3, h4⟩ := h.trans rfl K (show V.any _ _ _ (.sl t k xs) = false from h1)
   have hl := QF h2
   exact ⟨a, cap, cells, by rw [hl], Xb h2 h3, by rw [← hl]; exact h4⟩
 have genL : ∀ l0 l1 us, GenL l m l0 l1 → Reps L w l0 us → Reps L' w l1 us := by
  intro l0
  induction l0 with
  | nil => intro l1 us h hr; cases l1 with | nil => exact hr | cons => exact h.elim
  | cons x xs ih =>
   intro l1 us h hr
   cases l1 with
   | nil => exact h.elim
   | cons y ys => obtain ⟨u, r, rfl, h2, h3⟩ := hr; exact ⟨u, r, rfl, gen _ _ _ h.1 h2, ih ys r h.2 h3⟩
 have W := S.wf
 refine ⟨L', ⟨S.defers, S.size, fun t => gen _ _ _ (H.env t) (S.env t), fun t => gen _ _ _ (H.hd t) (S.hid t), ?_, ?_, S.kp⟩, fun v u hv h => h.trans rfl K hv⟩
 ·intro b cs h
  obtain ⟨b0, cs0, h1, h2, h3⟩ := H.bx b cs h
  obtain ⟨g, arr, h4, h5, h6⟩ := S.box b0 _ h2
  exact ⟨g, arr, by simp only [L', h1, Option.bind_some, h4], h5, genL _ _ _ h3 h6⟩
 ·have lt : ∀ (x : List Nat) (f : Nat → Option Nat) j g, (x[j]?).bind f = some g → j < x.length ∧ ∃ i, x[j]? = some i ∧ f i = some g := by
   intro x f j g h
   simp only [Option.bind_eq_some_iff] at h
   obtain ⟨i, h1, h2⟩ := h
   exact ⟨(List.getElem?_eq_some_iff.1 h1).1, i, h1, h2⟩
  exact {
   nidO := fun j g h => by have := (lt l L.own j g h).1; have := H.nidl; omega
   nidB := fun j g h => by have := (lt m L.box j g h).1; have := H.nidm; omega
   own := fun j g h => by obtain ⟨_, i, _, h2⟩ := lt l L.own j g h; exact W.own i g h2
   boxW := fun j g h => by obtain ⟨_, i, _, h2⟩ := lt m L.box j g h; exact W.boxW i g h2
   injO := fun i j g hi hj => by
    obtain ⟨h0, i', h1, h2⟩ := lt l L.own i g hi
    obtain ⟨_, j', h3, h4⟩ := lt l L.own j g hj
    have := W.injO i' j' g h2 h4
    subst this
    exact (List.getElem?_inj h0 H.ndl).1 (h1.trans h3.symm)
   injB := fun i j g hi hj => by
    obtain ⟨h0, i', h1, h2⟩ := lt m L.box i g hi
    obtain ⟨_, j', h3, h4⟩ := lt m L.box j g hj
    have := W.injB i' j' g h2 h4
    subst this
    exact (List.getElem?_inj h0 H.ndm).1 (h1.trans h3.symm)
   dis := fun i j g hi hj => by
    obtain ⟨_, i', _, h2⟩ := lt l L.own i g hi
    obtain ⟨_, j', _, h4⟩ := lt m L.box j g hj
    exact W.dis i' j' g h2 h4
   old := W.old
   frz := W.frz }
theorem Keep.weak {l m : List Nat} {s s' : St} (H : Keep l m s s') : Weak s s' := fun C L a w S => by
 obtain ⟨L', h, _⟩ := H.weakR C L a w S
 exact ⟨L', h⟩
end Go.Pg
