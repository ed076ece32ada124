/-
  Texts of this claim, merged: PgMore, PgStore, PgCode, PgStep, PgWp, PgEval. Each bears its own remark.
-/
import Derived.Test.YtjiolbcdfgclaaaGreatDoorA1
import Derived.Laws.MakeOwn
set_option linter.unusedVariables false
set_option linter.unusedSimpArgs false
set_option linter.unusedSectionVars false
section
/-
  The pure layer: slices made, cut and written.
-/
namespace Go.Pg
open Go

/-- An element type's zero. -/
def zelem (P : Program) (e : TypeId) : Option V := (tzero P e).bind fun z => if z.cells.toList.all Value.oneCell' = true then some (ofConst z) else none

theorem anyL_map_c (p : Tag → Bool) (q : Nat → Bool) (tp : Bool) (l : List Value) : V.anyL p q tp (l.map .c) = false := by
  induction l with
  | nil => rfl
  | cons x xs ih => simp [V.anyL, V.any, ih]

theorem free_ofConst (v : Value) : (ofConst v).free = true := by
  cases v <;> simp [ofConst, V.free, V.any, anyL_map_c]

/-- Cells of n elements z. -/
theorem cells_rep (z : Array Value) (n : Nat) : ((Array.range (n * z.size)).map (z[· % z.size]!)).toList = (List.replicate n z.toList).flatten := by
  induction n with
  | zero => simp [Array.range_zero']
  | succ n ih =>
    have e : (Array.range ((n + 1) * z.size)).toList = List.range (n * z.size) ++ (List.range z.size).map (n * z.size + ·) := by
      simp only [Array.toList_range]
      rw [Nat.add_mul, Nat.one_mul, List.range_add]
    simp only [Array.toList_map, Array.toList_range] at ih ⊢
    simp only [Array.toList_range] at e
    rw [e, List.map_append, ih, List.replicate_succ', List.flatten_append]
    congr 1
    simp only [List.map_map, List.flatten_cons, List.flatten_nil, List.append_nil]
    apply List.ext_getElem?
    intro j
    by_cases hj : j < z.size
    · simp [hj, Nat.mod_eq_of_lt hj]
    · simp [hj]

section
variable {P : Program} {C : Cx} {s : St} {L L' : Lay} {a : Act} {w w' : World}

theorem repE_replicate {v : V} {z : Value} (n : Nat) (hr : Rep L w v z) (hf : v.free = true) (h1 : z.cells.toList.all Value.oneCell' = true) :
    RepE L w z.cells.size (List.replicate n v) (List.replicate n z.cells.toList).flatten := by
  induction n with
  | zero => rfl
  | succ n ih =>
    rw [List.replicate_succ, List.replicate_succ, List.flatten_cons]
    exact ⟨z, _, rfl, rfl, ⟨hf, h1⟩, hr, ih⟩

/-- A new array of the call's own. -/
theorem newOwn_ok {e : TypeId} {k cap : Nat} {xs : List V} {arr : Array Value} (S : Sim C s L a w) (hcap : arr.size = cap * k) (hlen : xs.length ≤ cap) (hm : cap ≤ maxLen) (hr : RepE L w k xs (arr.toList.take (xs.length * k))) :
    ∃ L', Sim C { s with nid := s.nid + 1 } L' a (w.alloc (.cells arr e)) ∧ Rep L' (w.alloc (.cells arr e)) (.sl (.own s.nid e) k xs) (.slice (some ⟨w.heap.size, 0, none⟩) xs.length cap) := by
  have G := Grow.alloc w (.cells arr e)
  have E := S.wf.leOwn (s := s) w.heap.size
  refine ⟨L.addOwn s.nid w.heap.size, S.grow G E rfl (fun b cs h => .inl h) (S.wf.addOwn S.hB (by simp)), _, _, _, rfl, hr.trans (p := fun _ => false) (q := fun _ => false) rfl (S.wf.whole G E), ?_⟩
  exact .inr ⟨w.heap.size, arr, by simp [Lay.addOwn, upd], rfl, heap_alloc_new w _, hlen, hm, hcap, rfl⟩

/-! ### make -/
def makeV (P : Program) (s : St) (t : TypeId) (l c : V) : Option (V × St) :=
  match l, c with
  | .c (.int _ n), .c (.int _ m) => (elemT P t).bind fun e => (tapp P e).bind fun (k, bytes) => (zelem P e).bind fun z =>
      if 0 ≤ n ∧ n ≤ m ∧ (bytes : Int) * m ≤ 281474976710656 ∧ m ≤ 9223372036854775807 then some (.sl (.own s.nid e) k (List.replicate n.toNat z), { s with nid := s.nid + 1 }) else none
  | _, _ => none

theorem zelem_zero {e : TypeId} {v : V} (h : zelem P e = some v) : ∃ z, tzero P e = some z ∧ v = ofConst z ∧ z.cells.toList.all Value.oneCell' = true := by
  simp only [zelem, Option.bind_eq_some_iff, Option.ite_none_right_eq_some, Option.some.injEq] at h
  obtain ⟨z, hz, h1, rfl⟩ := h
  exact ⟨z, hz, rfl, h1⟩

theorem makeV_ok {t : TypeId} {l c r : V} {ul uc : Value} {s' : St} (h : makeV P s t l c = some (r, s')) (S : Sim C s L a w) (hl : Rep L w l ul) (hc : Rep L w c uc) :
    ∃ u w' L', (Instr.makeSlice t ul uc).run P w = .ok u w' ∧ Sim C s' L' a w' ∧ Rep L' w' r u := by
  unfold makeV at h
  split at h
  · rename_i kl n kc m
    simp only [Option.bind_eq_some_iff, Prod.exists, Option.ite_none_right_eq_some, Option.some.injEq, Prod.mk.injEq] at h
    obtain ⟨e, he, k, bytes, hk, v, hv, ⟨h0, h1, h2, h3⟩, rfl, rfl⟩ := h
    obtain ⟨i, z, hi, hz, hzs, hik, rfl, hpos⟩ := tapp_info hk
    obtain ⟨z', hz', rfl, hone⟩ := zelem_zero hv
    have : z' = z := by simp [tzero, hi, hz] at hz'; exact hz'.symm
    subst this
    simp only [Rep] at hl hc; subst hl; subst hc
    have hrun := run_make (P := P) w t e i z' (elemT_und he) hi hz kl kc n m h0 h1 h2 h3
    have hcells : (madeCells z'.cells (m.toNat * i.size)).toList = (List.replicate m.toNat z'.cells.toList).flatten := by
      rw [hik, ← hzs]; exact cells_rep z'.cells m.toNat
    have htake : ((List.replicate m.toNat z'.cells.toList).flatten).take (n.toNat * k) = (List.replicate n.toNat z'.cells.toList).flatten := by
      have e1 : m.toNat = n.toNat + (m.toNat - n.toNat) := by omega
      rw [e1, ← List.replicate_append_replicate, List.flatten_append]
      have hl : ((List.replicate n.toNat z'.cells.toList).flatten).length = n.toNat * k := by simp [hzs]
      rw [← hl]; exact List.take_left
    obtain ⟨L', h4, h5⟩ := newOwn_ok (e := e) (k := k) (cap := m.toNat) (xs := List.replicate n.toNat (ofConst z')) (arr := madeCells z'.cells (m.toNat * i.size)) S
      (by rw [size_madeCells, hik]) (by simp; omega) (by simp only [maxLen]; omega)
      (by rw [hcells, List.length_replicate, htake, ← hzs]; exact repE_replicate _ (rep_ofConst L w z') (free_ofConst z') hone)
    rw [List.length_replicate] at h5
    exact ⟨_, _, L', hrun, h4, h5⟩
  · cases h

/-! ### a slice's literal -/
/-- An empty one is not nil. -/
def bsTag (len id : Nat) (e : TypeId) : Tag := match len with | 0 => .nn | _ + 1 => .own id e
def setAll (k : Nat) (xs : List V) : List (Nat × V) → Option (List V)
  | [] => some xs
  | (i, v) :: rest =>
    match v.cs with
    | some l => if l.length = k ∧ v.free = true ∧ l.all V.one = true ∧ i < xs.length then setAll k (xs.set i v) rest else none
    | none => none

def buildSliceV (P : Program) (s : St) (t : TypeId) (len : Nat) (parts : List (Nat × V)) : Option (V × St) :=
  (elemT P t).bind fun e => (tapp P e).bind fun (k, _) => (zelem P e).bind fun z => (setAll k (List.replicate len z) parts).bind fun xs =>
    if len * k ≤ 16777216 then some (.sl (bsTag len s.nid e) k xs, { s with nid := s.nid + 1 }) else none

theorem setAll_run {k : Nat} (sv : Operand → V) (se : Operand → Value) (hs : ∀ x, Rep L w (sv x) (se x)) : ∀ (parts : List (Nat × Operand)) (xs r : List V) (ucells : Array Value),
    setAll k xs (parts.map fun p => (p.1, sv p.2)) = some r → RepE L w k xs ucells.toList →
    ∃ ur, Instr.fill (fun i => some (i * k, k)) ucells (parts.map fun p => (p.1, se p.2)) = some ur ∧ RepE L w k r ur.toList ∧ r.length = xs.length := by
  intro parts
  induction parts with
  | nil =>
    intro xs r ucells h hr
    simp only [List.map_nil, setAll, Option.some.injEq] at h
    subst h
    exact ⟨ucells, rfl, hr, rfl⟩
  | cons p rest ih =>
    intro xs r ucells h hr
    obtain ⟨i, x⟩ := p
    have hv := hs x
    simp only [List.map_cons, setAll] at h ⊢
    generalize sv x = v at hv h
    generalize se x = u at hv ⊢
    split at h
    · rename_i l hcs
      simp only [Option.ite_none_right_eq_some] at h
      obtain ⟨⟨h1, h2, h3, h4⟩, h⟩ := h
      have hrl := rep_cs hv hcs
      have hll := hrl.length
      have hcl := hr.length
      simp only [Array.length_toList] at hll hcl
      have hfit : i * k + k ≤ xs.length * k := by
        have := Nat.mul_le_mul_right k (show i + 1 ≤ xs.length from h4)
        rwa [Nat.add_mul, Nat.one_mul] at this
      have hfold := fold_cells u.cells.toList 0 (i * k) ucells (by simp; omega)
      simp only [Nat.add_zero, Array.length_toList, hll, h1] at hfold
      have hr' : RepE L w k (xs.set i v) (u.cells.zipIdx.foldl (fun cs (x : Value × Nat) => cs.setIfInBounds (i * k + x.2) x.1) ucells).toList := by
        rw [← Array.foldl_toList, Array.toList_zipIdx, hfold]
        exact hr.set h4 (by omega) ⟨h2, List.all_eq_true.2 (reps_one hrl h3)⟩ hv
      obtain ⟨ur, h5, h6, h7⟩ := ih _ r _ h hr'
      refine ⟨ur, ?_, h6, by simpa using h7⟩
      simp only [Instr.fill]
      rw [if_neg (by simp [hll, h1]; omega)]
      exact h5
    · cases h

theorem buildSlice_run {t : TypeId} {len : Nat} {parts : Array (Nat × Operand)} {e : TypeId} {k bytes : Nat} {v : V} {xs : List V} (hev : ∀ x, Rep L w (s.ev x) (a.eval x)) (he : elemT P t = some e) (hk : tapp P e = some (k, bytes)) (hv : zelem P e = some v)
    (hxs : setAll k (List.replicate len v) (parts.toList.map fun p => (p.1, s.ev p.2)) = some xs) (h24 : len * k ≤ 16777216) :
    ∃ ur, (Instr.buildSlice t len (parts.map fun (i, x) => (i, a.eval x))).run P w = .ok (.slice (some ⟨w.heap.size, 0, none⟩) len len) (w.alloc (.cells ur e)) ∧ ur.size = len * k ∧ xs.length = len ∧ RepE L w k xs ur.toList ∧ len ≤ maxLen := by
  obtain ⟨i, z, hi, hz, hzs, hik, _, hpos⟩ := tapp_info hk
  obtain ⟨z', hz', rfl, hone⟩ := zelem_zero hv
  have : z' = z := by simp [tzero, hi, hz] at hz'; exact hz'.symm
  subst this
  have hsz : tsz P e = some k := by simp [tsz, hi, hik]
  have hinit : RepE L w k (List.replicate len (ofConst z')) ((Array.range (len * k)).map (z'.cells[· % z'.cells.size]!)).toList := by
    rw [← hzs, cells_rep]
    exact repE_replicate _ (rep_ofConst L w z') (free_ofConst z') hone
  obtain ⟨ur, h1, h2, h3⟩ := setAll_run s.ev a.eval hev parts.toList _ xs _ hxs hinit
  rw [List.length_replicate] at h3
  have hul : ur.size = len * k := by have := h2.length; simpa [h3] using this
  refine ⟨ur, ?_, hul, h3, h2, ?_⟩
  · have h24' : ¬ len * k > 2 ^ 24 := by omega
    by_cases h0 : len * k = 0
    · have hl0 : len = 0 := by
        rcases Nat.mul_eq_zero.1 h0 with h | h
        · exact h
        · omega
      subst hl0
      have h1' : Instr.fill (fun i => some (i * k, k)) ((Array.range 0).map fun x => (#[] : Array Value)[x % (#[] : Array Value).size]!) (parts.toList.map fun p => (p.1, a.eval p.2)) = some ur := by
        rw [← h1]; congr 1; simp [Array.range_zero']
      simp only [Instr.buildSlice, Sem.run_bind, run_underlying (elemT_und he), Result.andThen_ok, run_tsz hsz]
      rw [if_neg h24', if_pos h0]
      simp only [Sem.run_bind, Sem.run_pure, Result.andThen_ok, Array.toList_map, h0]
      simp only [h1']
      simp [newRow]
    · simp only [Instr.buildSlice, Sem.run_bind, run_underlying (elemT_und he), Result.andThen_ok, run_tsz hsz]
      rw [if_neg h24', if_neg h0]
      simp only [Sem.run_bind, run_tzero hz', Sem.run_pure, Result.andThen_ok, Array.toList_map]
      simp only [h1]
      simp [newRow]
  · have : len ≤ len * k := Nat.le_mul_of_pos_right len hpos
    simp only [maxLen]; omega
theorem buildSliceV_ok {t : TypeId} {len : Nat} {parts : Array (Nat × Operand)} {r : V} {s' : St} (S : Sim C s L a w) (h : buildSliceV P s t len (parts.toList.map fun p => (p.1, s.ev p.2)) = some (r, s')) :
    ∃ u w' L', (Instr.buildSlice t len (parts.map fun (i, x) => (i, a.eval x))).run P w = .ok u w' ∧ Sim C s' L' a w' ∧ Rep L' w' r u := by
  simp only [buildSliceV, Option.bind_eq_some_iff, Prod.exists, Option.ite_none_right_eq_some, Option.some.injEq, Prod.mk.injEq] at h
  obtain ⟨e, he, k, bytes, hk, v, hv, xs, hxs, h24, rfl, rfl⟩ := h
  obtain ⟨ur, h1, hul, h3, h2, hm⟩ := buildSlice_run S.ev he hk hv hxs h24
  obtain ⟨L', h4, h5⟩ := newOwn_ok (e := e) (k := k) (cap := len) (xs := xs) (arr := ur) S hul (by omega) hm (by rw [h3, ← hul, ← Array.length_toList, List.take_length]; exact h2)
  rw [h3] at h5
  refine ⟨_, _, L', h1, h4, ?_⟩
  cases len with
  | zero =>
    have hx : xs = [] := List.eq_nil_of_length_eq_zero h3
    subst hx
    exact ⟨_, 0, [], rfl, rfl, rfl, rfl⟩
  | succ n => exact h5

/-! ### cutting an own array: it is written no more -/
def sliceOwn (P : Program) (s : St) (t : TypeId) (id k : Nat) (xs : List V) (lo hi : Option V) : Option (V × St) :=
  (slV P t (.sl .fz k xs) lo hi).map fun r => (r, s.mapV (frz id))

theorem sliceOwn_ok {t e : TypeId} {id k : Nat} {xs : List V} {r : V} {ux : Value} {s' : St} {lo hi : Option Operand} (h : sliceOwn P s t id k xs (lo.map s.ev) (hi.map s.ev) = some (r, s')) (S : Sim C s L a w) (hx : Rep L w (.sl (.own id e) k xs) ux)
    (hlo : ∀ x, lo = some x → ∃ u, s.ev x = .c u) (hhi : ∀ x, hi = some x → ∃ u, s.ev x = .c u) :
    ∃ u L', (Instr.sliceAt t ux (lo.map a.eval) (hi.map a.eval) none).run P w = .ok u w ∧ Sim C s' L' a w ∧ Rep L' w r u := by
  simp only [sliceOwn, Option.map_eq_some_iff, Prod.mk.injEq] at h
  obtain ⟨r', hr, rfl, rfl⟩ := h
  obtain ⟨S', hψ⟩ := S.freeze id
  have hx' := hψ _ _ hx
  have e1 : frz id (.sl (.own id e) k xs) = .sl .fz k xs := by simp [frz, V.map, Tag.is]
  rw [e1] at hx'
  have bd : ∀ (o : Option Operand), (∀ x, o = some x → ∃ u, s.ev x = .c u) → o.map s.ev = none ∧ o.map a.eval = none ∨ ∃ v u, o.map s.ev = some v ∧ o.map a.eval = some u ∧ Rep (L.freeze id) w v u := by
    intro o ho
    cases o with
    | none => exact .inl ⟨rfl, rfl⟩
    | some x =>
      obtain ⟨u, hu⟩ := ho x rfl
      have := S.ev x
      rw [hu] at this
      exact .inr ⟨_, _, rfl, rfl, by rw [hu]; exact this⟩
  obtain ⟨u, h1, h2⟩ := slV_run hr hx' (bd lo hlo) (bd hi hhi)
  exact ⟨u, L.freeze id, h1, S', h2⟩

/-! ### strings into bytes -/
def strBytes (P : Program) (src dst : TypeId) (x : V) : Option V :=
  match x with
  | .c (.string z) => if isStr P src = true ∧ (elemT P dst).bind (intT P) = some .u8 then some (.sl .fz 1 (byteVs z)) else none
  | _ => none

theorem freeze_row (w : World) (g n : Nat) (arr : Array Value) (e : TypeId) (fr : Nat × Nat) (hg : w.heap[g]? = some (.cells arr e fr)) : ∃ fr', (w.freeze ⟨g, n, none⟩ 1).heap[g]? = some (.cells arr e fr') := by
  simp only [World.freeze]
  rw [if_neg (by decide)]
  simp only [Array.getElem?_modify, if_true, hg, Option.map_some]
  exact ⟨_, rfl⟩
theorem freeze_other (w : World) (g n k : Nat) (h : k ≠ g) : (w.freeze ⟨g, n, none⟩ 1).heap[k]? = w.heap[k]? := by
  simp only [World.freeze]
  rw [if_neg (by decide)]
  simp only [Array.getElem?_modify]
  rw [if_neg (by omega)]
theorem freeze_size (w : World) (g n : Nat) : (w.freeze ⟨g, n, none⟩ 1).heap.size = w.heap.size := by
  simp only [World.freeze]
  rw [if_neg (by decide)]
  simp

theorem strBytes_ok {src dst : TypeId} {x r : V} {ux : Value} (h : strBytes P src dst x = some r) (S : Sim C s L a w) (hx : Rep L w x ux) :
    ∃ u w' L', (convert src dst ux).run P w = .ok u w' ∧ Sim C s L' a w' ∧ Rep L' w' r u := by
  unfold strBytes at h
  split at h
  · rename_i z
    simp only [Option.ite_none_right_eq_some, Option.bind_eq_some_iff, Option.some.injEq] at h
    obtain ⟨⟨h0, e, he, h1⟩, rfl⟩ := h
    simp only [Rep] at hx; subst hx
    have hcap := grownCap_ge w z.size 0 e
    let arr : Array Value := z.data.map (fun b => Value.int .u8 b.toNat) ++ Array.replicate (grownCap w z.size 0 e - z.size) (.int .u8 0)
    have harr : arr.toList.take z.size = byteCells z := by
      have : (z.data.map (fun b => Value.int .u8 b.toNat)).toList = byteCells z := by simp [byteCells]
      simp only [arr, Array.toList_append, this]
      rw [← byteCells_length z]
      exact List.take_left
    have hasz : arr.size = grownCap w z.size 0 e := by simp [arr]; omega
    let w1 : World := w.drew.alloc (.cells arr e)
    have hh : w1.heap[w.heap.size]? = some (.cells arr e (0, 0)) := heap_alloc_new w.drew _
    have G1 : Grow w w1 := Grow.drewAlloc w _
    let w2 : World := w1.freeze ⟨w.heap.size, arr.size, none⟩ 1
    have G : Grow w w2 := ⟨rfl, rfl, rfl, by rw [freeze_size]; exact G1.size, fun k hk => (freeze_other w1 _ _ k (by omega)).trans (G1.block k hk)⟩
    have E := Lay.leA L w.heap.size
    have hsz : w.heap.size < w2.heap.size := by rw [freeze_size]; simp [w1]
    obtain ⟨fr, hfr⟩ := freeze_row w1 w.heap.size arr.size arr e (0, 0) hh
    refine ⟨.slice (some ⟨w.heap.size, 0, none⟩) z.size (grownCap w z.size 0 e), w2, L.addA w.heap.size, ?_, S.grow G E rfl (fun b cs h => .inl h) (S.wf.addA S.hB hsz), some ⟨w.heap.size, 0, none⟩, grownCap w z.size 0 e, byteCells z, by simp [byteVs], byteVs_rep z, ?_⟩
    · have hsh : w1.shape? w.heap.size = some (e, arr.size) := by simp [World.shape?, hh]
      simp only [convert, Sem.run_bind, run_underlying (isStr_und h0), run_underlying (elemT_und he), run_underlying (intT_und h1), Result.andThen_ok, Conv.stringToBytes, run_choose_drew]
      have hnf : (Question.appendCap z.size 0 e).forced = false := rfl
      rw [hnf]
      simp only [Bool.false_eq_true, if_false, Result.andThen_ok, newRow, Sem.run_bind, run_newObj_alloc, Sem.run_pure, markStringish, run_shape]
      have e2 : ((w.drew.alloc (.cells (z.data.map (fun b => Value.int .u8 b.toNat) ++ Array.replicate ((Question.appendCap z.size 0 e).cut (w.tape w.drawn (.appendCap z.size 0 e)) - z.size) (.int .u8 0)) e)).shape? w.drew.heap.size) = some (e, arr.size) := hsh
      rw [e2]
      rfl
    · refine ⟨by simpa [byteVs] using hcap, .inr ⟨w.heap.size, 0, rfl, .inr rfl, arr, e, fr, hfr, ?_⟩⟩
      simp only [List.drop_zero, byteCells_length]
      exact harr
  · cases h

/-- '[]byte(b)' of an own array. -/
def sameSl (P : Program) (s : St) (src dst : TypeId) (x : V) : Option (V × St) :=
  match x with
  | .sl (.own id _) k xs => if src = dst ∧ (elemT P dst).bind (intT P) = some .u8 ∧ 0 < xs.length then some (.sl .fz k xs, s.mapV (frz id)) else none
  | _ => none

theorem sameSl_ok {src dst : TypeId} {x r : V} {ux : Value} {s' : St} (h : sameSl P s src dst x = some (r, s')) (S : Sim C s L a w) (hx : Rep L w x ux) :
    ∃ u w' L', (convert src dst ux).run P w = .ok u w' ∧ Sim C s' L' a w' ∧ Rep L' w' r u := by
  unfold sameSl at h
  split at h
  · rename_i id e' k xs
    simp only [Option.ite_none_right_eq_some, Option.bind_eq_some_iff, Option.some.injEq, Prod.mk.injEq] at h
    obtain ⟨⟨rfl, ⟨e, he, h1⟩, hpos⟩, rfl, rfl⟩ := h
    obtain ⟨S', hψ⟩ := S.freeze id
    have hx' := hψ _ _ hx
    have e1 : frz id (.sl (.own id e') k xs) = .sl .fz k xs := by simp [frz, V.map, Tag.is]
    rw [e1] at hx'
    obtain ⟨ad, cap, cells, rfl, h2, h3⟩ := hx
    rcases h3 with ⟨h4, _⟩ | ⟨g, arr, h4, rfl, h5, _⟩
    · omega
    · have hW := S.wf.own id g h4
      have hA : (L.freeze id).A g := .inr h4
      have hO : ∀ i, (L.freeze id).own i ≠ some g := fun i h => (S'.wf.own i g h).2.2 hA
      obtain ⟨fr, hfr⟩ := freeze_row w g arr.size arr e' (0, 0) h5
      have K : Whole (L.freeze id) (L.freeze id) w (w.freeze ⟨g, arr.size, none⟩ 1) := by
        refine ⟨rfl, fun g' h => ⟨h, ?_⟩, fun j e _ g' h => ⟨⟨rfl, h⟩, freeze_other w _ _ g' (fun e => by subst e; exact hO j h)⟩, fun _ _ _ h => h⟩
        by_cases hg : g' = g
        · subst hg
          intro arr' e'' fr' h'
          rw [h5] at h'
          simp only [Option.some.injEq, Obj.cells.injEq] at h'
          obtain ⟨rfl, rfl, _⟩ := h'
          exact ⟨fr, hfr⟩
        · exact .of (freeze_other w _ _ g' hg)
      have hsz : (w.freeze ⟨g, arr.size, none⟩ 1).heap.size = w.heap.size := freeze_size w _ _
      refine ⟨.slice (some ⟨g, 0, none⟩) xs.length cap, w.freeze ⟨g, arr.size, none⟩ 1, L.freeze id, ?_, ⟨S'.defers, S'.size, fun t => (S'.env t).whole K, fun t => (S'.hid t).whole K, ?_, S'.wf.mono (Nat.le_refl _) (by rw [hsz]; exact Nat.le_refl _), S'.kp.trans ⟨rfl, rfl, rfl, by rw [hsz]; exact Nat.le_refl _, ?_⟩⟩, hx'.whole K⟩
      · have hsh : w.shape? g = some (e', arr.size) := by simp [World.shape?, h5]
        simp [convert, run_underlying (elemT_und he), run_underlying (intT_und h1), markStringish, hsh]
      · intro b cs hb
        obtain ⟨g', arr', h7, h8, h9⟩ := S'.box b cs hb
        exact ⟨g', arr', h7, (freeze_other w _ _ g' (fun e => by subst e; exact (S'.wf.boxW b _ h7).2.2 hA)).trans h8, h9.whole K⟩
      · intro k' hk' hW'
        exact freeze_other w _ _ k' (fun e => by subst e; exact hW.2.1.elim (fun h => by omega) hW')
  · cases h
end
end Go.Pg
end

section
/-
  The pure layer: a store into an element of an own array.
-/
namespace Go.Pg
open Go

/-- The element made anew of its cells. -/
def rebuild (x0 : V) (cs : List V) : Option V :=
  match x0, cs with
  | .agg _, cs => some (.agg cs)
  | x, [y] => if x.one = true then some y else none
  | _, _ => none

def storeE (P : Program) (s : St) (t : TypeId) (id k : Nat) (xs : List V) (i off : Nat) (x : V) : Option St :=
  (xs[i]?).bind fun x0 => x0.cs.bind fun c0 => x.cs.bind fun l => (rebuild x0 (c0.take off ++ l ++ c0.drop (off + l.length))).bind fun x1 =>
    if tsz P t = some l.length ∧ off + l.length ≤ c0.length ∧ l.all V.one = true ∧ x1.free = true then some (s.mapV (setOwn id k i x1)) else none

section
variable {P : Program} {C : Cx} {s : St} {L L' : Lay} {a : Act} {w w' : World}

theorem rebuild_rep {x0 x1 : V} {cs : List V} {u0 : Value} {us : List Value} (h : rebuild x0 cs = some x1) (h0 : Rep L w x0 u0) (hr : Reps L w cs us) (hone : ∀ u ∈ us, u.oneCell' = true) :
    ∃ u1 : Value, u1.cells.toList = us ∧ Rep L w x1 u1 := by
  unfold rebuild at h
  split at h
  · simp only [Option.some.injEq] at h
    subst h
    exact ⟨.agg us.toArray, by simp [Value.cells], us.toArray, rfl, by simpa using hr⟩
  · rename_i y hx
    simp only [Option.ite_none_right_eq_some, Option.some.injEq] at h
    obtain ⟨_, rfl⟩ := h
    obtain ⟨u, r, rfl, h2, h3⟩ := hr
    simp only [Reps] at h3
    subst h3
    have hu := hone u (by simp)
    refine ⟨u, ?_, h2⟩
    cases u <;> first | rfl | (simp [Value.oneCell'] at hu)
  · cases h

theorem setOwn_rep {id k i g : Nat} {x1 : V} {u1 : Value} {arr arr' : Array Value} {e : TypeId} (hg : L.own id = some g) (ha : w.heap[g]? = some (.cells arr e (0, 0)))
    (hinj : ∀ j, L.own j = some g → j = id) (hnA : ¬ L.A g) (harr : arr'.size = arr.size) (hk : u1.cells.size = k)
    (harr' : ∀ len, i < len → len * k ≤ arr.size → arr'.toList.take (len * k) = (arr.toList.take (len * k)).take (i * k) ++ u1.cells.toList ++ (arr.toList.take (len * k)).drop (i * k + k))
    (harr0 : ∀ len, len ≤ i → arr'.toList.take (len * k) = arr.toList.take (len * k))
    (hx1 : Rep L (w.setRow g arr') x1 u1) (hf : x1.free = true ∧ u1.cells.toList.all Value.oneCell' = true) {v : V} {u : Value} (h : Rep L w v u) : Rep L (w.setRow g arr') (setOwn id k i x1 v) u := by
  have K : Trans (Tag.is id) (fun _ => false) _root_.id _root_.id L L w (w.setRow g arr') :=
    ⟨rfl, fun g' h => ⟨h, .of (setRow_other w g g' arr' (fun e => by subst e; exact hnA h))⟩,
      fun j e hj g' h => ⟨⟨rfl, h⟩, setRow_other w g g' arr' (fun e => by subst e; have := hinj j h; simp [Tag.is, this] at hj)⟩, fun _ _ _ h => h⟩
  unfold setOwn
  split
  · rename_i j e' k' xs
    split
    · rename_i hj
      subst hj
      split
      · rename_i hkk
        subst hkk
        obtain ⟨ad, cap, cells, rfl, h2, h3⟩ := h
        have h2' := h2.trans (p := Tag.is j) (q := fun _ => false) rfl K
        rcases h3 with ⟨h4, rfl, rfl⟩ | ⟨g', arr0, h4, rfl, h5, h6, h7, h8, h9⟩
        · have hx0 : xs = [] := List.eq_nil_of_length_eq_zero h4
          subst hx0
          exact ⟨none, 0, cells, rfl, h2', .inl ⟨rfl, rfl, rfl⟩⟩
        · rw [hg] at h4
          simp only [Option.some.injEq] at h4
          subst h4
          rw [ha] at h5
          simp only [Option.some.injEq, Obj.cells.injEq] at h5
          obtain ⟨rfl, rfl, _⟩ := h5
          have hle : xs.length * k' ≤ arr.size := by rw [h8]; exact Nat.mul_le_mul_right _ h6
          by_cases hi : i < xs.length
          · refine ⟨some ⟨g, 0, none⟩, cap, _, by simp, h2'.set hi hk hf hx1, .inr ⟨g, arr', hg, rfl, setRow_heap w g arr _ _ _ ha, by simpa using h6, h7, by rw [harr, h8], ?_⟩⟩
            rw [List.length_set, harr' xs.length hi hle, h9]
          · rw [List.set_eq_of_length_le (by omega)]
            exact ⟨some ⟨g, 0, none⟩, cap, cells, rfl, h2', .inr ⟨g, arr', hg, rfl, setRow_heap w g arr _ _ _ ha, h6, h7, by rw [harr, h8], by rw [harr0 xs.length (by omega)]; exact h9⟩⟩
      · trivial
    · rename_i hj
      have := h.trans rfl K (by simp [V.any, Tag.is, hj])
      rwa [map_id.1] at this
  · exact poison_rep K h

theorem seg_take (l u : List Value) (i k n : Nat) (hu : u.length = k) (hi : i + k ≤ n) (hn : n ≤ l.length) :
    (l.take i ++ u ++ l.drop (i + k)).take n = (l.take n).take i ++ u ++ (l.take n).drop (i + k) := by
  have e1 : (l.take i ++ u).length = i + k := by simp [hu]; omega
  rw [List.take_append, List.take_of_length_le (by omega), e1, List.take_take, Nat.min_eq_left (by omega), List.drop_take]

theorem storeE_ok {t : TypeId} {id k i off : Nat} {e : TypeId} {xs : List V} {x : V} {u ux : Value} {s' : St} (h : storeE P s t id k xs i off x = some s') (S : Sim C s L a w) (hu : Rep L w (.el (.own id e) k xs i off) u) (hx : Rep L w x ux) :
    ∃ w', (Instr.storeAt t u ux).run P w = .ok () w' ∧ Sim C s' L a w' := by
  simp only [storeE, Option.bind_eq_some_iff, Option.ite_none_right_eq_some, Option.some.injEq] at h
  obtain ⟨x0, hx0, c0, hc0, l, hl, x1, hx1, ⟨h1, h2, h3, h4⟩, rfl⟩ := h
  obtain ⟨g, o, cells, rfl, hr, hg, rfl, arr, ha, htake⟩ := hu
  obtain ⟨u0, h5, h6, h7, h8⟩ := hr.get hx0
  have hcl := hr.length
  have hi : i < xs.length := (List.getElem?_eq_some_iff.1 hx0).1
  have hik : i * k + k ≤ xs.length * k := by
    have := Nat.mul_le_mul_right k (show i + 1 ≤ xs.length from hi)
    rwa [Nat.add_mul, Nat.one_mul] at this
  have hrl := rep_cs hx hl
  have hll : ux.cells.size = l.length := by simpa using hrl.length
  have hr0 := rep_cs h8 hc0
  have hc0l : u0.cells.size = c0.length := by simpa using hr0.length
  have hal : xs.length * k ≤ arr.size := by
    have := congrArg List.length htake
    simp only [List.length_take, Array.length_toList] at this
    omega
  have hone := reps_one hrl h3
  have hrun := run_storeAt (P := P) (w := w) (t := t) (g := g) (o := 0 + i * k + off) (v := ux) (arr := arr) (e := e) (by rw [hll]; exact h1) ha (by omega) hone
  obtain ⟨hw1, hw2, hw3⟩ := S.wf.own id g hg
  let us1 : List Value := u0.cells.toList.take off ++ ux.cells.toList ++ u0.cells.toList.drop (off + l.length)
  have hus1 : Reps L w (c0.take off ++ l ++ c0.drop (off + l.length)) us1 := ((hr0.take off).append hrl).append (hr0.drop _)
  have hone1 : ∀ u ∈ us1, u.oneCell' = true := by
    intro v hv
    simp only [us1, List.mem_append] at hv
    rcases hv with (hv | hv) | hv
    · exact List.all_eq_true.1 h7.2 v (List.mem_of_mem_take hv)
    · exact hone v hv
    · exact List.all_eq_true.1 h7.2 v (List.mem_of_mem_drop hv)
  obtain ⟨u1, hu1, hru1⟩ := rebuild_rep hx1 h8 hus1 hone1
  have hu1k : u1.cells.size = k := by
    have : u1.cells.toList.length = us1.length := by rw [hu1]
    simp only [Array.length_toList, us1, List.length_append, List.length_take, List.length_drop, hll] at this
    omega
  have hu0 : (arr.toList.drop (i * k)).take k = u0.cells.toList := by
    rw [← h5, ← htake, List.drop_take, List.take_take]
    congr 1
    rw [hcl]
    omega
  -- the array behind the store, by elements
  have hnew : arr.toList.take (0 + i * k + off) ++ ux.cells.toList ++ arr.toList.drop (0 + i * k + off + ux.cells.size) = arr.toList.take (i * k) ++ u1.cells.toList ++ arr.toList.drop (i * k + k) := by
    rw [hu1, hll]
    simp only [us1, Nat.zero_add]
    have e1 : arr.toList.take (i * k + off) = arr.toList.take (i * k) ++ u0.cells.toList.take off := by
      rw [List.take_add, ← hu0, List.take_take, Nat.min_eq_left (by omega)]
    have e2 : arr.toList.drop (i * k + off + l.length) = u0.cells.toList.drop (off + l.length) ++ arr.toList.drop (i * k + k) := by
      rw [← hu0]
      have := List.take_append_drop (k - (off + l.length)) (arr.toList.drop (i * k + off + l.length))
      rw [← this, List.drop_drop, List.drop_take, List.drop_drop]
      congr 2
      · congr 1; omega
      · omega
    rw [e1, e2]
    simp [List.append_assoc]
  rw [hnew] at hrun
  let arr' : Array Value := (arr.toList.take (i * k) ++ u1.cells.toList ++ arr.toList.drop (i * k + k)).toArray
  have harr : arr'.size = arr.size := by simp [arr', hu1k]; omega
  have hfree : x1.free = true ∧ u1.cells.toList.all Value.oneCell' = true := ⟨h4, by rw [hu1]; exact List.all_eq_true.2 hone1⟩
  have K0 : Trans (Tag.is id) (fun _ => false) _root_.id _root_.id L L w (w.setRow g arr') :=
    ⟨rfl, fun g' h => ⟨h, .of (setRow_other w g g' arr' (fun e => by subst e; exact hw3 h))⟩,
      fun j e hj g' h => ⟨⟨rfl, h⟩, setRow_other w g g' arr' (fun e => by subst e; have := S.wf.injO j id _ h hg; simp [Tag.is, this] at hj)⟩, fun _ _ _ h => h⟩
  have hru1' : Rep L (w.setRow g arr') x1 u1 := by
    have := hru1.trans rfl K0 (V.free.any h4 (Tag.is id) (fun _ => false) rfl false)
    rwa [map_id.1] at this
  refine ⟨_, hrun, S.mapV (nid := s.nid) (fun v u h => setOwn_rep (arr := arr) (arr' := arr') hg ha (fun j hj => S.wf.injO j id g hj hg) hw3 harr hu1k ?_ ?_ hru1' hfree h)
    (fun b g' h => ⟨h, setRow_other w g g' _ (fun e => by subst e; exact S.wf.dis id b _ hg h)⟩) (S.wf.mono (Nat.le_refl _) (by simp)) (Kp.setRow _ hw2)⟩
  · intro len hlen hle
    have := Nat.mul_le_mul_right k (show i + 1 ≤ len from hlen)
    rw [Nat.add_mul, Nat.one_mul] at this
    simp only [arr']
    exact seg_take _ _ _ _ _ (by simpa using hu1k) this (by simpa using hle)
  · intro len hlen
    have := Nat.mul_le_mul_right k hlen
    simp only [arr']
    rw [List.append_assoc, List.take_append, List.take_take, Nat.min_eq_left this]
    have : len * k - (arr.toList.take (i * k)).length = 0 := by simp; omega
    rw [this]
    simp

/-! ### Strings made of an array's own bytes (strings.Builder) -/
theorem freezeN_row (w : World) (g o n : Nat) (arr : Array Value) (e : TypeId) (fr : Nat × Nat) (hg : w.heap[g]? = some (.cells arr e fr)) : ∃ fr', (w.freeze ⟨g, o, none⟩ n).heap[g]? = some (.cells arr e fr') := by
  simp only [World.freeze]
  split
  · exact ⟨fr, hg⟩
  · simp only [Array.getElem?_modify, if_true, hg, Option.map_some]
    exact ⟨_, rfl⟩
theorem freezeN_other (w : World) (g o n k : Nat) (h : k ≠ g) : (w.freeze ⟨g, o, none⟩ n).heap[k]? = w.heap[k]? := by
  simp only [World.freeze]
  split
  · rfl
  · simp only [Array.getElem?_modify]
    rw [if_neg (by omega)]
theorem freezeN_size (w : World) (g o n : Nat) : (w.freeze ⟨g, o, none⟩ n).heap.size = w.heap.size := by
  simp only [World.freeze]
  split <;> simp
theorem freezeN_rest (w : World) (g o n : Nat) : (w.freeze ⟨g, o, none⟩ n).os = w.os ∧ (w.freeze ⟨g, o, none⟩ n).tape = w.tape ∧ (w.freeze ⟨g, o, none⟩ n).output = w.output := by
  simp only [World.freeze]
  split <;> exact ⟨rfl, rfl, rfl⟩

theorem Sim.freezeW (S : Sim C s L a w) {id g : Nat} (n o : Nat) {arr : Array Value} {e : TypeId} (h4 : L.own id = some g) (h5 : w.heap[g]? = some (.cells arr e (0, 0))) :
    Sim C (s.mapV (frz id)) (L.freeze id) a (w.freeze ⟨g, o, none⟩ n) := by
  obtain ⟨S', hψ⟩ := S.freeze id
  have hW := S.wf.own id g h4
  have hA : (L.freeze id).A g := .inr h4
  have hO : ∀ i, (L.freeze id).own i ≠ some g := fun i h => (S'.wf.own i g h).2.2 hA
  obtain ⟨fr, hfr⟩ := freezeN_row w g o n arr e (0, 0) h5
  have K : Whole (L.freeze id) (L.freeze id) w (w.freeze ⟨g, o, none⟩ n) := by
    refine ⟨rfl, fun g' h => ⟨h, ?_⟩, fun j e _ g' h => ⟨⟨rfl, h⟩, freezeN_other w _ _ _ g' (fun e => by subst e; exact hO j h)⟩, fun _ _ _ h => h⟩
    by_cases hg : g' = g
    · subst hg
      intro arr' e'' fr' h'
      rw [h5] at h'
      simp only [Option.some.injEq, Obj.cells.injEq] at h'
      obtain ⟨rfl, rfl, _⟩ := h'
      exact ⟨fr, hfr⟩
    · exact .of (freezeN_other w _ _ _ g' hg)
  have hsz : (w.freeze ⟨g, o, none⟩ n).heap.size = w.heap.size := freezeN_size w _ _ _
  obtain ⟨ho, ht, hp⟩ := freezeN_rest w g o n
  refine ⟨S'.defers, S'.size, fun t => (S'.env t).whole K, fun t => (S'.hid t).whole K, ?_, S'.wf.mono (Nat.le_refl _) (by rw [hsz]; exact Nat.le_refl _), S'.kp.trans ⟨ho, ht, hp, by rw [hsz]; exact Nat.le_refl _, ?_⟩⟩
  · intro b cs hb
    obtain ⟨g', arr', h7, h8, h9⟩ := S'.box b cs hb
    exact ⟨g', arr', h7, (freezeN_other w _ _ _ g' (fun e => by subst e; exact (S'.wf.boxW b _ h7).2.2 hA)).trans h8, h9.whole K⟩
  · intro k' hk' hW'
    exact freezeN_other w _ _ _ k' (fun e => by subst e; exact hW.2.1.elim (fun h => by omega) hW')

def u8L : List V → Option (List UInt8)
  | [] => some []
  | .c (.int .u8 n) :: r => if 0 ≤ n ∧ n < 256 then (u8L r).map (UInt8.ofNat n.toNat :: ·) else none
  | _ => none
theorem u8L_cells {xs : List V} {l : List UInt8} {cells : List Value} (h : u8L xs = some l) (r : RepE L w 1 xs cells) : cells = Lib.byteCells l := by
  induction xs generalizing l cells with
  | nil => simp [u8L] at h; subst h; simpa [RepE, Lib.byteCells] using r
  | cons x xs ih =>
    unfold u8L at h
    split at h
    · rename_i heq; cases heq
    · rename_i n r' heq
      simp only [List.cons.injEq] at heq
      obtain ⟨rfl, rfl⟩ := heq
      simp only [Option.ite_none_right_eq_some, Option.map_eq_some_iff] at h
      obtain ⟨⟨h0, h1⟩, l', h2, rfl⟩ := h
      obtain ⟨u, rest, rfl, _, _, h4, h5⟩ := r
      simp only [Rep] at h4
      subst h4
      rw [ih h2 h5]
      have : ((UInt8.ofNat n.toNat).toNat : Int) = n := by
        rw [UInt8.toNat_ofNat']
        omega
      simp only [Lib.byteCells, Value.cells, List.map_cons, this]
      rfl
    · cases h
theorem u8L_len {xs : List V} {l : List UInt8} (h : u8L xs = some l) : l.length = xs.length := by
  induction xs generalizing l with
  | nil => simp [u8L] at h; subst h; rfl
  | cons x xs ih =>
    unfold u8L at h
    split at h
    · rename_i heq; cases heq
    · rename_i n r' heq
      simp only [List.cons.injEq] at heq
      obtain ⟨rfl, rfl⟩ := heq
      simp only [Option.ite_none_right_eq_some, Option.map_eq_some_iff] at h
      obtain ⟨_, l', h2, rfl⟩ := h
      simp [ih h2]
    · cases h

/-- unsafe.SliceData of a slice that is not empty. -/
def sdV (x : V) : Option V :=
  match x with
  | .sl t k (y :: ys) => some (.el t k (y :: ys) 0 0)
  | _ => none
theorem sdV_run {x r : V} {u : Value} (h : sdV x = some r) (rx : Rep L w x u) (ts : Array TypeId) (ty : TypeId) : ∃ v, (Builtin.unsafeSliceData_ ts ty #[u]).run P w = .ok v w ∧ Rep L w r v := by
  unfold sdV at h
  split at h
  · rename_i t k y ys
    simp only [Option.some.injEq] at h
    subst h
    obtain ⟨ad, cap, cells, rfl, h2, h3⟩ := rx
    obtain ⟨g, o, rfl, h4⟩ := h3.el (by simp) h2.length
    have hc : cap ≠ 0 := by have := h3.le; simp at this; omega
    exact ⟨_, Lib.run_unsafeSliceData_row w ts ty _ _ _ hc, g, o, cells, by simp, h2, h4⟩
  · cases h

def ptrTo (P : Program) (t : TypeId) : Option TypeId := match P.underlying t with | some (.pointer e) => some e | _ => none
theorem ptrTo_und {t e : TypeId} (h : ptrTo P t = some e) : P.underlying t = some (.pointer e) := by
  unfold ptrTo at h; split at h <;> simp_all
/-- unsafe.String over an own array's bytes. -/
def usV (P : Program) (s : St) (pt : TypeId) (x n : V) : Option (V × St) :=
  match x, n with
  | .el (.own id e) 1 xs 0 0, .c (.int .i64 m) => (u8L xs).bind fun l => if ptrTo P pt = some e ∧ P.cellsOf e = 1 ∧ m = xs.length ∧ xs.length ≠ 0 ∧ xs.length ≤ 9223372036854775807 then some (.c (.string ⟨l.toArray⟩), s.mapV (frz id)) else none
  | _, _ => none
theorem usV_ok {pt it ty : TypeId} {x n r : V} {ux un : Value} {s' : St} (h : usV P s pt x n = some (r, s')) (S : Sim C s L a w) (hx : Rep L w x ux) (hn : Rep L w n un) :
    ∃ u w' L', (Builtin.unsafeString_ #[pt, it] ty #[ux, un]).run P w = .ok u w' ∧ Sim C s' L' a w' ∧ Rep L' w' r u := by
  unfold usV at h
  split at h
  · rename_i id e xs m
    simp only [Option.bind_eq_some_iff, Option.ite_none_right_eq_some, Option.some.injEq, Prod.mk.injEq] at h
    obtain ⟨l, hl, ⟨hp, hc, rfl, h0, h63⟩, rfl, rfl⟩ := h
    simp only [Rep] at hn; subst hn
    obtain ⟨g, o, cells, rfl, h2, hg, rfl, arr, h5, h6⟩ := hx
    have hll := u8L_len hl
    have hcells := u8L_cells hl h2
    subst hcells
    have hle : l.length ≤ arr.size := by
      have := congrArg List.length h6
      simp only [List.length_take, Array.length_toList, Lib.byteCells_length] at this
      omega
    have hrun := Lib.run_unsafeString_row (P := P) w pt it ty e (ptrTo_und hp) hc g arr.size (by simp [World.shape?, h5]) l (by intro hh; subst hh; simp at hll; exact h0 hll.symm) hle (by omega) (by
      intro j x hj
      rw [add_plain]
      have hrow : Row w g 0 (Lib.byteCells l) := ⟨arr, e, (0, 0), h5, by rw [List.drop_zero]; exact h6⟩
      exact hrow.cell (by simp [Lib.byteCells, hj]))
    rw [hll] at hrun
    exact ⟨_, _, _, by simpa using hrun, S.freezeW _ _ hg h5, rfl⟩
  · cases h
end
end Go.Pg
end

section
/-
  The pure layer: contracts (Good), calls, regions, code.
-/
namespace Go.Pg
open Go
set_option linter.unusedSectionVars false

/-! ### What a call hands back -/
structure ResLay (A : Nat → Prop) (w w' : World) (L : Lay) : Prop where
  A : ∀ g, L.A g → A g ∨ (w.heap.size ≤ g ∧ g < w'.heap.size)
  own : ∀ id g, L.own id = some g → w.heap.size ≤ g ∧ g < w'.heap.size ∧ ¬ L.A g
  inj : ∀ i j g, L.own i = some g → L.own j = some g → i = j

/-- The function may be entered. -/
def enters (P : Program) (f : FuncId) : Bool :=
  match P.funcs[f]? with
  | some fn => !(fn.name == "runtime.NumGoroutine") && fn.body.isSome
  | none => false

/-- A CONTRACT: called with values that stand for 'args' it returns one that stands for 'r'; nothing that was there has turned. -/
def Good (P : Program) [Tb P] (f : FuncId) (args : List V) (r : V) : Prop :=
  enters P f = true ∧ ∀ (A : Nat → Prop) (w : World) (cargs : List Value), Tb.T P w → (∀ g, A g → g < w.heap.size) → Reps ⟨A, fun _ => none, fun _ => none⟩ w args cargs →
    Calls P f cargs.toArray w fun e w' => ∃ u L, e = .returned u ∧ Rep L w' r u ∧ Kp (fun _ => False) w.heap.size w w' ∧ ResLay A w w' L

mutual
/-- One more than the greatest name. -/
def V.idb : V → Nat
  | .c _ => 0
  | .sl (.own id _) _ _ => id + 1
  | .sl .fz _ _ => 0
  | .sl .nn _ _ => 0
  | .agg cs => V.idbL cs
  | .tup cs => V.idbL cs
  | .ref _ _ => 0
  | .el (.own id _) _ _ _ _ => id + 1
  | .el .fz _ _ _ _ => 0
  | .el .nn _ _ _ _ => 0
  | .fn _ fs cs => max (V.idbL fs) (V.idbL cs)
  | .top => 0
def V.idbL : List V → Nat
  | [] => 0
  | x :: xs => max (V.idb x) (V.idbL xs)
end

mutual
/-- No frozen memory in it, however deep. -/
def V.flat : V → Bool
  | .c _ => true
  | .sl (.own _ _) _ xs => V.flatL xs
  | .sl .fz _ _ => false
  | .sl .nn _ xs => V.flatL xs
  | .agg cs => V.flatL cs
  | .tup cs => V.flatL cs
  | .ref _ _ => false
  | .el _ _ _ _ _ => false
  | .fn _ fs cs => V.flatL fs && V.flatL cs
  | .top => true
def V.flatL : List V → Bool
  | [] => true
  | x :: xs => V.flat x && V.flatL xs
end

def Tag.ge (n : Nat) : Tag → Bool
  | .fz => false
  | .nn => false
  | .own id _ => !decide (id < n)

theorem idb_any (n : Nat) : (∀ v : V, v.idb ≤ n → v.any (Tag.ge n) (fun _ => false) false = false) ∧ (∀ l, V.idbL l ≤ n → V.anyL (Tag.ge n) (fun _ => false) false l = false) := by
  refine V.ind ?_ ?_ ?_ ?_ ?_ ?_ ?_ ?_ ?_ ?_
  · intro v _; rfl
  · intro t k xs _ h; cases t with
    | fz => rfl
    | nn => rfl
    | own id e => simp only [V.idb] at h; simp [V.any, Tag.ge]; omega
  · intro cs ih h; exact ih h
  · intro cs ih h; exact ih h
  · intro b o _; rfl
  · intro t k xs i o _ h; cases t with
    | fz => rfl
    | nn => rfl
    | own id e => simp only [V.idb] at h; simp [V.any, Tag.ge]; omega
  · intro f fs cs h1 h2 h; simp only [V.idb] at h; simp [V.any, h1 (by omega), h2 (by omega)]
  · intro _; rfl
  · intro _; rfl
  · intro x xs h1 h2 h; simp only [V.idbL] at h; simp [V.anyL, h1 (by omega), h2 (by omega)]

theorem rep_flat {L : Lay} {w : World} (A : Nat → Prop) : (∀ v u, V.flat v = true → Rep L w v u → Rep { L with A := A } w v u) ∧
    (∀ l, (∀ us, V.flatL l = true → Reps L w l us → Reps { L with A := A } w l us) ∧ (∀ k us, V.flatL l = true → RepE L w k l us → RepE { L with A := A } w k l us)) := by
  refine V.ind ?_ ?_ ?_ ?_ ?_ ?_ ?_ ?_ ?_ ?_
  · intro v u _ h; exact h
  · rintro t k xs ⟨_, ih⟩ u hf ⟨a, cap, cells, h1, h2, h3⟩
    cases t with
    | fz => simp [V.flat] at hf
    | nn => exact ⟨a, cap, cells, h1, ih k cells hf h2, h3⟩
    | own id e => exact ⟨a, cap, cells, h1, ih k cells hf h2, h3⟩
  · rintro cs ⟨ih, _⟩ u hf ⟨a, h1, h2⟩; exact ⟨a, h1, ih _ hf h2⟩
  · rintro cs ⟨ih, _⟩ u hf ⟨a, h1, h2⟩; exact ⟨a, h1, ih _ hf h2⟩
  · intro b o u hf; simp [V.flat] at hf
  · intro t k xs i o _ u hf; simp [V.flat] at hf
  · rintro f fs cs ⟨ih1, _⟩ ⟨ih2, _⟩ u hf ⟨a, b, h1, h2, h3⟩
    simp only [V.flat, Bool.and_eq_true] at hf
    exact ⟨a, b, h1, ih1 _ hf.1 h2, ih2 _ hf.2 h3⟩
  · intro u _ _; trivial
  · exact ⟨fun us _ h => h, fun k us _ h => h⟩
  · rintro x xs ihx ⟨ih1, ih2⟩
    refine ⟨?_, ?_⟩
    · rintro us hf ⟨u, r, h1, h2, h3⟩
      simp only [V.flatL, Bool.and_eq_true] at hf
      exact ⟨u, r, h1, ihx u hf.1 h2, ih1 r hf.2 h3⟩
    · rintro k us hf ⟨u, r, h1, h2, h3, h4, h5⟩
      simp only [V.flatL, Bool.and_eq_true] at hf
      exact ⟨u, r, h1, h2, h3, ihx u hf.1 h4, ih2 k r hf.2 h5⟩

/-- As a callee sees an argument: nothing that it may write. -/
def V.erase (v : V) : V := v.map (fun _ => .fz) id
def V.shift (n : Nat) (v : V) : V := v.map (fun t => match t with | .fz => .fz | .nn => .nn | .own id e => .own (id + n) e) id
def V.noRef (v : V) : Bool := !v.any (fun _ => false) (fun _ => true) false
def ownFree (l : List V) : Bool := !V.anyL Tag.isOwn (fun _ => false) false l
def noRefs (l : List V) : Bool := !V.anyL (fun _ => false) (fun _ => true) false l

def St.freezeAll (s : St) : List Nat → St
  | [] => s
  | id :: ids => (s.mapV (frz id)).freezeAll ids

/-- How an operation stands to those beside it: it computes from what may not turn; it computes; it reads a variable; it makes or writes memory; it freezes. -/
inductive Kd where
  | p | q | r | x | z

/-- It says nothing of memory that may turn. -/
def V.calm (v : V) : Bool := !v.any Tag.isOwn (fun _ => true) false
/-- The kind of an operation that computes 'v' from 'l'. -/
def kq (l : List V) (v : V) : Kd := if l.all V.free && v.calm then .p else .q
def kc (l : List V) (ids : List Nat) (r : V) : Kd :=
  match ids with
  | [] => if r.idb = 0 then kq l r else .x
  | _ => .z

/-- A CONTRACT OF STATES: the caller's own, from one to another: of callees that write what the caller made, and of Go's own functions without a body. -/
def GoodZ (P : Program) [Tb P] (g : FuncId) (args : List V) (s s' : St) (r : V) : Prop :=
  ∀ (C : Cx) (L : Lay) (a : Act) (w : World) (cargs : List Value), Tb.T P C.w0 → Sim C s L a w → Reps L w args cargs →
    (enters P g = true ∧ Calls P g cargs.toArray w fun e w' => ∃ u L', e = .returned u ∧ Sim C s' L' a w' ∧ Rep L' w' r u) ∨
    ∃ u w' L', (callFunc g cargs.toArray).run P w = .ok (.value u) w' ∧ Sim C s' L' a w' ∧ Rep L' w' r u

def callW (P : Program) [Tb P] (f : V) (args : List Operand) (d : Option Nat) (s : St) (K : Kd → St → Prop) : Prop :=
  match f with
  | .fn g fs cs => (∃ (ids : List Nat) (r : V), Good P g ((fs ++ args.map (s.freezeAll ids).ev ++ cs).map V.erase) r ∧ ownFree (fs ++ cs) = true ∧ noRefs (fs ++ args.map (s.freezeAll ids).ev ++ cs) = true ∧ r.noRef = true ∧
      (ownFree (args.map (s.freezeAll ids).ev) || r.flat) = true ∧ K (kc (f :: args.map s.ev) ids r) (St.put { s.freezeAll ids with nid := s.nid + r.idb } d (r.shift s.nid))) ∨
      ∃ (s' : St) (r : V), GoodZ P g (fs ++ args.map s.ev ++ cs) s s' r ∧ K .z (s'.put d r)
  | _ => False

section
variable {P : Program} [Tb P] {C : Cx} {s : St} {L L' : Lay} {a : Act} {w w' : World}

theorem freezeAll_nid (ids : List Nat) : ∀ s : St, (s.freezeAll ids).nid = s.nid := by
  induction ids with
  | nil => intro s; rfl
  | cons i ids ih => intro s; exact ih _

theorem Sim.freezeAll (ids : List Nat) : ∀ {s : St} {L : Lay}, Sim C s L a w → ∃ L', Sim C (s.freezeAll ids) L' a w ∧ ∀ v u, ownFree [v] = true → Rep L w v u → Rep L' w v u := by
  induction ids with
  | nil => intro s L S; exact ⟨L, S, fun v u _ h => h⟩
  | cons i ids ih =>
    intro s L S
    obtain ⟨S1, hψ⟩ := S.freeze i
    obtain ⟨L2, S2, h2⟩ := ih S1
    refine ⟨L2, S2, fun v u hv h => h2 v u hv ?_⟩
    have K : Trans Tag.isOwn (fun _ => false) _root_.id _root_.id L (L.freeze i) w w :=
      ⟨rfl, fun g h => ⟨.inl h, .of rfl⟩, fun j e hj g h => by simp [Tag.isOwn] at hj, fun _ _ _ h => h⟩
    have := h.trans rfl K (by simpa [ownFree, V.anyL] using hv)
    rwa [map_id.1] at this

theorem anyL_append (p : Tag → Bool) (q : Nat → Bool) (tp : Bool) (l l' : List V) : V.anyL p q tp (l ++ l') = (V.anyL p q tp l || V.anyL p q tp l') := by
  induction l with
  | nil => simp [V.anyL]
  | cons x xs ih => simp [V.anyL, ih, Bool.or_assoc]

theorem any_or {p p' : Tag → Bool} {q q' : Nat → Bool} : (∀ v : V, v.any p q false = false → v.any p' q' false = false → v.any (fun t => p t || p' t) (fun b => q b || q' b) false = false) ∧
    (∀ l, V.anyL p q false l = false → V.anyL p' q' false l = false → V.anyL (fun t => p t || p' t) (fun b => q b || q' b) false l = false) := by
  refine V.ind ?_ ?_ ?_ ?_ ?_ ?_ ?_ ?_ ?_ ?_ <;> simp_all [V.any, V.anyL]

theorem tb_now (hT : Tb.T P C.w0) (S : Sim C s L a w) : Tb.T P w := Tb.keep C.w0 w hT (S.kp.mono (Nat.le_refl _) (fun g _ h => C.nw g h))

theorem call_step {f : FuncId} {vs : List V} {us : List Value} {r : V} (hT : Tb.T P C.w0) (S : Sim C s L a w) (hr : Reps L w vs us) (hg : Good P f (vs.map V.erase) r) (href : noRefs vs = true) (hrr : r.noRef = true) (hof : (ownFree vs || r.flat) = true) :
    Calls P f us.toArray w fun e w' => ∃ u L', e = .returned u ∧ Sim C { s with nid := s.nid + r.idb } L' a w' ∧ Rep L' w' (r.shift s.nid) u := by
  have hB := S.hB
  -- what the callee may read
  let A1 : Nat → Prop := fun g => L.A g ∨ (r.flat = true ∧ ∃ id, L.own id = some g)
  have hA1 : ∀ g, A1 g → g < w.heap.size := fun g h => h.elim (S.wf.old g) (fun ⟨_, id, h⟩ => (S.wf.own id g h).1)
  have hargs : Reps ⟨A1, fun _ => none, fun _ => none⟩ w (vs.map V.erase) us := by
    cases hfl : r.flat with
    | true =>
      have K : Trans (fun _ => false) (fun _ => true) (fun _ => .fz) id L ⟨A1, fun _ => none, fun _ => none⟩ w w :=
        ⟨rfl, fun g h => ⟨.inl h, .of rfl⟩, fun i e _ g h => ⟨.inr ⟨hfl, i, h⟩, rfl⟩, fun b hb => by simp at hb⟩
      have := hr.trans rfl K (by simpa [noRefs] using href)
      rwa [mapL_eq] at this
    | false =>
      have K : Trans Tag.isOwn (fun _ => true) (fun _ => .fz) id L ⟨A1, fun _ => none, fun _ => none⟩ w w :=
        ⟨rfl, fun g h => ⟨.inl h, .of rfl⟩, fun i e h => by simp [Tag.isOwn] at h, fun b hb => by simp at hb⟩
      have h1 : ownFree vs = true := by simpa [hfl] using hof
      have h3 := (any_or (p := Tag.isOwn) (p' := fun _ => false) (q := fun _ => false) (q' := fun _ => true)).2 vs (by simpa [ownFree] using h1) (by simpa [noRefs] using href)
      have := hr.trans (p := Tag.isOwn) (q := fun _ => true) rfl K (by simpa using h3)
      rwa [mapL_eq] at this
  refine (hg.2 A1 w us (tb_now hT S) hA1 hargs).mono ?_
  rintro e w' ⟨u, L1, rfl, hru, hkp, hlay⟩
  have G : Grow w w' := ⟨hkp.os, hkp.tape, hkp.output, hkp.size, fun k hk => hkp.block k hk (fun h => h)⟩
  -- the layout behind the call
  let L2 : Lay := { A := fun g => L.A g ∨ (L1.A g ∧ w.heap.size ≤ g), own := fun j => if j < s.nid then L.own j else if j - s.nid < r.idb then L1.own (j - s.nid) else none, box := L.box }
  have E : L.Le L2 := ⟨fun g h => .inl h, fun i g h => by simp [L2, S.wf.nidO i g h, h], fun _ _ h => h⟩
  have W := S.wf
  have wf : Wf C (s.nid + r.idb) L2 w' := {
    nidO := fun j g h => by
      simp only [L2] at h
      split at h
      · omega
      · split at h
        · omega
        · cases h
    nidB := fun b g h => by have := W.nidB b g h; omega
    own := fun j g h => by
      simp only [L2] at h
      split at h
      · obtain ⟨h1, h2, h3⟩ := W.own j g h
        exact ⟨by have := G.size; omega, h2, fun h' => h'.elim h3 (fun ⟨_, h'⟩ => by omega)⟩
      · split at h
        · obtain ⟨h1, h2, h3⟩ := hlay.own _ g h
          exact ⟨h2, .inl (by omega), fun h' => h'.elim (fun h' => by have := W.old g h'; omega) (fun ⟨h', _⟩ => h3 h')⟩
        · cases h
    boxW := fun b g h => by
      obtain ⟨h1, h2, h3⟩ := W.boxW b g h
      exact ⟨by have := G.size; omega, h2, fun h' => h'.elim h3 (fun ⟨_, h'⟩ => by omega)⟩
    injO := fun i j g h h' => by
      simp only [L2] at h h'
      split at h
      · split at h'
        · exact W.injO i j g h h'
        · split at h'
          · have := (W.own i g h).1; have := (hlay.own _ g h').1; omega
          · cases h'
      · split at h
        · split at h'
          · have := (W.own j g h').1; have := (hlay.own _ g h).1; omega
          · split at h'
            · have := hlay.inj _ _ g h h'; omega
            · cases h'
        · cases h
    injB := W.injB
    dis := fun i j g h h' => by
      simp only [L2] at h
      split at h
      · exact W.dis i j g h h'
      · split at h
        · have := (hlay.own _ g h).1; have := (W.boxW j g h').1; omega
        · cases h
    old := fun g h => h.elim (fun h => by have := W.old g h; have := G.size; omega) (fun ⟨h, h'⟩ => by
      rcases hlay.A g h with h1 | h1
      · have := hA1 g h1; omega
      · exact h1.2)
    frz := fun g h => h.elim (W.frz g) (fun ⟨_, h'⟩ => .inr (.inl (by omega))) }
  refine ⟨u, L2, rfl, S.grow G E rfl (fun b cs h => .inl h) wf, ?_⟩
  have hsh : ∀ id e, Tag.ge r.idb (.own id e) = false → ∀ g, L1.own id = some g → L2.own (id + s.nid) = some g := by
    intro id e hid g h
    simp only [Tag.ge, Bool.not_eq_eq_eq_not, Bool.not_false, decide_eq_true_eq] at hid
    have h1 : ¬ id + s.nid < s.nid := by omega
    have h2 : id + s.nid - s.nid = id := by omega
    simp only [L2, if_neg h1, h2, if_pos hid, h]
  have hany : r.any (fun t => Tag.ge r.idb t || false) (fun b => false || true) false = false := by
    have := (any_or (p := Tag.ge r.idb) (p' := fun _ => false) (q := fun _ => false) (q' := fun _ => true)).1 r ((idb_any r.idb).1 r (Nat.le_refl _)) (by simpa [V.noRef] using hrr)
    exact this
  cases hfl : r.flat with
  | true =>
    have hru' := (rep_flat (fun _ => False)).1 r u hfl hru
    have K : Trans (fun t => Tag.ge r.idb t || false) (fun b => false || true) (fun t => match t with | .fz => .fz | .nn => .nn | .own id e => .own (id + s.nid) e) id { L1 with A := fun _ => False } L2 w' w' :=
      ⟨rfl, fun g h => h.elim, fun id e hid g h => ⟨⟨rfl, hsh id e (by simpa using hid) g h⟩, rfl⟩, fun b hb => by simp at hb⟩
    exact hru'.trans rfl K hany
  | false =>
    have K : Trans (fun t => Tag.ge r.idb t || false) (fun b => false || true) (fun t => match t with | .fz => .fz | .nn => .nn | .own id e => .own (id + s.nid) e) id L1 L2 w' w' := by
      refine ⟨rfl, fun g h => ⟨?_, .of rfl⟩, fun id e hid g h => ⟨⟨rfl, hsh id e (by simpa using hid) g h⟩, rfl⟩, fun b hb => by simp at hb⟩
      rcases hlay.A g h with h1 | h1
      · rcases h1 with h1 | ⟨h1, _⟩
        · exact .inl h1
        · rw [hfl] at h1; cases h1
      · exact .inr ⟨h, h1.1⟩
    exact hru.trans rfl K hany
end
end Go.Pg
end

section
/-
  The pure layer: one operation, a region in the text's order, code; how a contract is got.
-/
namespace Go.Pg
open Go
set_option linter.unusedSectionVars false

def exV (x : V) (i : Nat) : Option V := match x with | .tup vs => vs[i]? | _ => none

/-- The operations that only compute. -/
def qv (P : Program) (s : St) (op : Op) : Option V :=
  match op with
  | .move x => some (s.ev x)
  | .assign x => some (s.ev x)
  | .pick c x y => match s.ev c with | .c (.bool b) => some (pickV b (s.ev x) (s.ev y)) | _ => none
  | .binOp op t x y _ => binV P op t (s.ev x) (s.ev y)
  | .unOp op _ x => unV op (s.ev x)
  | .convert src dst x => convV P src dst (s.ev x)
  | .extract x i => exV (s.ev x) i
  | .field t x f => fieldV P t (s.ev x) f
  | .index t x i => ixV P t (s.ev x) (s.ev i)
  | .indexAddr t x i => iaV P t (s.ev x) (s.ev i)
  | .fieldAddr t x f => faV P t (s.ev x) f
  | .nilCheck x => match s.ev x with | .ref b o => some (.ref b o) | .el t k xs i o => some (.el t k xs i o) | .fn f fs cs => some (.fn f fs cs) | _ => none
  | .makeFunc (.func f) fs cs => some (.fn f (fs.toList.map s.ev) (cs.toList.map s.ev))
  | .build t parts => buildV P t (parts.toList.map fun p => (p.1, s.ev p.2))
  | .slice t x lo hi none => slV P t (s.ev x) (lo.map s.ev) (hi.map s.ev)
  | .load t x => match s.ev x with | .el _ _ xs i off => (xs[i]?).bind fun y => y.cs.bind fun cs => ldCells P t cs off | _ => none
  | .call { callee := .builtin .len, args, argTypes } => match args.toList, argTypes.toList with | [x], [t] => lenV P t (s.ev x) | _, _ => none
  | .call { callee := .builtin .unsafeSliceData, args, .. } => match args.toList with | [x] => sdV (s.ev x) | _ => none
  | .call { callee := .builtin .max, args, .. } => match args.toList with | [x, y] => minmaxV true (s.ev x) (s.ev y) | _ => none
  | .call { callee := .builtin .min, args, .. } => match args.toList with | [x, y] => minmaxV false (s.ev x) (s.ev y) | _ => none
  | _ => none

def isC : V → Bool
  | .c _ => true
  | _ => false

/-- A pointer turned to unsafe.Pointer or back, at the head of a variable of type e of n cells. -/
def ptrOk (P : Program) (src dst e : TypeId) (n off : Nat) : Bool :=
  match P.underlying src, P.underlying dst with
  | some (.pointer t), some .unsafePointer => (match P.info? t with | some j => decide (j.size ≠ 0) && decide (off < n) | none => false)
  | some .unsafePointer, some (.pointer u) => (P.info? u).isSome && liesAt P P.depth e (n / P.cellsOf e) off u 1
  | _, _ => false
def unsafeV (P : Program) (s : St) (src dst : TypeId) (x : V) : Option V :=
  match x with
  | .ref b off => (s.bx b).bind fun y => if ptrOk P src dst y.1 y.2.length off = true then some (.ref b off) else none
  | _ => none

/-- The operations that make or write memory. -/
def xv (P : Program) (s : St) (op : Op) : Option (V × St) :=
  match op with
  | .alloc e => allocV P s e
  | .box e x => boxV s e (s.ev x)
  | .buildSlice t len parts => buildSliceV P s t len (parts.toList.map fun p => (p.1, s.ev p.2))
  | .store t x y => match s.ev x with
    | .ref b off => (storeB P s t b off (s.ev y)).map fun s' => (.top, s')
    | .el (.own id _) k xs i off => (storeE P s t id k xs i off (s.ev y)).map fun s' => (.top, s')
    | _ => none
  | .makeSlice t l c => makeV P s t (s.ev l) (s.ev c)
  | .convert src dst x => (strBytes P src dst (s.ev x)).map fun r => (r, s)
  | .call { callee := .builtin .append, args, argTypes } => match args.toList, argTypes.toList with | [x, y], [t, t2] => appendV P s t t2 (s.ev x) (s.ev y) | _, _ => none
  | _ => none

/-- The operations behind which an own array is written no more. -/
def zv (P : Program) (s : St) (op : Op) : Option (V × St) :=
  match op with
  | .slice t x lo hi none => match s.ev x with
    | .sl (.own id _) k xs => if (lo.map s.ev).all isC && (hi.map s.ev).all isC then sliceOwn P s t id k xs (lo.map s.ev) (hi.map s.ev) else none
    | _ => none
  | .convert src dst x => sameSl P s src dst (s.ev x)
  | .call { callee := .builtin .unsafeString, args, argTypes } => match args.toList, argTypes.toList with | [x, n], [pt, _] => usV P s pt (s.ev x) (s.ev n) | _, _ => none
  | _ => none

def rv (P : Program) (s : St) (op : Op) : Option V :=
  match op with
  | .load t x => match s.ev x with | .ref b off => loadB P s t b off | _ => none
  | .convert src dst x => unsafeV P s src dst (s.ev x)
  | _ => none

def optK (x : Option (V × St)) (d : Option Nat) (k : Kd) (K : Kd → St → Prop) : Prop :=
  match x with
  | some (r, s') => K k (s'.put d r)
  | none => False

def optQ (x : Option V) (s : St) (d : Option Nat) (l : List V) (K : Kd → St → Prop) : Prop :=
  match x with
  | some r => K (kq l r) (s.put d r)
  | none => False

def optR (x : Option V) (s : St) (d : Option Nat) (K : Kd → St → Prop) : Prop :=
  match x with
  | some r => K .r (s.put d r)
  | none => False

/-- One operation, its guard aside. -/
def stepW (P : Program) [Tb P] (s : St) (o : Oper) (K : Kd → St → Prop) : Prop :=
  match o.op with
  | .call { callee := .value f, args, .. } => callW P (s.ev f) args.toList o.dst s K
  | op => optQ (qv P s op) s o.dst (op.operands.toList.map s.ev) K ∨ optR (rv P s op) s o.dst K ∨ optK (xv P s op) o.dst .x K ∨ optK (zv P s op) o.dst .z K

section
variable {P : Program} [Tb P] {C : Cx} {s : St} {L L' : Lay} {a : Act} {w w' : World}

/-- What an operation comes to in the model. -/
def Does (P : Program) (o : Oper) (a : Act) (w : World) (u : Value) (w' : World) : Prop :=
  (execOp a.eval o).run P w = .ok (.value u) w' ∨ ((execOp a.eval o).run P w = .ok .skip w' ∧ u = undef)

theorem Does.wp {o : Oper} {u : Value} {next : Act → World → Prop} {Q : Exit → Act → World → Prop} (h : Does P o a w u w') (hn : next (a.put o.dst u) w') : o.wp P a w next Q := by
  unfold Oper.wp
  rcases h with h | ⟨h, rfl⟩ <;> rw [h] <;> exact hn

theorem evs (S : Sim C s L a w) (l : List Operand) : Reps L w (l.map s.ev) (l.map a.eval) := by
  induction l with
  | nil => rfl
  | cons x xs ih => exact ⟨_, _, rfl, S.ev x, ih⟩

theorem opt_ev (S : Sim C s L a w) (o : Option Operand) : o.map s.ev = none ∧ o.map a.eval = none ∨ ∃ v u, o.map s.ev = some v ∧ o.map a.eval = some u ∧ Rep L w v u := by
  cases o with
  | none => exact .inl ⟨rfl, rfl⟩
  | some x => exact .inr ⟨_, _, rfl, rfl, S.ev x⟩

theorem qv_does {o : Oper} {r : V} (h : qv P s o.op = some r) (S : Sim C s L a w) : ∃ u, Does P o a w u w ∧ Rep L w r u := by
  obtain ⟨dst, op, type, pos, after, guard⟩ := o
  simp only at h
  unfold qv at h
  split at h
  · simp only [Option.some.injEq] at h; subst h
    exact ⟨_, .inl rfl, S.ev _⟩
  · simp only [Option.some.injEq] at h; subst h
    exact ⟨_, .inl rfl, S.ev _⟩
  · rename_i c x y
    split at h
    · rename_i b hb
      simp only [Option.some.injEq] at h; subst h
      have hc := S.ev c
      rw [hb] at hc
      simp only [Rep] at hc
      refine ⟨if b then a.eval x else a.eval y, .inl ?_, pickV_rep (S.ev x) (S.ev y)⟩
      simp only [execOp, hc, asBool, Sem.run_bind, Sem.run_pure, Result.andThen_ok]
    · cases h
  · rename_i op t x y yt
    obtain ⟨u, h1, h2⟩ := binV_run h (S.ev x) (S.ev y) x y
    exact ⟨u, .inl (by simp only [execOp]; rw [Sem.run_bind]; rw [h1]; rfl), h2⟩
  · rename_i op t x
    obtain ⟨u, h1, h2⟩ := unV_run (P := P) h (S.ev x)
    exact ⟨u, .inl (by simp only [execOp, Sem.run_bind, h1, Result.andThen_ok, Sem.run_pure]), h2⟩
  · rename_i src dst' x
    obtain ⟨u, h1, h2⟩ := convV_run h (S.ev x)
    exact ⟨u, .inl (by simp only [execOp, Sem.run_bind, h1, Result.andThen_ok, Sem.run_pure]), h2⟩
  · rename_i x i
    unfold exV at h
    split at h
    · rename_i vs hvs
      have hx := S.ev x
      rw [hvs] at hx
      obtain ⟨ar, har, hr⟩ := hx
      obtain ⟨u, h1, h2⟩ := hr.get h
      refine ⟨u, .inl ?_, h2⟩
      simp only [Array.getElem?_toList] at h1
      simp only [execOp, har, Instr.extract, h1, Sem.run_bind, Sem.run_pure, Result.andThen_ok]
    · cases h
  · rename_i t x f
    obtain ⟨u, h1, h2⟩ := fieldV_run h (S.ev x)
    exact ⟨u, .inl (by simp only [execOp, Sem.run_bind, h1, Result.andThen_ok, Sem.run_pure]), h2⟩
  · rename_i t x i
    obtain ⟨u, h1, h2⟩ := ixV_run h (S.ev x) (S.ev i)
    exact ⟨u, .inl (by simp only [execOp, Sem.run_bind, h1, Result.andThen_ok, Sem.run_pure]), h2⟩
  · rename_i t x i
    obtain ⟨u, h1, h2⟩ := iaV_run h (S.ev x) (S.ev i)
    exact ⟨u, .inl (by simp only [execOp, Sem.run_bind, h1, Result.andThen_ok, Sem.run_pure]), h2⟩
  · rename_i t x f
    obtain ⟨u, h1, h2⟩ := faV_run h (S.ev x)
    exact ⟨u, .inl (by simp only [execOp, Sem.run_bind, h1, Result.andThen_ok, Sem.run_pure]), h2⟩
  · rename_i x
    have hx := S.ev x
    split at h
    · rename_i b o hb
      simp only [Option.some.injEq] at h; subst h
      rw [hb] at hx
      obtain ⟨g, h1, h2⟩ := hx
      exact ⟨_, .inl (by simp only [execOp, h2]; rfl), g, h1, rfl⟩
    · rename_i t k xs i o hb
      simp only [Option.some.injEq] at h; subst h
      rw [hb] at hx
      have hx' := hx
      obtain ⟨g, o', cells, h2, _⟩ := hx
      exact ⟨_, .inl (by simp only [execOp, h2]; rfl), h2 ▸ hx'⟩
    · rename_i f fs cs hb
      simp only [Option.some.injEq] at h; subst h
      rw [hb] at hx
      have hx' := hx
      obtain ⟨a1, b1, h2, _⟩ := hx
      exact ⟨_, .inl (by simp only [execOp, h2]; rfl), h2 ▸ hx'⟩
    · cases h
  · rename_i f fs cs
    simp only [Option.some.injEq] at h; subst h
    exact ⟨_, .inl rfl, _, _, rfl, by simpa using evs S fs.toList, by simpa using evs S cs.toList⟩
  · rename_i t parts
    obtain ⟨u, h1, h2⟩ := buildV_run (parts := parts) s.ev a.eval S.ev h
    exact ⟨u, .inl (by simp only [execOp, Sem.run_bind, h1, Result.andThen_ok, Sem.run_pure]), h2⟩
  · rename_i t x lo hi
    obtain ⟨u, h1, h2⟩ := slV_run h (S.ev x) (opt_ev S lo) (opt_ev S hi)
    exact ⟨u, .inl (by simp only [execOp, Sem.run_bind, Option.map_none, h1, Result.andThen_ok, Sem.run_pure]), h2⟩
  · rename_i t x
    split at h
    · rename_i tg k xs i off hx
      simp only [Option.bind_eq_some_iff] at h
      obtain ⟨y, hy, cs, hcs, h⟩ := h
      have hr := S.ev x
      rw [hx] at hr
      obtain ⟨u, h1, h2⟩ := ldEl_run hr hy hcs h
      exact ⟨u, .inl (by simp only [execOp, Sem.run_bind, h1, Result.andThen_ok, Sem.run_pure]), h2⟩
    · cases h
  · rename_i args argTypes
    split at h
    · rename_i x t hx ht
      obtain ⟨u, h1, h2⟩ := lenV_run (ty := type) h (S.ev x)
      have e1 : args = #[x] := by apply Array.ext'; simpa using hx
      have e2 : argTypes = #[t] := by apply Array.ext'; simpa using ht
      subst e1; subst e2
      refine ⟨u, .inl ?_, h2⟩
      simp only [execOp, resolve, Sem.run_bind, Sem.run_pure, Result.andThen_ok, invoke, builtin, List.map_toArray, List.map_cons, List.map_nil]
      rw [h1]; rfl
    · cases h
  · rename_i args argTypes
    split at h
    · rename_i x hx
      obtain ⟨u, h1, h2⟩ := sdV_run (P := P) h (S.ev x) argTypes type
      have e1 : args = #[x] := by apply Array.ext'; simpa using hx
      subst e1
      refine ⟨u, .inl ?_, h2⟩
      simp only [execOp, resolve, Sem.run_bind, Sem.run_pure, Result.andThen_ok, invoke, builtin, List.map_toArray, List.map_cons, List.map_nil]
      rw [h1]; rfl
    · cases h
  · rename_i args argTypes
    split at h
    · rename_i x y hx
      obtain ⟨u, h1, h2⟩ := minmaxV_run (P := P) (at_ := argTypes) (ty := type) h (S.ev x) (S.ev y)
      have e1 : args = #[x, y] := by apply Array.ext'; simpa using hx
      subst e1
      refine ⟨u, .inl ?_, h2⟩
      simp only [execOp, resolve, Sem.run_bind, Sem.run_pure, Result.andThen_ok, invoke, builtin, List.map_toArray, List.map_cons, List.map_nil]
      simp only [if_true] at h1
      rw [h1]; rfl
    · cases h
  · rename_i args argTypes
    split at h
    · rename_i x y hx
      obtain ⟨u, h1, h2⟩ := minmaxV_run (P := P) (at_ := argTypes) (ty := type) h (S.ev x) (S.ev y)
      have e1 : args = #[x, y] := by apply Array.ext'; simpa using hx
      subst e1
      refine ⟨u, .inl ?_, h2⟩
      simp only [execOp, resolve, Sem.run_bind, Sem.run_pure, Result.andThen_ok, invoke, builtin, List.map_toArray, List.map_cons, List.map_nil]
      simp only [Bool.false_eq_true, if_false] at h1
      rw [h1]; rfl
    · cases h
  · cases h

theorem unsafeV_ok {src dst : TypeId} {x r : V} {ux : Value} (h : unsafeV P s src dst x = some r) (S : Sim C s L a w) (hx : Rep L w x ux) : ∃ u, (convert src dst ux).run P w = .ok u w ∧ Rep L w r u := by
  unfold unsafeV at h
  split at h
  · rename_i b off
    simp only [Option.bind_eq_some_iff, Option.ite_none_right_eq_some, Option.some.injEq] at h
    obtain ⟨⟨e, cs⟩, hb, h0, rfl⟩ := h
    obtain ⟨g, arr, hg, ha, hr⟩ := S.box b _ hb
    have hx' := hx
    obtain ⟨g', hg', rfl⟩ := hx
    rw [hg] at hg'
    simp only [Option.some.injEq] at hg'
    subst hg'
    have hl : arr.size = cs.length := by simpa using hr.length
    have hsh : w.shape? g = some (e, arr.size) := by simp [World.shape?, ha]
    unfold ptrOk at h0
    split at h0
    · rename_i t hs hd
      split at h0
      · rename_i j hj
        simp only [Bool.and_eq_true, decide_eq_true_eq] at h0
        exact ⟨_, Lib.run_to_unsafe w _ hs hd hj h0.1 hsh (by rw [hl]; exact h0.2), hx'⟩
      · cases h0
    · rename_i u hs hd
      simp only [Bool.and_eq_true] at h0
      obtain ⟨j, hj⟩ := Option.isSome_iff_exists.1 h0.1
      refine ⟨_, Lib.run_from_unsafe w _ hs hd hj hsh ?_, hx'⟩
      rw [hl]; exact h0.2
    · cases h0
  · cases h

theorem rv_does {o : Oper} {r : V} (h : rv P s o.op = some r) (S : Sim C s L a w) : ∃ u, Does P o a w u w ∧ Rep L w r u := by
  obtain ⟨dst, op, type, pos, after, guard⟩ := o
  simp only at h
  unfold rv at h
  split at h
  · rename_i t x
    split at h
    · rename_i b off hx
      have hr := S.ev x
      rw [hx] at hr
      obtain ⟨u, h1, h2⟩ := loadB_ok h S hr
      exact ⟨u, .inl (by simp only [execOp, Sem.run_bind, h1, Result.andThen_ok, Sem.run_pure]), h2⟩
    · cases h
  · rename_i src dst' x
    obtain ⟨u, h1, h2⟩ := unsafeV_ok h S (S.ev x)
    exact ⟨u, .inl (by simp only [execOp, Sem.run_bind, h1, Result.andThen_ok, Sem.run_pure]), h2⟩
  · cases h

theorem xv_does {o : Oper} {r : V} {s' : St} (h : xv P s o.op = some (r, s')) (S : Sim C s L a w) : ∃ u w' L', Does P o a w u w' ∧ Sim C s' L' a w' ∧ Rep L' w' r u := by
  obtain ⟨dst, op, type, pos, after, guard⟩ := o
  simp only at h
  unfold xv at h
  split at h
  · obtain ⟨u, w', L', h1, h2, h3⟩ := allocV_ok h S
    exact ⟨u, w', L', .inl (by simp only [execOp, Sem.run_bind, h1, Result.andThen_ok, Sem.run_pure]), h2, h3⟩
  · rename_i e x
    obtain ⟨u, w', L', h1, h2, h3⟩ := boxV_ok (P := P) (elem := e) h S (S.ev x)
    exact ⟨u, w', L', .inl (by simp only [execOp, Sem.run_bind, h1, Result.andThen_ok, Sem.run_pure]), h2, h3⟩
  · rename_i t len parts
    obtain ⟨u, w', L', h1, h2, h3⟩ := buildSliceV_ok (parts := parts) S h
    exact ⟨u, w', L', .inl (by simp only [execOp, Sem.run_bind, h1, Result.andThen_ok, Sem.run_pure]), h2, h3⟩
  · rename_i t x y
    have hx := S.ev x
    split at h
    · rename_i b off hb
      simp only [Option.map_eq_some_iff, Prod.mk.injEq] at h
      obtain ⟨s1, h, rfl, rfl⟩ := h
      rw [hb] at hx
      obtain ⟨w', h1, h2⟩ := storeB_ok h S hx (S.ev y)
      exact ⟨undef, w', L, .inr ⟨by simp only [execOp, Sem.run_bind, h1, Result.andThen_ok, Sem.run_pure], rfl⟩, h2, trivial⟩
    · rename_i id e k xs i off hb
      simp only [Option.map_eq_some_iff, Prod.mk.injEq] at h
      obtain ⟨s1, h, rfl, rfl⟩ := h
      rw [hb] at hx
      obtain ⟨w', h1, h2⟩ := storeE_ok h S hx (S.ev y)
      exact ⟨undef, w', L, .inr ⟨by simp only [execOp, Sem.run_bind, h1, Result.andThen_ok, Sem.run_pure], rfl⟩, h2, trivial⟩
    · cases h
  · rename_i t l c
    obtain ⟨u, w', L', h1, h2, h3⟩ := makeV_ok h S (S.ev l) (S.ev c)
    exact ⟨u, w', L', .inl (by simp only [execOp, Sem.run_bind, h1, Result.andThen_ok, Sem.run_pure]), h2, h3⟩
  · rename_i src dst' x
    simp only [Option.map_eq_some_iff, Prod.mk.injEq] at h
    obtain ⟨r', h, rfl, rfl⟩ := h
    obtain ⟨u, w', L', h1, h2, h3⟩ := strBytes_ok h S (S.ev x)
    exact ⟨u, w', L', .inl (by simp only [execOp, Sem.run_bind, h1, Result.andThen_ok, Sem.run_pure]), h2, h3⟩
  · rename_i args argTypes
    split at h
    · rename_i x y t t2 hx ht
      obtain ⟨u, w', L', h1, h2, h3⟩ := appendV_ok (ty := type) h S (S.ev x) (S.ev y)
      have e1 : args = #[x, y] := by apply Array.ext'; simpa using hx
      have e2 : argTypes = #[t, t2] := by apply Array.ext'; simpa using ht
      subst e1; subst e2
      refine ⟨u, w', L', .inl ?_, h2, h3⟩
      simp only [execOp, resolve, Sem.run_bind, Sem.run_pure, Result.andThen_ok, invoke, builtin, List.map_toArray, List.map_cons, List.map_nil]
      rw [h1]; rfl
    · cases h
  · cases h

theorem zv_does {o : Oper} {r : V} {s' : St} (h : zv P s o.op = some (r, s')) (S : Sim C s L a w) : ∃ u w' L', Does P o a w u w' ∧ Sim C s' L' a w' ∧ Rep L' w' r u := by
  obtain ⟨dst, op, type, pos, after, guard⟩ := o
  simp only at h
  unfold zv at h
  split at h
  · rename_i t x lo hi
    split at h
    · rename_i id e k xs hb
      simp only [Option.ite_none_right_eq_some, Bool.and_eq_true] at h
      obtain ⟨⟨h1, h2⟩, h⟩ := h
      have hx := S.ev x
      rw [hb] at hx
      have isC_of : ∀ (o : Option Operand), (o.map s.ev).all isC = true → ∀ x, o = some x → ∃ u, s.ev x = .c u := by
        rintro o ho x rfl
        simp only [Option.map_some, Option.all_some] at ho
        generalize s.ev x = v at ho
        cases v <;> simp only [isC, Bool.false_eq_true] at ho
        exact ⟨_, rfl⟩
      obtain ⟨u, L', h3, h4, h5⟩ := sliceOwn_ok h S hx (isC_of lo h1) (isC_of hi h2)
      exact ⟨u, w, L', .inl (by simp only [execOp, Sem.run_bind, Option.map_none, h3, Result.andThen_ok, Sem.run_pure]), h4, h5⟩
    · cases h
  · rename_i src dst' x
    obtain ⟨u, w', L', h1, h2, h3⟩ := sameSl_ok h S (S.ev x)
    exact ⟨u, w', L', .inl (by simp only [execOp, Sem.run_bind, h1, Result.andThen_ok, Sem.run_pure]), h2, h3⟩
  · rename_i args argTypes
    split at h
    · rename_i x n pt it hx ht
      obtain ⟨u, w', L', h1, h2, h3⟩ := usV_ok (it := it) (ty := type) h S (S.ev x) (S.ev n)
      have e1 : args = #[x, n] := by apply Array.ext'; simpa using hx
      have e2 : argTypes = #[pt, it] := by apply Array.ext'; simpa using ht
      subst e1; subst e2
      refine ⟨u, w', L', .inl ?_, h2, h3⟩
      simp only [execOp, resolve, Sem.run_bind, Sem.run_pure, Result.andThen_ok, invoke, builtin, List.map_toArray, List.map_cons, List.map_nil]
      rw [h1]; rfl
    · cases h
  · cases h

theorem ownFree_append {l l' : List V} : ownFree (l ++ l') = (ownFree l && ownFree l') := by
  simp [ownFree, anyL_append]
theorem ownFree_mem {l : List V} (h : ownFree l = true) : ∀ v ∈ l, ownFree [v] = true := by
  induction l with
  | nil => intro v hv; cases hv
  | cons x xs ih =>
    simp only [ownFree, V.anyL, Bool.not_eq_eq_eq_not, Bool.not_true, Bool.or_eq_false_iff] at h
    intro v hv
    rcases List.mem_cons.1 hv with rfl | hv
    · simp [ownFree, V.anyL, h.1]
    · exact ih (by simp [ownFree, h.2]) v hv
theorem Reps.of {l : List V} {us : List Value} (h : Reps L w l us) (hf : ∀ v ∈ l, ∀ u, Rep L w v u → Rep L' w' v u) : Reps L' w' l us := by
  induction l generalizing us with
  | nil => exact h
  | cons x xs ih => obtain ⟨u, r, rfl, h2, h3⟩ := h; exact ⟨u, r, rfl, hf x (by simp) u h2, ih h3 (fun v hv => hf v (by simp [hv]))⟩

theorem enters_run {f : FuncId} (h : enters P f = true) (args : Array Value) : (callFunc f args).run P w = .ok (.enter f args) w := by
  unfold enters at h
  split at h
  · rename_i fn hf
    simp only [Bool.and_eq_true, Bool.not_eq_eq_eq_not, Bool.not_true] at h
    have hn : ¬ fn.name = "runtime.NumGoroutine" := by simpa using h.1
    have hb : ¬ fn.body = none := fun e => by rw [e] at h; simp at h
    simp [callFunc, hf, hn, hb]
  · cases h

/-- One operation is carried out. -/
theorem stepW_sound {o : Oper} {K : Kd → St → Prop} {next : Act → World → Prop} {Q : Exit → Act → World → Prop} (h : stepW P s o K) (hT : Tb.T P C.w0) (S : Sim C s L a w) (hd : ∀ t, o.dst = some t → t < C.n)
    (hn : ∀ κ s' L' a' w', K κ s' → Sim C s' L' a' w' → next a' w') : o.wp P a w next Q := by
  unfold stepW at h
  split at h
  · rename_i f args argTypes heq
    unfold callW at h
    split at h
    · rename_i g fs cs hf
      rcases h with h | ⟨s1, r, hz, hK⟩
      case inr =>
        have hfv := S.ev f
        rw [hf] at hfv
        obtain ⟨af, ac, hfe, hrf, hrc⟩ := hfv
        have hargs : Reps L w (fs ++ args.toList.map s.ev ++ cs) (af.toList ++ args.toList.map a.eval ++ ac.toList) := (hrf.append (evs S args.toList)).append hrc
        have e1 : (af.toList ++ args.toList.map a.eval ++ ac.toList).toArray = af ++ args.map a.eval ++ ac := by
          apply Array.ext'; simp
        rcases hz C L a w _ hT S hargs with ⟨hen, hcall⟩ | ⟨u, w', L', hrun, S2, hr2⟩
        · rw [e1] at hcall
          have hexec : (execOp a.eval o).run P w = .ok (.enter g (af ++ args.map a.eval ++ ac)) w := by
            simp only [execOp, heq, resolve, hfe, Deferred.ofValue, Sem.run_bind, Sem.run_pure, Result.andThen_ok, invoke]
            exact enters_run hen _
          unfold Oper.wp
          rw [hexec]
          simp only [Oper.upon]
          refine hcall.mono ?_
          rintro e w' ⟨u, L2, rfl, S2, hr2⟩
          exact hn _ _ _ _ _ hK (S2.put hr2 hd)
        · rw [e1] at hrun
          have hexec : (execOp a.eval o).run P w = .ok (.value u) w' := by
            simp only [execOp, heq, resolve, hfe, Deferred.ofValue, Sem.run_bind, Sem.run_pure, Result.andThen_ok, invoke]
            exact hrun
          unfold Oper.wp
          rw [hexec]
          simp only [Oper.upon]
          exact hn _ _ _ _ _ hK (S2.put hr2 hd)
      obtain ⟨ids, r, hg, hown, href, hrr, hof, hK⟩ := h
      have hfv := S.ev f
      rw [hf] at hfv
      obtain ⟨af, ac, hfe, hrf, hrc⟩ := hfv
      obtain ⟨L1, S1, hfree⟩ := S.freezeAll ids
      rw [ownFree_append, Bool.and_eq_true] at hown
      have hrf' := hrf.of (fun v hv u h => hfree v u (ownFree_mem hown.1 v hv) h)
      have hrc' := hrc.of (fun v hv u h => hfree v u (ownFree_mem hown.2 v hv) h)
      have hargs : Reps L1 w (fs ++ args.toList.map (s.freezeAll ids).ev ++ cs) (af.toList ++ args.toList.map a.eval ++ ac.toList) := (hrf'.append (evs S1 args.toList)).append hrc'
      have hof' : (ownFree (fs ++ args.toList.map (s.freezeAll ids).ev ++ cs) || r.flat) = true := by
        rw [ownFree_append, ownFree_append, hown.1, hown.2]
        simpa using hof
      have hcall := call_step hT S1 hargs hg href hrr hof'
      have hexec : (execOp a.eval o).run P w = .ok (.enter g (af ++ args.map a.eval ++ ac)) w := by
        simp only [execOp, heq, resolve, hfe, Deferred.ofValue, Sem.run_bind, Sem.run_pure, Result.andThen_ok, invoke]
        exact enters_run hg.1 _
      unfold Oper.wp
      rw [hexec]
      simp only [Oper.upon]
      have e1 : (af.toList ++ args.toList.map a.eval ++ ac.toList).toArray = af ++ args.map a.eval ++ ac := by
        apply Array.ext'; simp
      rw [e1] at hcall
      refine hcall.mono ?_
      rintro e w' ⟨u, L2, rfl, S2, hr2⟩
      rw [freezeAll_nid] at S2 hr2
      exact hn _ _ _ _ _ hK (S2.put hr2 hd)
    · cases h
  · rcases h with h | h | h | h
    · unfold optQ at h
      split at h
      · rename_i r hr
        obtain ⟨u, h1, h2⟩ := qv_does hr S
        exact h1.wp (hn _ _ _ _ _ h (S.put h2 hd))
      · cases h
    · unfold optR at h
      split at h
      · rename_i r hr
        obtain ⟨u, h1, h2⟩ := rv_does hr S
        exact h1.wp (hn _ _ _ _ _ h (S.put h2 hd))
      · cases h
    · unfold optK at h
      split at h
      · rename_i r s' hr
        obtain ⟨u, w', L', h1, h2, h3⟩ := xv_does hr S
        exact h1.wp (hn _ _ _ _ _ h (h2.put h3 hd))
      · cases h
    · unfold optK at h
      split at h
      · rename_i r s' hr
        obtain ⟨u, w', L', h1, h2, h3⟩ := zv_does hr S
        exact h1.wp (hn _ _ _ _ _ h (h2.put h3 hd))
      · cases h

/-! ### A region in the text's order -/
def guardV (s : St) (dsts : List (Option Nat)) (j : Nat) : Option V :=
  match dsts[j]? with
  | some (some d) => some (s.env d)
  | _ => none

def wpL (P : Program) [Tb P] (dsts : List (Option Nat)) (K : St → Prop) : List Oper → St → Prop
  | [], s => K s
  | o :: rest, s =>
    match o.guard with
    | none => stepW P s o (fun _ => wpL P dsts K rest)
    | some (j, want) => match guardV s dsts j with
      | some (.c (.bool b)) => if b = want then stepW P s o (fun _ => wpL P dsts K rest) else wpL P dsts K rest (s.put o.dst (.c undef))
      | some (.c _) => wpL P dsts K rest (s.put o.dst (.c undef))
      | _ => False

theorem guard_yielded {ops : Array Oper} {j : Nat} {b : Bool} (S : Sim C s L a w) (h : guardV s (ops.toList.map (·.dst)) j = some (.c (.bool b))) : yielded ops a.tmps j = some b := by
  unfold guardV at h
  split at h
  · rename_i d hd
    simp only [Option.some.injEq] at h
    simp only [List.getElem?_map, Option.map_eq_some_iff] at hd
    obtain ⟨o, ho, hod⟩ := hd
    simp only [Array.getElem?_toList] at ho
    have he := S.env d
    rw [h] at he
    simp only [Rep] at he
    have : a.tmps[d]? = some (.bool b) := by
      rcases Nat.lt_or_ge d a.tmps.size with hl | hl
      · simp only [Array.getD_eq_getD_getElem?, Array.getElem?_eq_getElem hl, Option.getD_some] at he ⊢
        rw [he]
      · simp [Array.getD_eq_getD_getElem?, Array.getElem?_eq_none hl, undef] at he
    simp [yielded, ho, hod, this]
  · cases h

theorem guard_none {ops : Array Oper} {j : Nat} {v : Value} (S : Sim C s L a w) (h : guardV s (ops.toList.map (·.dst)) j = some (.c v)) (hv : ∀ b, v ≠ .bool b) : yielded ops a.tmps j = none := by
  unfold guardV at h
  split at h
  · rename_i d hd
    simp only [Option.some.injEq] at h
    simp only [List.getElem?_map, Option.map_eq_some_iff] at hd
    obtain ⟨o, ho, hod⟩ := hd
    simp only [Array.getElem?_toList] at ho
    have he := S.env d
    rw [h] at he
    simp only [Rep] at he
    simp only [yielded, ho, hod, Option.bind_some]
    rcases Nat.lt_or_ge d a.tmps.size with hl | hl
    · simp only [Array.getD_eq_getD_getElem?, Array.getElem?_eq_getElem hl, Option.getD_some] at he
      simp only [Array.getElem?_eq_getElem hl, he]
      cases v <;> first | rfl | exact absurd rfl (hv _)
    · simp [Array.getElem?_eq_none hl]
  · cases h

theorem wpL_sound (hT : Tb.T P C.w0) {ops : Array Oper} {K : St → Prop} {Q : Exit → Act → World → Prop} (hK : ∀ s' L' a' w', K s' → Sim C s' L' a' w' → Q .normal a' w') (l : List Oper) (hl : ∀ o ∈ l, ∀ t, o.dst = some t → t < C.n) :
    ∀ {s : St} {L : Lay} {a : Act} {w : World}, wpL P (ops.toList.map (·.dst)) K l s → Sim C s L a w → wpList P ops Q l a w := by
  induction l with
  | nil => intro s L a w h S; exact hK s L a w h S
  | cons o rest ih =>
    intro s L a w h S
    have hd := hl o (by simp)
    have ih' := @ih (fun o ho => hl o (by simp [ho]))
    unfold wpList
    unfold wpL at h
    split at h
    · rename_i hg
      rw [if_pos (by simp [Region.wanted, hg])]
      exact .inl (stepW_sound h hT S hd (fun _ s' L' a' w' h' S' => ih' h' S'))
    · rename_i j want hg
      split at h
      · rename_i b hb
        have hy := guard_yielded S hb
        split at h
        · rename_i hbw
          rw [if_pos (by simp [Region.wanted, hg, hy, hbw])]
          exact .inl (stepW_sound h hT S hd (fun _ s' L' a' w' h' S' => ih' h' S'))
        · rename_i hbw
          rw [if_neg (by simp [Region.wanted, hg, hy, hbw])]
          exact ih' h (S.put (v := .c undef) rfl hd)
      · rename_i v hnb hb
        rw [if_neg (by simp [Region.wanted, hg, guard_none S hb (fun b e => hnb b (by rw [e]))])]
        exact ih' h (S.put (v := .c undef) rfl hd)
      · cases h
end
end Go.Pg
end

section
/-
  The pure layer: code, loops, and how a contract is got from a function's body.
-/
namespace Go.Pg
open Go
set_option linter.unusedSectionVars false

/-- All temporaries that are written exist. -/
def opsFit (n : Nat) (ops : List Oper) : Bool := ops.all fun o => match o.dst with | some d => decide (d < n) | none => true
def fits (n : Nat) : Code → Bool
  | .region _ ops _ => opsFit n ops.toList
  | .seq x y => fits n x && fits n y
  | .cond _ x y => fits n x && fits n y
  | .block _ x => fits n x
  | .loop x => fits n x
  | .rangeFunc .. => false
  | .scope _ => false
  | .refuse _ => true
  | _ => true

/-- One state says less than another. -/
def Weak (s s' : St) : Prop := ∀ (C : Cx) (L : Lay) (a : Act) (w : World), Sim C s L a w → ∃ L', Sim C s' L' a w

def thenQ (k : St → Prop) (Q : Exit → St → Prop) : Exit → St → Prop
  | .normal, s => k s
  | e, s => Q e s

def inB (id : Nat) (Q : Exit → St → Prop) : Exit → St → Prop
  | .exit id', s => if id' = id then Q .normal s else Q (.exit id') s
  | e, s => Q e s

def condK (v : V) (x y : Prop) : Prop :=
  match v with
  | .c (.bool b) => if b = true then x else y
  | _ => False

/-- A loop: what holds at every round's head, and a number that goes down. -/
def LoopW (body : (Exit → St → Prop) → St → Prop) (Q : Exit → St → Prop) (s : St) : Prop :=
  ∃ (I : Nat → St → Prop) (n : Nat), (∃ s0, Weak s s0 ∧ I n s0) ∧ ∀ n s1, I n s1 → body (thenQ (fun s2 => ∃ m s3, m < n ∧ Weak s2 s3 ∧ I m s3) Q) s1

/-- A region that draws its order: laid later; before which regions a state may forget. -/
structure Dw where
  d : (P : Program) → [Tb P] → Array Oper → (St → Prop) → St → Prop
  cuts : List Nat
/-- The first region of a piece of code. -/
def fstR : Code → Option Nat
  | .region id _ _ => some id
  | .seq x _ => fstR x
  | .block _ x => fstR x
  | .loop x => fstR x
  | _ => none
def cutAt (cuts : List Nat) (r : Option Nat) : Bool := match r with | some n => cuts.contains n | none => false
def weakly (k : St → Prop) (s : St) : Prop := ∃ s', Weak s s' ∧ k s'

def wpS (D : Dw) (P : Program) [Tb P] : Code → (Exit → St → Prop) → St → Prop
  | .skip, Q, s => Q .normal s
  | .region _ ops draw, Q, s => if draw = true then D.d P ops (Q .normal) s else wpL P (ops.toList.map (·.dst)) (Q .normal) ops.toList s
  | .seq x y, Q, s => wpS D P x (thenQ (bif cutAt D.cuts (fstR y) then weakly (fun s' => wpS D P y Q s') else fun s' => wpS D P y Q s') Q) s
  | .cond c x y, Q, s => condK (s.ev c) (wpS D P x Q s) (wpS D P y Q s)
  | .block id x, Q, s => wpS D P x (inB id Q) s
  | .loop x, Q, s => LoopW (fun Q s => wpS D P x Q s) Q s
  | .exit id, Q, s => Q (.exit id) s
  | .label _, Q, s => Q .normal s
  | .goto l, Q, s => Q (.goto l) s
  | .ret, Q, s => Q .ret s
  | _, _, _ => False

def Lift (C : Cx) (Q : Exit → St → Prop) : Exit → Act → World → Prop := fun e a w => ∃ s L, Q e s ∧ Sim C s L a w

/-- What a rule for regions that draw their order must bear. -/
def DrawOk (P : Program) [Tb P] (D : Dw) : Prop :=
  ∀ (id : Nat) (C : Cx) (ops : Array Oper) (K : St → Prop) (Q : Exit → St → Prop) (s : St) (L : Lay) (a : Act) (w : World), Tb.T P C.w0 → opsFit C.n ops.toList = true → Q .normal = K → D.d P ops K s → Sim C s L a w → (Code.region id ops true).wp P (Lift C Q) a w

theorem opsFit_all {n : Nat} {ops : List Oper} (h : opsFit n ops = true) : ∀ o ∈ ops, ∀ t, o.dst = some t → t < n := by
  intro o ho t ht
  have := List.all_eq_true.1 h o ho
  rw [ht] at this
  simpa using this

section
variable {P : Program} [Tb P] {D : Dw} {C : Cx}

theorem wpS_sound (hD : DrawOk P D) (hT : Tb.T P C.w0) (c : Code) : ∀ {Q : Exit → St → Prop} {s : St} {L : Lay} {a : Act} {w : World}, wpS D P c Q s → fits C.n c = true → Sim C s L a w → c.wp P (Lift C Q) a w := by
  induction c with
  | skip => intro Q s L a w h _ S; exact wp_skip ⟨s, L, h, S⟩
  | region id ops draw =>
    intro Q s L a w h hf S
    simp only [wpS] at h
    cases draw with
    | true => exact hD id C ops (Q .normal) Q s L a w hT hf rfl h S
    | false =>
      simp only [Bool.false_eq_true, if_false] at h
      exact wp_region_list (wpL_sound hT (K := Q .normal) (fun s' L' a' w' h' S' => ⟨s', L', h', S'⟩) ops.toList (opsFit_all hf) h S)
  | seq x y ihx ihy =>
    intro Q s L a w h hf S
    simp only [fits, Bool.and_eq_true] at hf
    refine wp_seq (Code.wp_mono ?_ (ihx h hf.1 S))
    rintro e a' w' ⟨s', L', h', S'⟩
    cases e with
    | normal =>
      simp only [thenQ] at h'
      cases hc : cutAt D.cuts (fstR y) with
      | true =>
        rw [hc] at h'
        obtain ⟨s2, hw, h2⟩ := h'
        obtain ⟨L2, S2⟩ := hw C L' a' w' S'
        exact ihy h2 hf.2 S2
      | false => rw [hc] at h'; exact ihy h' hf.2 S'
    | _ => exact ⟨s', L', h', S'⟩
  | cond c x y ihx ihy =>
    intro Q s L a w h hf S
    simp only [fits, Bool.and_eq_true] at hf
    simp only [wpS, condK] at h
    split at h
    · rename_i b hb
      have hc := S.ev c
      rw [hb] at hc
      simp only [Rep] at hc
      refine wp_cond hc ?_
      cases b with
      | true => exact ihx (by simpa using h) hf.1 S
      | false => exact ihy (by simpa using h) hf.2 S
    · cases h
  | block id x ih =>
    intro Q s L a w h hf S
    refine wp_block (Code.wp_mono ?_ (ih h hf S))
    rintro e a' w' ⟨s', L', h', S'⟩
    cases e with
    | exit id' =>
      simp only [inB] at h'
      simp only [Exit.inBlock]
      split at h'
      · rename_i hi; rw [if_pos hi]; exact ⟨s', L', h', S'⟩
      · rename_i hi; rw [if_neg hi]; exact ⟨s', L', h', S'⟩
    | _ => exact ⟨s', L', h', S'⟩
  | loop x ih =>
    intro Q s L a w h hf S
    obtain ⟨I, n, ⟨s0, hw0, h0⟩, hround⟩ := h
    obtain ⟨L0, S0⟩ := hw0 C L a w S
    have key : ∀ n s L a w, I n s → Sim C s L a w → ∀ (b : Frame) (k : List Item) (cs : List Frame),
        ∃ e a' w', Lift C Q e a' w' ∧ Arrives P (lone (b.at a (.code x :: .inLoop x :: k)) cs w) b k cs e a' w' := by
      intro n
      induction n using Nat.strongRecOn with
      | _ n ihn =>
        intro s L a w hI S b k cs
        obtain ⟨e, a₁, w₁, ⟨s1, L1, hq, S1⟩, harr⟩ := ih (hround n s hI) hf S b (.inLoop x :: k) cs
        cases e with
        | normal =>
          obtain ⟨m, s3, hlt, hw, hI3⟩ := hq
          obtain ⟨L3, S3⟩ := hw C L1 a₁ w₁ S1
          obtain ⟨e₂, a₂, w₂, hq₂, harr₂⟩ := ihn m hlt s3 L3 a₁ w₁ hI3 S3 b k cs
          exact ⟨e₂, a₂, w₂, hq₂, .of_steps (Steps.trans harr (.one step_inLoop)) harr₂⟩
        | exit id => exact ⟨_, a₁, w₁, ⟨s1, L1, hq, S1⟩, .pass (x := .inLoop x) rfl (fun _ _ => .inl (by simp)) harr⟩
        | goto l => exact ⟨_, a₁, w₁, ⟨s1, L1, hq, S1⟩, .pass (x := .inLoop x) rfl (fun _ _ => .inl (by simp)) harr⟩
        | ret => exact ⟨_, a₁, w₁, ⟨s1, L1, hq, S1⟩, .pass (x := .inLoop x) rfl (fun _ _ => .inl (by simp)) harr⟩
        | panic ch => exact ⟨_, a₁, w₁, ⟨s1, L1, hq, S1⟩, .pass (x := .inLoop x) rfl (fun _ _ => .inl (by simp)) harr⟩
        | outgrown => exact ⟨_, a₁, w₁, ⟨s1, L1, hq, S1⟩, .pass (x := .inLoop x) rfl (fun _ _ => .inl (by simp)) harr⟩
    intro b k cs
    obtain ⟨e, a', w', hq, harr⟩ := key n s0 L0 a w h0 S0 b k cs
    exact ⟨e, a', w', hq, .of_steps (.one step_loop) harr⟩
  | exit id => intro Q s L a w h _ S; exact wp_exit ⟨s, L, h, S⟩
  | label l => intro Q s L a w h _ S; exact wp_label ⟨s, L, h, S⟩
  | goto l => intro Q s L a w h _ S; exact wp_goto ⟨s, L, h, S⟩
  | ret => intro Q s L a w h _ S; exact wp_ret ⟨s, L, h, S⟩
  | rangeFunc => intro Q s L a w h; exact h.elim
  | scope => intro Q s L a w h; exact h.elim
  | refuse => intro Q s L a w h; exact h.elim

/-! ### From the body to the contract -/
def initE : List V → Nat → Nat → V
  | [], _ => fun _ => .top
  | x :: xs, k => upd (initE xs (k + 1)) k x
def initS (args : List V) : St := { env := initE args 0, bx := fun _ => none, nid := 0 }

/-- One result. -/
def resV (P : Program) (s : St) : ResultVar → Option V
  | .tmp t => some (s.env t)
  | .cell a t => match s.env a with | .ref b off => loadB P s t b off | _ => none

def retV (P : Program) (s : St) (rs : List ResultVar) : Option V :=
  match rs with
  | [r] => resV P s r
  | rs => (rs.mapM (resV P s)).map .tup

def Tag.notIn (l : List Nat) : Tag → Bool
  | .fz => false
  | .nn => false
  | .own id _ => !l.contains id
/-- The names in 'l', counted through. -/
def renT (l : List Nat) : Tag → Tag
  | .fz => .fz
  | .nn => .nn
  | .own id e => .own (l.idxOf id) e

def retQ (P : Program) (rs : List ResultVar) (r : V) : Exit → St → Prop := fun e s =>
  match e with
  | .normal | .ret => ∃ r0 l, retV P s rs = some r0 ∧ List.Nodup l ∧ r0.any (Tag.notIn l) (fun _ => true) false = false ∧ r0.map (renT l) id = r
  | _ => False

theorem initE_rep {L : Lay} {w : World} : ∀ (args : List V) (us : List Value) (k : Nat) (rest : List Value), Reps L w args us → ∀ (pre : List Value), pre.length = k → ∀ t, Rep L w (initE args k t) ((pre ++ us ++ rest).toArray.getD t undef) := by
  intro args
  induction args with
  | nil => intro us k rest _ pre _ t; trivial
  | cons x xs ih =>
    rintro us k rest ⟨u, r, rfl, h2, h3⟩ pre hk t
    simp only [initE, upd]
    split
    · rename_i ht
      subst ht
      have : (pre ++ (u :: r) ++ rest).toArray.getD t undef = u := by
        simp [Array.getD_eq_getD_getElem?, ← hk]
      rw [this]; exact h2
    · have := ih r (k + 1) rest h3 (pre ++ [u]) (by simp [hk]) t
      simpa using this

/-- One result, in the model. -/
def resE (a : Act) : ResultVar → Sem Value
  | .tmp t => pure (a.tmps.getD t undef)
  | .cell b t => do loadVar t (← asAddr (a.tmps.getD b undef))

theorem results_run {fn : Func} {s : St} {L : Lay} {a : Act} {w : World} {rs : List ResultVar} {r : V} (hrs : fn.results = rs.toArray) (h : retV P s rs = some r) (S : Sim C s L a w) :
    ∃ u, (results fn a.tmps).run P w = .ok u w ∧ Rep L w r u := by
  have one : ∀ x v, resV P s x = some v → ∃ u, (resE a x).run P w = .ok u w ∧ Rep L w v u := by
    intro x v hx
    cases x with
    | tmp t =>
      simp only [resV, Option.some.injEq] at hx
      subst hx
      exact ⟨_, rfl, S.env t⟩
    | cell b t =>
      simp only [resV] at hx
      split at hx
      · rename_i b' off hb
        have hr := S.env b
        rw [hb] at hr
        obtain ⟨u, h1, h2⟩ := loadB_ok hx S hr
        obtain ⟨g, h3, h4⟩ := hr
        refine ⟨u, ?_, h2⟩
        rw [h4] at h1
        simp only [resE, h4]
        simpa [Instr.loadAt, Instr.sureAddr, asAddr] using h1
      · cases hx
  have many : ∀ (l : List ResultVar) (vs : List V), l.mapM (resV P s) = some vs → ∃ us, (l.mapM (resE a)).run P w = .ok us w ∧ Reps L w vs us := by
    intro l
    induction l with
    | nil => intro vs h; simp at h; subst h; exact ⟨[], rfl, rfl⟩
    | cons x xs ih =>
      intro vs h
      simp only [List.mapM_cons, Option.bind_eq_bind, Option.bind_eq_some_iff, Option.pure_def, Option.some.injEq] at h
      obtain ⟨v, hv, vs', hvs, rfl⟩ := h
      obtain ⟨u, h1, h2⟩ := one x v hv
      obtain ⟨us, h3, h4⟩ := ih vs' hvs
      refine ⟨u :: us, ?_, u, us, rfl, h2, h4⟩
      rw [List.mapM_cons, Sem.run_bind, h1]
      simp only [Result.andThen_ok, Sem.run_bind, h3, Sem.run_pure]
  have hres : ∀ (us : List Value), (rs.mapM (resE a)).run P w = .ok us w →
      (results fn a.tmps).run P w = .ok (if h : us.toArray.size = 1 then us.toArray[0] else .tuple us.toArray) w := by
    intro us hus
    have e : results fn a.tmps = (do let vs ← rs.toArray.mapM (resE a); pure (if h : vs.size = 1 then vs[0] else .tuple vs)) := by
      unfold results
      rw [hrs]
      rfl
    rw [e, Array.mapM_eq_mapM_toList, Sem.run_bind, Sem.run_map, hus]
    rfl
  unfold retV at h
  split at h
  · rename_i x
    obtain ⟨u, h1, h2⟩ := one x r h
    refine ⟨u, ?_, h2⟩
    rw [hres [u] (by rw [List.mapM_cons, Sem.run_bind, h1]; rfl)]
    rfl
  · rename_i hne
    simp only [Option.map_eq_some_iff] at h
    obtain ⟨vs, hvs, rfl⟩ := h
    obtain ⟨us, h1, h2⟩ := many rs vs hvs
    have hl : us.toArray.size ≠ 1 := by
      have e1 := h2.length
      have e2 : vs.length = rs.length := by
        have : ∀ (l : List ResultVar) (vs : List V), l.mapM (resV P s) = some vs → vs.length = l.length := by
          intro l
          induction l with
          | nil => intro vs h; simp at h; simp [h]
          | cons x xs ih =>
            intro vs h
            simp only [List.mapM_cons, Option.bind_eq_bind, Option.bind_eq_some_iff, Option.pure_def, Option.some.injEq] at h
            obtain ⟨v, hv, vs', hvs, rfl⟩ := h
            simp [ih vs' hvs]
        exact this rs vs hvs
      simp only [List.size_toArray]
      intro h1
      rw [e1, e2] at h1
      match rs, h1, hne with
      | [x], _, hne => exact hne x rfl
    refine ⟨.tuple us.toArray, ?_, us.toArray, rfl, by simpa using h2⟩
    rw [hres us h1, dif_neg hl]

theorem idxOf_get (l : List Nat) (i : Nat) (h : i ∈ l) : l[l.idxOf i]? = some i := by
  induction l with
  | nil => cases h
  | cons x xs ih =>
    by_cases hx : x = i
    · subst hx; simp
    · have : i ∈ xs := by simpa [Ne.symm hx] using h
      rw [List.idxOf_cons]
      have hb : (x == i) = false := by simpa using hx
      rw [hb]
      simpa using ih this

theorem good_intro (hD : DrawOk P D) {f : FuncId} {fn : Func} {c : Code} {rs : List ResultVar} {args : List V} {r : V} (hf : P.funcs[f]? = some fn) (hb : fn.body = some c) (hrs : fn.results = rs.toArray) (hn : (fn.name == "runtime.NumGoroutine") = false)
    (hfit : fits fn.ntmps c = true) (hlen : args.length ≤ fn.ntmps) (h : wpS D P c (retQ P rs r) (initS args)) : Good P f args r := by
  refine ⟨by simp [enters, hf, hb, hn], fun A w cargs hT hA hargs => ?_⟩
  let C : Cx := { n := fn.ntmps, A0 := A, Wr := fun _ => False, w0 := w }
  have hl := hargs.length
  have S : Sim C (initS args) ⟨A, fun _ => none, fun _ => none⟩ { tmps := cargs.toArray ++ Array.replicate (fn.ntmps - cargs.toArray.size) undef, defers := [] } w := by
    refine ⟨rfl, by simp [C]; omega, fun t => ?_, fun _ => trivial, fun b cs h => by simp [initS] at h, ?_, Kp.refl _ _ _⟩
    · have := initE_rep args cargs 0 (List.replicate (fn.ntmps - cargs.length) undef) hargs [] rfl t
      have e : (cargs ++ List.replicate (fn.ntmps - cargs.length) undef).toArray = cargs.toArray ++ Array.replicate (fn.ntmps - cargs.toArray.size) undef := by
        apply Array.ext'; simp
      rw [List.nil_append, e] at this
      exact this
    · exact {
        nidO := fun _ _ h => by cases h
        nidB := fun _ _ h => by cases h
        own := fun _ _ h => by cases h
        boxW := fun _ _ h => by cases h
        injO := fun _ _ _ h => by cases h
        injB := fun _ _ _ h => by cases h
        dis := fun _ _ _ h => by cases h
        old := hA
        frz := fun g h => .inl h }
  refine calls_of_wp hf hb (Code.wp_mono ?_ (wpS_sound hD hT c h hfit S))
  rintro e a' w' ⟨s', L', hq, S'⟩
  have fin : (∃ r0 l, retV P s' rs = some r0 ∧ List.Nodup l ∧ r0.any (Tag.notIn l) (fun _ => true) false = false ∧ r0.map (renT l) id = r) → a'.defers = [] ∧ ∃ v, (results fn a'.tmps).run P w' = .ok v w' ∧ ∃ u L, Ending.returned v = .returned u ∧ Rep L w' r u ∧ Kp (fun _ => False) w.heap.size w w' ∧ ResLay A w w' L := by
    rintro ⟨r0, l, h1, hnd, h2, rfl⟩
    obtain ⟨u, h3, h4⟩ := results_run hrs h1 S'
    let L2 : Lay := { A := L'.A, own := fun j => (l[j]?).bind L'.own, box := fun _ => none }
    have K : Trans (Tag.notIn l) (fun _ => true) (renT l) id L' L2 w' w' := by
      refine ⟨rfl, fun g h => ⟨h, .of rfl⟩, fun i e hi g h => ⟨⟨rfl, ?_⟩, rfl⟩, fun b hb => by simp at hb⟩
      have hm : i ∈ l := by simpa [Tag.notIn] using hi
      simp only [L2, idxOf_get l i hm, Option.bind_some, h]
    refine ⟨S'.defers, u, h3, u, L2, rfl, h4.trans rfl K h2, S'.kp, ?_, ?_, ?_⟩
    · intro g hg
      rcases S'.wf.frz g hg with h | h | h
      · exact .inl h
      · exact .inr ⟨h, S'.wf.old g hg⟩
      · exact h.elim
    · intro j g hg
      simp only [L2, Option.bind_eq_some_iff] at hg
      obtain ⟨i, hi, hg⟩ := hg
      obtain ⟨h5, h6, h7⟩ := S'.wf.own i g hg
      exact ⟨h6.elim id (fun h => h.elim), h5, h7⟩
    · intro i j g hi hj
      simp only [L2, Option.bind_eq_some_iff] at hi hj
      obtain ⟨i', hi', hi⟩ := hi
      obtain ⟨j', hj', hj⟩ := hj
      have := S'.wf.injO i' j' g hi hj
      subst this
      have hil := (List.getElem?_eq_some_iff.1 hi').1
      exact (List.getElem?_inj hil hnd).1 (hi'.trans hj'.symm)
  cases e with
  | normal => exact fin hq
  | ret => exact fin hq
  | _ => exact hq.elim
end
end Go.Pg
end

section
/-
  The pure layer: what a state may forget at a loop's head; how the steps are reckoned.
-/
namespace Go.Pg
open Go

def notInB (m : List Nat) (b : Nat) : Bool := !m.contains b

/-- 'v' says less than 'v0', its names counted anew: 'l' the arrays', 'm' the variables'. -/
def Gen (l m : List Nat) (v0 v : V) : Prop :=
  v = .top ∨ (v0.any (Tag.notIn l) (notInB m) false = false ∧ v = v0.map (renT l) (fun b => m.idxOf b)) ∨ (v0 = .c (.slice none 0 0) ∧ ∃ t k, t.notNN = true ∧ v = .sl t k [])

def GenL (l m : List Nat) : List V → List V → Prop
  | [], [] => True
  | x :: xs, y :: ys => Gen l m x y ∧ GenL l m xs ys
  | _, _ => False

structure Keep (l m : List Nat) (s s' : St) : Prop where
  env : ∀ t, Gen l m (s.env t) (s'.env t)
  hd : ∀ t, Gen l m (s.hd t) (s'.hd t)
  bx : ∀ b cs, s'.bx b = some cs → ∃ b0 cs0, m[b]? = some b0 ∧ s.bx b0 = some (cs.1, cs0) ∧ GenL l m cs0 cs.2
  ndl : l.Nodup
  ndm : m.Nodup
  nidl : l.length ≤ s'.nid
  nidm : m.length ≤ s'.nid

theorem Keep.weak {l m : List Nat} {s s' : St} (H : Keep l m s s') : Weak s s' := by
  intro C L a w S
  let L' : Lay := { A := L.A, own := fun j => (l[j]?).bind L.own, box := fun j => (m[j]?).bind L.box }
  have K : Trans (Tag.notIn l) (notInB m) (renT l) (fun b => m.idxOf b) L L' w w := by
    refine ⟨rfl, fun g h => ⟨h, .of rfl⟩, fun i e hi g h => ⟨⟨rfl, ?_⟩, rfl⟩, fun b hb g h => ?_⟩
    · have hm : i ∈ l := by simpa [Tag.notIn] using hi
      simp only [L', idxOf_get l i hm, Option.bind_some, h]
    · have hm : b ∈ m := by simpa [notInB] using hb
      simp only [L', idxOf_get m b hm, Option.bind_some, h]
  have gen : ∀ v0 v u, Gen l m v0 v → Rep L w v0 u → Rep L' w v u := by
    rintro v0 v u (rfl | ⟨h1, rfl⟩ | ⟨rfl, t, k, hnn, rfl⟩) h
    · trivial
    · exact h.trans rfl K h1
    · simp only [Rep] at h
      subst h
      cases t with
      | fz => exact ⟨none, 0, [], rfl, rfl, by simp, .inl rfl⟩
      | nn => cases hnn
      | own id e => exact ⟨none, 0, [], rfl, rfl, .inl ⟨rfl, rfl, rfl⟩⟩
  have genL : ∀ l0 l1 us, GenL l m l0 l1 → Reps L w l0 us → Reps L' w l1 us := by
    intro l0
    induction l0 with
    | nil => intro l1 us h hr; cases l1 with | nil => exact hr | cons => exact h.elim
    | cons x xs ih =>
      intro l1 us h hr
      cases l1 with
      | nil => exact h.elim
      | cons y ys => obtain ⟨u, r, rfl, h2, h3⟩ := hr; exact ⟨u, r, rfl, gen _ _ _ h.1 h2, ih ys r h.2 h3⟩
  have W := S.wf
  refine ⟨L', S.defers, S.size, fun t => gen _ _ _ (H.env t) (S.env t), fun t => gen _ _ _ (H.hd t) (S.hid t), ?_, ?_, S.kp⟩
  · intro b cs h
    obtain ⟨b0, cs0, h1, h2, h3⟩ := H.bx b cs h
    obtain ⟨g, arr, h4, h5, h6⟩ := S.box b0 _ h2
    exact ⟨g, arr, by simp only [L', h1, Option.bind_some, h4], h5, genL _ _ _ h3 h6⟩
  · have lt : ∀ (x : List Nat) (f : Nat → Option Nat) j g, (x[j]?).bind f = some g → j < x.length ∧ ∃ i, x[j]? = some i ∧ f i = some g := by
      intro x f j g h
      simp only [Option.bind_eq_some_iff] at h
      obtain ⟨i, h1, h2⟩ := h
      exact ⟨(List.getElem?_eq_some_iff.1 h1).1, i, h1, h2⟩
    exact {
      nidO := fun j g h => by have := (lt l L.own j g h).1; have := H.nidl; omega
      nidB := fun j g h => by have := (lt m L.box j g h).1; have := H.nidm; omega
      own := fun j g h => by obtain ⟨_, i, _, h2⟩ := lt l L.own j g h; exact W.own i g h2
      boxW := fun j g h => by obtain ⟨_, i, _, h2⟩ := lt m L.box j g h; exact W.boxW i g h2
      injO := fun i j g hi hj => by
        obtain ⟨h0, i', h1, h2⟩ := lt l L.own i g hi
        obtain ⟨_, j', h3, h4⟩ := lt l L.own j g hj
        have := W.injO i' j' g h2 h4
        subst this
        exact (List.getElem?_inj h0 H.ndl).1 (h1.trans h3.symm)
      injB := fun i j g hi hj => by
        obtain ⟨h0, i', h1, h2⟩ := lt m L.box i g hi
        obtain ⟨_, j', h3, h4⟩ := lt m L.box j g hj
        have := W.injB i' j' g h2 h4
        subst this
        exact (List.getElem?_inj h0 H.ndm).1 (h1.trans h3.symm)
      dis := fun i j g hi hj => by
        obtain ⟨_, i', _, h2⟩ := lt l L.own i g hi
        obtain ⟨_, j', _, h4⟩ := lt m L.box j g hj
        exact W.dis i' j' g h2 h4
      old := W.old
      frz := W.frz }
end Go.Pg
end
