/-
  The pure layer: slices made, cut and written.
-/
import Derived.Test.YtkgebocldjhflaaPgMem
import Derived.Laws.MakeOwn
namespace Go.Pg
open Go

/-- An element type's zero. -/
def zelem (P : Program) (e : TypeId) : Option V := (tzero P e).bind fun z => if z.cells.toList.all Value.oneCell' = true then some (ofConst z) else none

theorem anyL_map_c (p : Tag → Bool) (q : Nat → Bool) (tp : Bool) (l : List Value) : V.anyL p q tp (l.map .c) = false := by
  induction l with
  | nil => rfl
  | cons x xs ih => simp [V.anyL, V.any, ih]

theorem free_ofConst (v : Value) : (ofConst v).free = true := by
  cases v <;> simp [ofConst, V.free, V.any, anyL_map_c]

/-- Cells of n elements z. -/
theorem cells_rep (z : Array Value) (n : Nat) : ((Array.range (n * z.size)).map (z[· % z.size]!)).toList = (List.replicate n z.toList).flatten := by
  induction n with
  | zero => simp [Array.range_zero']
  | succ n ih =>
    have e : (Array.range ((n + 1) * z.size)).toList = List.range (n * z.size) ++ (List.range z.size).map (n * z.size + ·) := by
      simp only [Array.toList_range]
      rw [Nat.add_mul, Nat.one_mul, List.range_add]
    simp only [Array.toList_map, Array.toList_range] at ih ⊢
    simp only [Array.toList_range] at e
    rw [e, List.map_append, ih, List.replicate_succ', List.flatten_append]
    congr 1
    simp only [List.map_map, List.flatten_cons, List.flatten_nil, List.append_nil]
    apply List.ext_getElem?
    intro j
    by_cases hj : j < z.size
    · simp [hj, Nat.mod_eq_of_lt hj]
    · simp [hj]

section
variable {P : Program} {C : Cx} {s : St} {L L' : Lay} {a : Act} {w w' : World}

theorem repE_replicate {v : V} {z : Value} (n : Nat) (hr : Rep L w v z) (hf : v.free = true) (h1 : z.cells.toList.all Value.oneCell' = true) :
    RepE L w z.cells.size (List.replicate n v) (List.replicate n z.cells.toList).flatten := by
  induction n with
  | zero => rfl
  | succ n ih =>
    rw [List.replicate_succ, List.replicate_succ, List.flatten_cons]
    exact ⟨z, _, rfl, rfl, ⟨hf, h1⟩, hr, ih⟩

/-- A new array of the call's own. -/
theorem newOwn_ok {e : TypeId} {k cap : Nat} {xs : List V} {arr : Array Value} (S : Sim C s L a w) (hcap : arr.size = cap * k) (hlen : xs.length ≤ cap) (hm : cap ≤ maxLen) (hr : RepE L w k xs (arr.toList.take (xs.length * k))) :
    ∃ L', Sim C { s with nid := s.nid + 1 } L' a (w.alloc (.cells arr e)) ∧ Rep L' (w.alloc (.cells arr e)) (.sl (.own s.nid e) k xs) (.slice (some ⟨w.heap.size, 0, none⟩) xs.length cap) := by
  have G := Grow.alloc w (.cells arr e)
  have E := S.wf.leOwn (s := s) w.heap.size
  refine ⟨L.addOwn s.nid w.heap.size, S.grow G E rfl (fun b cs h => .inl h) (S.wf.addOwn S.hB (by simp)), _, _, _, rfl, hr.trans (p := fun _ => false) (q := fun _ => false) rfl (S.wf.whole G E), ?_⟩
  exact .inr ⟨w.heap.size, arr, by simp [Lay.addOwn, upd], rfl, heap_alloc_new w _, hlen, hm, hcap, rfl⟩

/-! ### make -/
def makeV (P : Program) (s : St) (t : TypeId) (l c : V) : Option (V × St) :=
  match l, c with
  | .c (.int _ n), .c (.int _ m) => (elemT P t).bind fun e => (tapp P e).bind fun (k, bytes) => (zelem P e).bind fun z =>
      if 0 ≤ n ∧ n ≤ m ∧ (bytes : Int) * m ≤ 281474976710656 ∧ m ≤ 9223372036854775807 then some (.sl (.own s.nid e) k (List.replicate n.toNat z), { s with nid := s.nid + 1 }) else none
  | _, _ => none

theorem zelem_zero {e : TypeId} {v : V} (h : zelem P e = some v) : ∃ z, tzero P e = some z ∧ v = ofConst z ∧ z.cells.toList.all Value.oneCell' = true := by
  simp only [zelem, Option.bind_eq_some_iff, Option.ite_none_right_eq_some, Option.some.injEq] at h
  obtain ⟨z, hz, h1, rfl⟩ := h
  exact ⟨z, hz, rfl, h1⟩

theorem makeV_ok {t : TypeId} {l c r : V} {ul uc : Value} {s' : St} (h : makeV P s t l c = some (r, s')) (S : Sim C s L a w) (hl : Rep L w l ul) (hc : Rep L w c uc) :
    ∃ u w' L', (Instr.makeSlice t ul uc).run P w = .ok u w' ∧ Sim C s' L' a w' ∧ Rep L' w' r u := by
  unfold makeV at h
  split at h
  · rename_i kl n kc m
    simp only [Option.bind_eq_some_iff, Prod.exists, Option.ite_none_right_eq_some, Option.some.injEq, Prod.mk.injEq] at h
    obtain ⟨e, he, k, bytes, hk, v, hv, ⟨h0, h1, h2, h3⟩, rfl, rfl⟩ := h
    obtain ⟨i, z, hi, hz, hzs, hik, rfl, hpos⟩ := tapp_info hk
    obtain ⟨z', hz', rfl, hone⟩ := zelem_zero hv
    have : z' = z := by simp [tzero, hi, hz] at hz'; exact hz'.symm
    subst this
    simp only [Rep] at hl hc; subst hl; subst hc
    have hrun := run_make (P := P) w t e i z' (elemT_und he) hi hz kl kc n m h0 h1 h2 h3
    have hcells : (madeCells z'.cells (m.toNat * i.size)).toList = (List.replicate m.toNat z'.cells.toList).flatten := by
      rw [hik, ← hzs]; exact cells_rep z'.cells m.toNat
    have htake : ((List.replicate m.toNat z'.cells.toList).flatten).take (n.toNat * k) = (List.replicate n.toNat z'.cells.toList).flatten := by
      have e1 : m.toNat = n.toNat + (m.toNat - n.toNat) := by omega
      rw [e1, ← List.replicate_append_replicate, List.flatten_append]
      have hl : ((List.replicate n.toNat z'.cells.toList).flatten).length = n.toNat * k := by simp [hzs]
      rw [← hl]; exact List.take_left
    obtain ⟨L', h4, h5⟩ := newOwn_ok (e := e) (k := k) (cap := m.toNat) (xs := List.replicate n.toNat (ofConst z')) (arr := madeCells z'.cells (m.toNat * i.size)) S
      (by rw [size_madeCells, hik]) (by simp; omega) (by simp only [maxLen]; omega)
      (by rw [hcells, List.length_replicate, htake, ← hzs]; exact repE_replicate _ (rep_ofConst L w z') (free_ofConst z') hone)
    rw [List.length_replicate] at h5
    exact ⟨_, _, L', hrun, h4, h5⟩
  · cases h

/-! ### a slice's literal -/
def setAll (k : Nat) (xs : List V) : List (Nat × V) → Option (List V)
  | [] => some xs
  | (i, v) :: rest =>
    match v.cs with
    | some l => if l.length = k ∧ v.free = true ∧ l.all V.one = true ∧ i < xs.length then setAll k (xs.set i v) rest else none
    | none => none

def buildSliceV (P : Program) (s : St) (t : TypeId) (len : Nat) (parts : List (Nat × V)) : Option (V × St) :=
  (elemT P t).bind fun e => (tapp P e).bind fun (k, _) => (zelem P e).bind fun z => (setAll k (List.replicate len z) parts).bind fun xs =>
    if len * k ≤ 16777216 then some (.sl (.own s.nid e) k xs, { s with nid := s.nid + 1 }) else none

theorem setAll_run {k : Nat} (sv : Operand → V) (se : Operand → Value) (hs : ∀ x, Rep L w (sv x) (se x)) : ∀ (parts : List (Nat × Operand)) (xs r : List V) (ucells : Array Value),
    setAll k xs (parts.map fun p => (p.1, sv p.2)) = some r → RepE L w k xs ucells.toList →
    ∃ ur, Instr.fill (fun i => some (i * k, k)) ucells (parts.map fun p => (p.1, se p.2)) = some ur ∧ RepE L w k r ur.toList ∧ r.length = xs.length := by
  intro parts
  induction parts with
  | nil =>
    intro xs r ucells h hr
    simp only [List.map_nil, setAll, Option.some.injEq] at h
    subst h
    exact ⟨ucells, rfl, hr, rfl⟩
  | cons p rest ih =>
    intro xs r ucells h hr
    obtain ⟨i, x⟩ := p
    have hv := hs x
    simp only [List.map_cons, setAll] at h ⊢
    generalize sv x = v at hv h
    generalize se x = u at hv ⊢
    split at h
    · rename_i l hcs
      simp only [Option.ite_none_right_eq_some] at h
      obtain ⟨⟨h1, h2, h3, h4⟩, h⟩ := h
      have hrl := rep_cs hv hcs
      have hll := hrl.length
      have hcl := hr.length
      simp only [Array.length_toList] at hll hcl
      have hfit : i * k + k ≤ xs.length * k := by
        have := Nat.mul_le_mul_right k (show i + 1 ≤ xs.length from h4)
        rwa [Nat.add_mul, Nat.one_mul] at this
      have hfold := fold_cells u.cells.toList 0 (i * k) ucells (by simp; omega)
      simp only [Nat.add_zero, Array.length_toList, hll, h1] at hfold
      have hr' : RepE L w k (xs.set i v) (u.cells.zipIdx.foldl (fun cs (x : Value × Nat) => cs.setIfInBounds (i * k + x.2) x.1) ucells).toList := by
        rw [← Array.foldl_toList, Array.toList_zipIdx, hfold]
        exact hr.set h4 (by omega) ⟨h2, List.all_eq_true.2 (reps_one hrl h3)⟩ hv
      obtain ⟨ur, h5, h6, h7⟩ := ih _ r _ h hr'
      refine ⟨ur, ?_, h6, by simpa using h7⟩
      simp only [Instr.fill]
      rw [if_neg (by simp [hll, h1]; omega)]
      exact h5
    · cases h

theorem buildSliceV_ok {t : TypeId} {len : Nat} {parts : Array (Nat × Operand)} {r : V} {s' : St} (S : Sim C s L a w) (h : buildSliceV P s t len (parts.toList.map fun p => (p.1, s.ev p.2)) = some (r, s')) :
    ∃ u w' L', (Instr.buildSlice t len (parts.map fun (i, x) => (i, a.eval x))).run P w = .ok u w' ∧ Sim C s' L' a w' ∧ Rep L' w' r u := by
  simp only [buildSliceV, Option.bind_eq_some_iff, Prod.exists, Option.ite_none_right_eq_some, Option.some.injEq, Prod.mk.injEq] at h
  obtain ⟨e, he, k, bytes, hk, v, hv, xs, hxs, h24, rfl, rfl⟩ := h
  obtain ⟨i, z, hi, hz, hzs, hik, _, hpos⟩ := tapp_info hk
  obtain ⟨z', hz', rfl, hone⟩ := zelem_zero hv
  have : z' = z := by simp [tzero, hi, hz] at hz'; exact hz'.symm
  subst this
  have hsz : tsz P e = some k := by simp [tsz, hi, hik]
  have hinit : RepE L w k (List.replicate len (ofConst z')) ((Array.range (len * k)).map (z'.cells[· % z'.cells.size]!)).toList := by
    rw [← hzs, cells_rep]
    exact repE_replicate _ (rep_ofConst L w z') (free_ofConst z') hone
  obtain ⟨ur, h1, h2, h3⟩ := setAll_run s.ev a.eval S.ev parts.toList _ xs _ hxs hinit
  rw [List.length_replicate] at h3
  have hul : ur.size = len * k := by have := h2.length; simpa [h3] using this
  obtain ⟨L', h4, h5⟩ := newOwn_ok (e := e) (k := k) (cap := len) (xs := xs) (arr := ur) S hul (by omega) (by
      have : len ≤ len * k := Nat.le_mul_of_pos_right len hpos
      simp only [maxLen]; omega) (by rw [h3, ← hul, ← Array.length_toList, List.take_length]; exact h2)
  rw [h3] at h5
  refine ⟨_, _, L', ?_, h4, h5⟩
  have h24' : ¬ len * k > 2 ^ 24 := by omega
  by_cases h0 : len * k = 0
  · have hl0 : len = 0 := by
      rcases Nat.mul_eq_zero.1 h0 with h | h
      · exact h
      · omega
    subst hl0
    have h1' : Instr.fill (fun i => some (i * k, k)) ((Array.range 0).map fun x => (#[] : Array Value)[x % (#[] : Array Value).size]!) (parts.toList.map fun p => (p.1, a.eval p.2)) = some ur := by
      rw [← h1]; congr 1; simp [Array.range_zero']
    simp only [Instr.buildSlice, Sem.run_bind, run_underlying (elemT_und he), Result.andThen_ok, run_tsz hsz]
    rw [if_neg h24', if_pos h0]
    simp only [Sem.run_bind, Sem.run_pure, Result.andThen_ok, Array.toList_map, h0]
    simp only [h1']
    simp [newRow]
  · simp only [Instr.buildSlice, Sem.run_bind, run_underlying (elemT_und he), Result.andThen_ok, run_tsz hsz]
    rw [if_neg h24', if_neg h0]
    simp only [Sem.run_bind, run_tzero hz', Sem.run_pure, Result.andThen_ok, Array.toList_map]
    simp only [h1]
    simp [newRow]

/-! ### cutting an own array: it is written no more -/
def sliceOwn (P : Program) (s : St) (t : TypeId) (id k : Nat) (xs : List V) (lo hi : Option V) : Option (V × St) :=
  (slV P t (.sl .fz k xs) lo hi).map fun r => (r, s.mapV (frz id))

theorem sliceOwn_ok {t e : TypeId} {id k : Nat} {xs : List V} {r : V} {ux : Value} {s' : St} {lo hi : Option Operand} (h : sliceOwn P s t id k xs (lo.map s.ev) (hi.map s.ev) = some (r, s')) (S : Sim C s L a w) (hx : Rep L w (.sl (.own id e) k xs) ux)
    (hlo : ∀ x, lo = some x → ∃ u, s.ev x = .c u) (hhi : ∀ x, hi = some x → ∃ u, s.ev x = .c u) :
    ∃ u L', (Instr.sliceAt t ux (lo.map a.eval) (hi.map a.eval) none).run P w = .ok u w ∧ Sim C s' L' a w ∧ Rep L' w r u := by
  simp only [sliceOwn, Option.map_eq_some_iff, Prod.mk.injEq] at h
  obtain ⟨r', hr, rfl, rfl⟩ := h
  obtain ⟨S', hψ⟩ := S.freeze id
  have hx' := hψ _ _ hx
  have e1 : frz id (.sl (.own id e) k xs) = .sl .fz k xs := by simp [frz, V.map, Tag.is]
  rw [e1] at hx'
  have bd : ∀ (o : Option Operand), (∀ x, o = some x → ∃ u, s.ev x = .c u) → o.map s.ev = none ∧ o.map a.eval = none ∨ ∃ v u, o.map s.ev = some v ∧ o.map a.eval = some u ∧ Rep (L.freeze id) w v u := by
    intro o ho
    cases o with
    | none => exact .inl ⟨rfl, rfl⟩
    | some x =>
      obtain ⟨u, hu⟩ := ho x rfl
      have := S.ev x
      rw [hu] at this
      exact .inr ⟨_, _, rfl, rfl, by rw [hu]; exact this⟩
  obtain ⟨u, h1, h2⟩ := slV_run hr hx' (bd lo hlo) (bd hi hhi)
  exact ⟨u, L.freeze id, h1, S', h2⟩

/-! ### strings into bytes -/
def strBytes (P : Program) (src dst : TypeId) (x : V) : Option V :=
  match x with
  | .c (.string z) => if isStr P src = true ∧ (elemT P dst).bind (intT P) = some .u8 then some (.sl .fz 1 (byteVs z)) else none
  | _ => none

theorem freeze_row (w : World) (g n : Nat) (arr : Array Value) (e : TypeId) (fr : Nat × Nat) (hg : w.heap[g]? = some (.cells arr e fr)) : ∃ fr', (w.freeze ⟨g, n, none⟩ 1).heap[g]? = some (.cells arr e fr') := by
  simp only [World.freeze]
  rw [if_neg (by decide)]
  simp only [Array.getElem?_modify, if_true, hg, Option.map_some]
  exact ⟨_, rfl⟩
theorem freeze_other (w : World) (g n k : Nat) (h : k ≠ g) : (w.freeze ⟨g, n, none⟩ 1).heap[k]? = w.heap[k]? := by
  simp only [World.freeze]
  rw [if_neg (by decide)]
  simp only [Array.getElem?_modify]
  rw [if_neg (by omega)]
theorem freeze_size (w : World) (g n : Nat) : (w.freeze ⟨g, n, none⟩ 1).heap.size = w.heap.size := by
  simp only [World.freeze]
  rw [if_neg (by decide)]
  simp

theorem strBytes_ok {src dst : TypeId} {x r : V} {ux : Value} (h : strBytes P src dst x = some r) (S : Sim C s L a w) (hx : Rep L w x ux) :
    ∃ u w' L', (convert src dst ux).run P w = .ok u w' ∧ Sim C s L' a w' ∧ Rep L' w' r u := by
  unfold strBytes at h
  split at h
  · rename_i z
    simp only [Option.ite_none_right_eq_some, Option.bind_eq_some_iff, Option.some.injEq] at h
    obtain ⟨⟨h0, e, he, h1⟩, rfl⟩ := h
    simp only [Rep] at hx; subst hx
    have hcap := grownCap_ge w z.size 0 e
    let arr : Array Value := z.data.map (fun b => Value.int .u8 b.toNat) ++ Array.replicate (grownCap w z.size 0 e - z.size) (.int .u8 0)
    have harr : arr.toList.take z.size = byteCells z := by
      have : (z.data.map (fun b => Value.int .u8 b.toNat)).toList = byteCells z := by simp [byteCells]
      simp only [arr, Array.toList_append, this]
      rw [← byteCells_length z]
      exact List.take_left
    have hasz : arr.size = grownCap w z.size 0 e := by simp [arr]; omega
    let w1 : World := w.drew.alloc (.cells arr e)
    have hh : w1.heap[w.heap.size]? = some (.cells arr e (0, 0)) := heap_alloc_new w.drew _
    have G1 : Grow w w1 := Grow.drewAlloc w _
    let w2 : World := w1.freeze ⟨w.heap.size, arr.size, none⟩ 1
    have G : Grow w w2 := ⟨rfl, rfl, rfl, by rw [freeze_size]; exact G1.size, fun k hk => (freeze_other w1 _ _ k (by omega)).trans (G1.block k hk)⟩
    have E := Lay.leA L w.heap.size
    have hsz : w.heap.size < w2.heap.size := by rw [freeze_size]; simp [w1]
    obtain ⟨fr, hfr⟩ := freeze_row w1 w.heap.size arr.size arr e (0, 0) hh
    refine ⟨.slice (some ⟨w.heap.size, 0, none⟩) z.size (grownCap w z.size 0 e), w2, L.addA w.heap.size, ?_, S.grow G E rfl (fun b cs h => .inl h) (S.wf.addA S.hB hsz), some ⟨w.heap.size, 0, none⟩, grownCap w z.size 0 e, byteCells z, by simp [byteVs], byteVs_rep z, ?_⟩
    · have hsh : w1.shape? w.heap.size = some (e, arr.size) := by simp [World.shape?, hh]
      simp only [convert, Sem.run_bind, run_underlying (isStr_und h0), run_underlying (elemT_und he), run_underlying (intT_und h1), Result.andThen_ok, Conv.stringToBytes, run_choose_drew]
      have hnf : (Question.appendCap z.size 0 e).forced = false := rfl
      rw [hnf]
      simp only [Bool.false_eq_true, if_false, Result.andThen_ok, newRow, Sem.run_bind, run_newObj_alloc, Sem.run_pure, markStringish, run_shape]
      have e2 : ((w.drew.alloc (.cells (z.data.map (fun b => Value.int .u8 b.toNat) ++ Array.replicate ((Question.appendCap z.size 0 e).cut (w.tape w.drawn (.appendCap z.size 0 e)) - z.size) (.int .u8 0)) e)).shape? w.drew.heap.size) = some (e, arr.size) := hsh
      rw [e2]
      rfl
    · refine ⟨by simpa [byteVs] using hcap, .inr ⟨w.heap.size, 0, rfl, .inr rfl, arr, e, fr, hfr, ?_⟩⟩
      simp only [List.drop_zero, byteCells_length]
      exact harr
  · cases h

/-- '[]byte(b)' of an own array. -/
def sameSl (P : Program) (s : St) (src dst : TypeId) (x : V) : Option (V × St) :=
  match x with
  | .sl (.own id _) k xs => if src = dst ∧ (elemT P dst).bind (intT P) = some .u8 ∧ 0 < xs.length then some (.sl .fz k xs, s.mapV (frz id)) else none
  | _ => none

theorem sameSl_ok {src dst : TypeId} {x r : V} {ux : Value} {s' : St} (h : sameSl P s src dst x = some (r, s')) (S : Sim C s L a w) (hx : Rep L w x ux) :
    ∃ u w' L', (convert src dst ux).run P w = .ok u w' ∧ Sim C s' L' a w' ∧ Rep L' w' r u := by
  unfold sameSl at h
  split at h
  · rename_i id e' k xs
    simp only [Option.ite_none_right_eq_some, Option.bind_eq_some_iff, Option.some.injEq, Prod.mk.injEq] at h
    obtain ⟨⟨rfl, ⟨e, he, h1⟩, hpos⟩, rfl, rfl⟩ := h
    obtain ⟨S', hψ⟩ := S.freeze id
    have hx' := hψ _ _ hx
    have e1 : frz id (.sl (.own id e') k xs) = .sl .fz k xs := by simp [frz, V.map, Tag.is]
    rw [e1] at hx'
    obtain ⟨ad, cap, cells, rfl, h2, h3⟩ := hx
    rcases h3 with ⟨h4, _⟩ | ⟨g, arr, h4, rfl, h5, _⟩
    · omega
    · have hW := S.wf.own id g h4
      have hA : (L.freeze id).A g := .inr h4
      have hO : ∀ i, (L.freeze id).own i ≠ some g := fun i h => (S'.wf.own i g h).2.2 hA
      obtain ⟨fr, hfr⟩ := freeze_row w g arr.size arr e' (0, 0) h5
      have K : Whole (L.freeze id) (L.freeze id) w (w.freeze ⟨g, arr.size, none⟩ 1) := by
        refine ⟨rfl, fun g' h => ⟨h, ?_⟩, fun j e _ g' h => ⟨⟨rfl, h⟩, freeze_other w _ _ g' (fun e => by subst e; exact hO j h)⟩, fun _ _ _ h => h⟩
        by_cases hg : g' = g
        · subst hg
          intro arr' e'' fr' h'
          rw [h5] at h'
          simp only [Option.some.injEq, Obj.cells.injEq] at h'
          obtain ⟨rfl, rfl, _⟩ := h'
          exact ⟨fr, hfr⟩
        · exact .of (freeze_other w _ _ g' hg)
      have hsz : (w.freeze ⟨g, arr.size, none⟩ 1).heap.size = w.heap.size := freeze_size w _ _
      refine ⟨.slice (some ⟨g, 0, none⟩) xs.length cap, w.freeze ⟨g, arr.size, none⟩ 1, L.freeze id, ?_, ⟨S'.defers, S'.size, fun t => (S'.env t).whole K, ?_, S'.wf.mono (Nat.le_refl _) (by rw [hsz]; exact Nat.le_refl _), S'.kp.trans ⟨rfl, rfl, rfl, by rw [hsz]; exact Nat.le_refl _, ?_⟩⟩, hx'.whole K⟩
      · have hsh : w.shape? g = some (e', arr.size) := by simp [World.shape?, h5]
        simp [convert, run_underlying (elemT_und he), run_underlying (intT_und h1), markStringish, hsh]
      · intro b cs hb
        obtain ⟨g', arr', e'', h7, h8, h9⟩ := S'.box b cs hb
        exact ⟨g', arr', e'', h7, (freeze_other w _ _ g' (fun e => by subst e; exact (S'.wf.boxW b _ h7).2.2 hA)).trans h8, h9.whole K⟩
      · intro k' hk' hW'
        exact freeze_other w _ _ k' (fun e => by subst e; exact hW.2.1.elim (fun h => by omega) hW')
  · cases h
end
end Go.Pg
