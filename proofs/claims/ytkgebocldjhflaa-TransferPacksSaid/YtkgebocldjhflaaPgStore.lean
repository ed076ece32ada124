/-
  The pure layer: a store into an element of an own array.
-/
import Derived.Test.YtkgebocldjhflaaPgMore
namespace Go.Pg
open Go

/-- The element made anew of its cells. -/
def rebuild (x0 : V) (cs : List V) : Option V :=
  match x0, cs with
  | .agg _, cs => some (.agg cs)
  | x, [y] => if x.one = true then some y else none
  | _, _ => none

def storeE (P : Program) (s : St) (t : TypeId) (id k : Nat) (xs : List V) (i off : Nat) (x : V) : Option St :=
  (xs[i]?).bind fun x0 => x0.cs.bind fun c0 => x.cs.bind fun l => (rebuild x0 (c0.take off ++ l ++ c0.drop (off + l.length))).bind fun x1 =>
    if tsz P t = some l.length ∧ off + l.length ≤ c0.length ∧ l.all V.one = true ∧ x1.free = true then some (s.mapV (setOwn id k i x1)) else none

section
variable {P : Program} {C : Cx} {s : St} {L L' : Lay} {a : Act} {w w' : World}

theorem rebuild_rep {x0 x1 : V} {cs : List V} {u0 : Value} {us : List Value} (h : rebuild x0 cs = some x1) (h0 : Rep L w x0 u0) (hr : Reps L w cs us) (hone : ∀ u ∈ us, u.oneCell' = true) :
    ∃ u1 : Value, u1.cells.toList = us ∧ Rep L w x1 u1 := by
  unfold rebuild at h
  split at h
  · simp only [Option.some.injEq] at h
    subst h
    exact ⟨.agg us.toArray, by simp [Value.cells], us.toArray, rfl, by simpa using hr⟩
  · rename_i y hx
    simp only [Option.ite_none_right_eq_some, Option.some.injEq] at h
    obtain ⟨_, rfl⟩ := h
    obtain ⟨u, r, rfl, h2, h3⟩ := hr
    simp only [Reps] at h3
    subst h3
    have hu := hone u (by simp)
    refine ⟨u, ?_, h2⟩
    cases u <;> first | rfl | (simp [Value.oneCell'] at hu)
  · cases h

theorem setOwn_rep {id k i g : Nat} {x1 : V} {u1 : Value} {arr arr' : Array Value} {e : TypeId} (hg : L.own id = some g) (ha : w.heap[g]? = some (.cells arr e (0, 0)))
    (hinj : ∀ j, L.own j = some g → j = id) (hnA : ¬ L.A g) (harr : arr'.size = arr.size) (hk : u1.cells.size = k)
    (harr' : ∀ len, i < len → len * k ≤ arr.size → arr'.toList.take (len * k) = (arr.toList.take (len * k)).take (i * k) ++ u1.cells.toList ++ (arr.toList.take (len * k)).drop (i * k + k))
    (harr0 : ∀ len, len ≤ i → arr'.toList.take (len * k) = arr.toList.take (len * k))
    (hx1 : Rep L (w.setRow g arr') x1 u1) (hf : x1.free = true ∧ u1.cells.toList.all Value.oneCell' = true) {v : V} {u : Value} (h : Rep L w v u) : Rep L (w.setRow g arr') (setOwn id k i x1 v) u := by
  have K : Trans (Tag.is id) (fun _ => false) _root_.id _root_.id L L w (w.setRow g arr') :=
    ⟨rfl, fun g' h => ⟨h, .of (setRow_other w g g' arr' (fun e => by subst e; exact hnA h))⟩,
      fun j e hj g' h => ⟨⟨rfl, h⟩, setRow_other w g g' arr' (fun e => by subst e; have := hinj j h; simp [Tag.is, this] at hj)⟩, fun _ _ _ h => h⟩
  unfold setOwn
  split
  · rename_i j e' k' xs
    split
    · rename_i hj
      subst hj
      split
      · rename_i hkk
        subst hkk
        obtain ⟨ad, cap, cells, rfl, h2, h3⟩ := h
        have h2' := h2.trans (p := Tag.is j) (q := fun _ => false) rfl K
        rcases h3 with ⟨h4, rfl, rfl⟩ | ⟨g', arr0, h4, rfl, h5, h6, h7, h8, h9⟩
        · have hx0 : xs = [] := List.eq_nil_of_length_eq_zero h4
          subst hx0
          exact ⟨none, 0, cells, rfl, h2', .inl ⟨rfl, rfl, rfl⟩⟩
        · rw [hg] at h4
          simp only [Option.some.injEq] at h4
          subst h4
          rw [ha] at h5
          simp only [Option.some.injEq, Obj.cells.injEq] at h5
          obtain ⟨rfl, rfl, _⟩ := h5
          have hle : xs.length * k' ≤ arr.size := by rw [h8]; exact Nat.mul_le_mul_right _ h6
          by_cases hi : i < xs.length
          · refine ⟨some ⟨g, 0, none⟩, cap, _, by simp, h2'.set hi hk hf hx1, .inr ⟨g, arr', hg, rfl, setRow_heap w g arr _ _ _ ha, by simpa using h6, h7, by rw [harr, h8], ?_⟩⟩
            rw [List.length_set, harr' xs.length hi hle, h9]
          · rw [List.set_eq_of_length_le (by omega)]
            exact ⟨some ⟨g, 0, none⟩, cap, cells, rfl, h2', .inr ⟨g, arr', hg, rfl, setRow_heap w g arr _ _ _ ha, h6, h7, by rw [harr, h8], by rw [harr0 xs.length (by omega)]; exact h9⟩⟩
      · trivial
    · rename_i hj
      have := h.trans rfl K (by simp [V.any, Tag.is, hj])
      rwa [map_id.1] at this
  · exact poison_rep K h

theorem seg_take (l u : List Value) (i k n : Nat) (hu : u.length = k) (hi : i + k ≤ n) (hn : n ≤ l.length) :
    (l.take i ++ u ++ l.drop (i + k)).take n = (l.take n).take i ++ u ++ (l.take n).drop (i + k) := by
  have e1 : (l.take i ++ u).length = i + k := by simp [hu]; omega
  rw [List.take_append, List.take_of_length_le (by omega), e1, List.take_take, Nat.min_eq_left (by omega), List.drop_take]

theorem storeE_ok {t : TypeId} {id k i off : Nat} {e : TypeId} {xs : List V} {x : V} {u ux : Value} {s' : St} (h : storeE P s t id k xs i off x = some s') (S : Sim C s L a w) (hu : Rep L w (.el (.own id e) k xs i off) u) (hx : Rep L w x ux) :
    ∃ w', (Instr.storeAt t u ux).run P w = .ok () w' ∧ Sim C s' L a w' := by
  simp only [storeE, Option.bind_eq_some_iff, Option.ite_none_right_eq_some, Option.some.injEq] at h
  obtain ⟨x0, hx0, c0, hc0, l, hl, x1, hx1, ⟨h1, h2, h3, h4⟩, rfl⟩ := h
  obtain ⟨g, o, cells, rfl, hr, hg, rfl, arr, ha, htake⟩ := hu
  obtain ⟨u0, h5, h6, h7, h8⟩ := hr.get hx0
  have hcl := hr.length
  have hi : i < xs.length := (List.getElem?_eq_some_iff.1 hx0).1
  have hik : i * k + k ≤ xs.length * k := by
    have := Nat.mul_le_mul_right k (show i + 1 ≤ xs.length from hi)
    rwa [Nat.add_mul, Nat.one_mul] at this
  have hrl := rep_cs hx hl
  have hll : ux.cells.size = l.length := by simpa using hrl.length
  have hr0 := rep_cs h8 hc0
  have hc0l : u0.cells.size = c0.length := by simpa using hr0.length
  have hal : xs.length * k ≤ arr.size := by
    have := congrArg List.length htake
    simp only [List.length_take, Array.length_toList] at this
    omega
  have hone := reps_one hrl h3
  have hrun := run_storeAt (P := P) (w := w) (t := t) (g := g) (o := 0 + i * k + off) (v := ux) (arr := arr) (e := e) (by rw [hll]; exact h1) ha (by omega) hone
  obtain ⟨hw1, hw2, hw3⟩ := S.wf.own id g hg
  let us1 : List Value := u0.cells.toList.take off ++ ux.cells.toList ++ u0.cells.toList.drop (off + l.length)
  have hus1 : Reps L w (c0.take off ++ l ++ c0.drop (off + l.length)) us1 := ((hr0.take off).append hrl).append (hr0.drop _)
  have hone1 : ∀ u ∈ us1, u.oneCell' = true := by
    intro v hv
    simp only [us1, List.mem_append] at hv
    rcases hv with (hv | hv) | hv
    · exact List.all_eq_true.1 h7.2 v (List.mem_of_mem_take hv)
    · exact hone v hv
    · exact List.all_eq_true.1 h7.2 v (List.mem_of_mem_drop hv)
  obtain ⟨u1, hu1, hru1⟩ := rebuild_rep hx1 h8 hus1 hone1
  have hu1k : u1.cells.size = k := by
    have : u1.cells.toList.length = us1.length := by rw [hu1]
    simp only [Array.length_toList, us1, List.length_append, List.length_take, List.length_drop, hll] at this
    omega
  have hu0 : (arr.toList.drop (i * k)).take k = u0.cells.toList := by
    rw [← h5, ← htake, List.drop_take, List.take_take]
    congr 1
    rw [hcl]
    omega
  -- the array behind the store, by elements
  have hnew : arr.toList.take (0 + i * k + off) ++ ux.cells.toList ++ arr.toList.drop (0 + i * k + off + ux.cells.size) = arr.toList.take (i * k) ++ u1.cells.toList ++ arr.toList.drop (i * k + k) := by
    rw [hu1, hll]
    simp only [us1, Nat.zero_add]
    have e1 : arr.toList.take (i * k + off) = arr.toList.take (i * k) ++ u0.cells.toList.take off := by
      rw [List.take_add, ← hu0, List.take_take, Nat.min_eq_left (by omega)]
    have e2 : arr.toList.drop (i * k + off + l.length) = u0.cells.toList.drop (off + l.length) ++ arr.toList.drop (i * k + k) := by
      rw [← hu0]
      have := List.take_append_drop (k - (off + l.length)) (arr.toList.drop (i * k + off + l.length))
      rw [← this, List.drop_drop, List.drop_take, List.drop_drop]
      congr 2
      · congr 1; omega
      · omega
    rw [e1, e2]
    simp [List.append_assoc]
  rw [hnew] at hrun
  let arr' : Array Value := (arr.toList.take (i * k) ++ u1.cells.toList ++ arr.toList.drop (i * k + k)).toArray
  have harr : arr'.size = arr.size := by simp [arr', hu1k]; omega
  have hfree : x1.free = true ∧ u1.cells.toList.all Value.oneCell' = true := ⟨h4, by rw [hu1]; exact List.all_eq_true.2 hone1⟩
  have K0 : Trans (Tag.is id) (fun _ => false) _root_.id _root_.id L L w (w.setRow g arr') :=
    ⟨rfl, fun g' h => ⟨h, .of (setRow_other w g g' arr' (fun e => by subst e; exact hw3 h))⟩,
      fun j e hj g' h => ⟨⟨rfl, h⟩, setRow_other w g g' arr' (fun e => by subst e; have := S.wf.injO j id _ h hg; simp [Tag.is, this] at hj)⟩, fun _ _ _ h => h⟩
  have hru1' : Rep L (w.setRow g arr') x1 u1 := by
    have := hru1.trans rfl K0 (V.free.any h4 (Tag.is id) (fun _ => false) rfl false)
    rwa [map_id.1] at this
  refine ⟨_, hrun, S.mapV (nid := s.nid) (fun v u h => setOwn_rep (arr := arr) (arr' := arr') hg ha (fun j hj => S.wf.injO j id g hj hg) hw3 harr hu1k ?_ ?_ hru1' hfree h)
    (fun b g' h => ⟨h, setRow_other w g g' _ (fun e => by subst e; exact S.wf.dis id b _ hg h)⟩) (S.wf.mono (Nat.le_refl _) (by simp)) (Kp.setRow _ hw2)⟩
  · intro len hlen hle
    have := Nat.mul_le_mul_right k (show i + 1 ≤ len from hlen)
    rw [Nat.add_mul, Nat.one_mul] at this
    simp only [arr']
    exact seg_take _ _ _ _ _ (by simpa using hu1k) this (by simpa using hle)
  · intro len hlen
    have := Nat.mul_le_mul_right k hlen
    simp only [arr']
    rw [List.append_assoc, List.take_append, List.take_take, Nat.min_eq_left this]
    have : len * k - (arr.toList.take (i * k)).length = 0 := by simp; omega
    rw [this]
    simp
end
end Go.Pg
