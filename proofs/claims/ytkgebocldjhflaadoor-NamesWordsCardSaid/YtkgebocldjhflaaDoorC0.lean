/-
  Texts of this claim, merged: PgS, PgS2. Each bears its own remark.
-/
import Derived.Test.YtkgebocldjhflaaDoorA4
import Derived.Lib.Split
import Derived.Lib.SplitLaws
import Derived.Lib.CountLaws
import Derived.Lib.IndexMore
import Derived.Lib.Strings
set_option linter.unusedVariables false
set_option linter.unusedSimpArgs false
set_option linter.unusedSectionVars false
section
/-
  Lists parted at a letter: what strings.Split, Cut and TrimSuffix come to at a separator of one octet.
-/
namespace Go.Pg
open Go

section
variable {α : Type} [DecidableEq α]
def spl (c : α) : List α → List (List α)
  | [] => [[]]
  | a :: l => if a = c then [] :: spl c l else match spl c l with | h :: t => (a :: h) :: t | [] => [[a]]
theorem spl_nil (c : α) : spl c ([] : List α) = [[]] := rfl
theorem spl_hit (c : α) (l : List α) : spl c (c :: l) = [] :: spl c l := by simp [spl]
theorem spl_cons (c : α) (l : List α) : ∃ h t, spl c l = h :: t := by
  cases l with
  | nil => exact ⟨_, _, rfl⟩
  | cons a l =>
    simp only [spl]
    split
    · exact ⟨_, _, rfl⟩
    · split <;> exact ⟨_, _, rfl⟩
theorem spl_miss (c a : α) (l : List α) (h : a ≠ c) {x : List α} {t : List (List α)} (hl : spl c l = x :: t) : spl c (a :: l) = (a :: x) :: t := by
  simp [spl, h, hl]
theorem spl_mid (c : α) : ∀ (a b : List α), spl c (a ++ c :: b) = spl c a ++ spl c b := by
  intro a
  induction a with
  | nil => intro b; simp [spl_hit, spl_nil]
  | cons x a ih =>
    intro b
    by_cases hx : x = c
    · subst hx; rw [List.cons_append, spl_hit, spl_hit, ih]; rfl
    · obtain ⟨h, t, e⟩ := spl_cons c a
      rw [List.cons_append, spl_miss c x _ hx (show spl c (a ++ c :: b) = h :: (t ++ spl c b) by rw [ih, e]; rfl), spl_miss c x a hx e]
      rfl
theorem spl_none (c : α) (l : List α) (h : ∀ x ∈ l, x ≠ c) : spl c l = [l] := by
  induction l with
  | nil => rfl
  | cons a l ih => exact spl_miss c a l (h a (by simp)) (ih fun x hx => h x (by simp [hx]))
theorem spl_at (c : α) (a b : List α) (h : ∀ x ∈ a, x ≠ c) : spl c (a ++ c :: b) = a :: spl c b := by rw [spl_mid, spl_none c a h]; rfl
theorem spl_snoc (c : α) (l : List α) : spl c (l ++ [c]) = spl c l ++ [[]] := spl_mid c l []
/-- One letter more. -/
theorem spl_one (c a : α) (h : a ≠ c) : ∀ (l : List α) (ps : List (List α)) (w : List α), spl c l = ps ++ [w] → spl c (l ++ [a]) = ps ++ [w ++ [a]] := by
  intro l
  induction l with
  | nil =>
    intro ps w e
    rw [spl_nil] at e
    cases ps with
    | nil => simp at e; subst e; simp [spl_none c [a] (by simpa using h)]
    | cons p ps => simp at e
  | cons x l ih =>
    intro ps w e
    obtain ⟨y, t, ey⟩ := spl_cons c l
    by_cases hx : x = c
    · subst hx
      rw [spl_hit] at e
      rw [List.cons_append, spl_hit]
      cases ps with
      | nil => rw [ey] at e; simp at e
      | cons p ps =>
        simp only [List.cons_append, List.cons.injEq] at e
        rw [ih ps w e.2, e.1]; rfl
    · rw [spl_miss c x l hx ey] at e
      cases ps with
      | nil =>
        simp only [List.nil_append, List.cons.injEq] at e
        obtain ⟨rfl, rfl⟩ := e
        have := ih [] y (by rw [ey]; rfl)
        rw [List.cons_append, spl_miss c x _ hx this]
        rfl
      | cons p ps =>
        simp only [List.cons_append, List.cons.injEq] at e
        obtain ⟨rfl, rfl⟩ := e
        have := ih (y :: ps) w (by rw [ey]; rfl)
        rw [List.cons_append, spl_miss c x _ hx this]
        rfl
theorem spl_last (c : α) (l : List α) : ∃ ps w, spl c l = ps ++ [w] := by
  obtain ⟨h, t, e⟩ := spl_cons c l
  rcases List.eq_nil_or_concat (spl c l) with h1 | ⟨ps, w, h1⟩
  · rw [h1] at e; cases e
  · exact ⟨ps, w, by rw [h1, List.concat_eq_append]⟩
theorem spl_mem (c : α) : ∀ (l : List α) (p : List α), p ∈ spl c l → ∀ x ∈ p, x ∈ l ∧ x ≠ c := by
  intro l
  induction l with
  | nil => intro p hp; simp [spl_nil] at hp; subst hp; intro x hx; cases hx
  | cons a l ih =>
    intro p hp x hx
    by_cases ha : a = c
    · subst ha
      rw [spl_hit] at hp
      rcases List.mem_cons.1 hp with rfl | hp
      · cases hx
      · have := ih p hp x hx; exact ⟨by simp [this.1], this.2⟩
    · obtain ⟨y, t, ey⟩ := spl_cons c l
      rw [spl_miss c a l ha ey] at hp
      rcases List.mem_cons.1 hp with rfl | hp
      · rcases List.mem_cons.1 hx with rfl | hx
        · exact ⟨by simp, ha⟩
        · have := ih y (by rw [ey]; simp) x hx; exact ⟨by simp [this.1], this.2⟩
      · have := ih p (by rw [ey]; simp [hp]) x hx; exact ⟨by simp [this.1], this.2⟩
theorem spl_len (c : α) : ∀ (l : List α), (spl c l).length ≤ l.length + 1 := by
  intro l
  induction l with
  | nil => simp [spl_nil]
  | cons a l ih =>
    obtain ⟨y, t, ey⟩ := spl_cons c l
    by_cases ha : a = c
    · subst ha; rw [spl_hit]; simp; omega
    · rw [spl_miss c a l ha ey]; rw [ey] at ih; simp at ih ⊢; omega
theorem spl_plen (c : α) : ∀ (l : List α) (p : List α), p ∈ spl c l → p.length ≤ l.length := by
  intro l
  induction l with
  | nil => intro p hp; simp [spl_nil] at hp; subst hp; simp
  | cons a l ih =>
    intro p hp
    obtain ⟨y, t, ey⟩ := spl_cons c l
    by_cases ha : a = c
    · subst ha
      rw [spl_hit] at hp
      rcases List.mem_cons.1 hp with rfl | hp
      · simp
      · have := ih p hp; simp; omega
    · rw [spl_miss c a l ha ey] at hp
      rcases List.mem_cons.1 hp with rfl | hp
      · have := ih y (by rw [ey]; simp); simp; omega
      · have := ih p (by rw [ey]; simp [hp]); simp; omega
end

theorem spl_map {α β : Type} [DecidableEq α] [DecidableEq β] (f : α → β) (c : α) (l : List α) (hf : ∀ x ∈ l, f x = f c → x = c) : spl (f c) (l.map f) = (spl c l).map (List.map f) := by
  induction l with
  | nil => rfl
  | cons a l ih =>
    have ih := ih fun x hx => hf x (by simp [hx])
    obtain ⟨y, t, ey⟩ := spl_cons c l
    by_cases ha : a = c
    · subst ha
      rw [List.map_cons, spl_hit, spl_hit, ih]; rfl
    · have hfa : f a ≠ f c := fun h => ha (hf a (by simp) h)
      rw [List.map_cons, spl_miss (f c) (f a) _ hfa (by rw [ih, ey]; rfl), spl_miss c a l ha ey]; rfl

/-- Where a letter stands first. -/
theorem idx1 (c : UInt8) : ∀ u : List UInt8, (Lib.index u [c] = -1 ∧ ∀ x ∈ u, x ≠ c) ∨ ∃ a b, u = a ++ c :: b ∧ (∀ x ∈ a, x ≠ c) ∧ Lib.index u [c] = (a.length : Nat) := by
  intro u
  induction u with
  | nil => exact .inl ⟨rfl, fun x hx => by cases hx⟩
  | cons x u ih =>
    by_cases hx : x = c
    · subst hx
      refine .inr ⟨[], u, rfl, fun y hy => (by cases hy), ?_⟩
      unfold Lib.index
      have hp : [x].isPrefixOf (x :: u) = true := by
        show (x == x && [].isPrefixOf u) = true
        simp
      rw [hp]; rfl
    · have hp : [c].isPrefixOf (x :: u) = false := by
        show (c == x && [].isPrefixOf u) = false
        rw [beq_eq_false_iff_ne.2 (Ne.symm hx)]; rfl
      rcases ih with ⟨h1, h2⟩ | ⟨a, b, rfl, h2, h3⟩
      · refine .inl ⟨?_, fun y hy => ?_⟩
        · unfold Lib.index
          rw [hp, h1]; rfl
        · rcases List.mem_cons.1 hy with rfl | hy
          · exact hx
          · exact h2 y hy
      · refine .inr ⟨x :: a, b, rfl, fun y hy => ?_, ?_⟩
        · rcases List.mem_cons.1 hy with rfl | hy
          · exact hx
          · exact h2 y hy
        · unfold Lib.index
          rw [hp, h3]
          have : ¬ ((a.length : Int) == -1) = true := by rw [beq_iff_eq]; omega
          rw [if_neg (by simp), if_neg this]
          simp
theorem splitK_one (c : UInt8) : ∀ (k : Nat) (u : List UInt8), Lib.count u [c] = k → Lib.splitK [c] 0 k u = spl c u := by
  intro k
  induction k with
  | zero =>
    intro u h
    rcases idx1 c u with ⟨h1, h2⟩ | ⟨a, b, rfl, h2, h3⟩
    · rw [spl_none c u h2]; rfl
    · rw [Lib.count_hit (by simp) h3] at h; omega
  | succ k ih =>
    intro u h
    rcases idx1 c u with ⟨h1, h2⟩ | ⟨a, b, rfl, h2, h3⟩
    · rw [Lib.count_miss h1] at h; omega
    · rw [Lib.count_hit (by simp) h3] at h
      have hd : (a ++ c :: b).drop (a.length + [c].length) = b := by simp
      rw [hd] at h
      have := ih b (by omega)
      unfold Lib.splitK
      rw [h3]
      have hm : ¬ (((a.length : Nat) : Int) == -1) = true := by rw [beq_iff_eq]; omega
      rw [if_neg hm, Int.toNat_natCast, Nat.add_zero, hd, this, spl_at c a b h2]
      simp
theorem sB_data (l : List Nat) : (sB l).data.toList = l.map UInt8.ofNat := by simp [sB]
theorem ofNat_inj {a b : Nat} (ha : a < 256) (hb : b < 256) (h : UInt8.ofNat a = UInt8.ofNat b) : a = b := by
  have := congrArg UInt8.toNat h
  rw [UInt8.toNat_ofNat', UInt8.toNat_ofNat'] at this
  omega
theorem split_sB (l : List Nat) (c : Nat) (ho : oct l) (hc : c < 256) : Lib.splitB (sB [c]) 0 (Lib.countB (sB l) (sB [c])) (sB l) = (spl c l).map sB := by
  have h1 := Lib.splitB_data (sB [c]) 0 (Lib.countB (sB l) (sB [c])) (sB l)
  rw [sB_data, sB_data] at h1
  have h2 : Lib.countB (sB l) (sB [c]) = Lib.count (l.map UInt8.ofNat) [UInt8.ofNat c] := by
    unfold Lib.countB
    rw [sB_data, sB_data]; rfl
  have h3 : Lib.splitK ([c].map UInt8.ofNat) 0 (Lib.countB (sB l) (sB [c])) (l.map UInt8.ofNat) = spl (UInt8.ofNat c) (l.map UInt8.ofNat) := splitK_one _ _ _ h2.symm
  rw [h3, spl_map UInt8.ofNat c l (fun x hx h => ofNat_inj (ho x hx) hc h)] at h1
  have h4 : ((spl c l).map sB).map (fun z : ByteArray => z.data.toList) = (spl c l).map (List.map UInt8.ofNat) := by
    rw [List.map_map]
    refine List.map_congr_left fun x _ => ?_
    exact sB_data x
  rw [← h4] at h1
  refine List.map_inj_right (f := fun z : ByteArray => z.data.toList) ?_ |>.1 h1
  intro x y h
  exact ByteArray.ext (Array.ext' h)
/-- What stands before a letter. -/
def bef (c : Nat) (l : List Nat) : List Nat := l.takeWhile (· != c)
theorem bef_none (c : Nat) (l : List Nat) (h : ∀ x ∈ l, x ≠ c) : bef c l = l := by
  induction l with
  | nil => rfl
  | cons a l ih =>
    have := h a (by simp)
    simp only [bef, List.takeWhile_cons]
    rw [if_pos (by simpa using this)]
    congr 1
    exact ih fun x hx => h x (by simp [hx])
theorem bef_at (c : Nat) (a b : List Nat) (h : ∀ x ∈ a, x ≠ c) : bef c (a ++ c :: b) = a := by
  induction a with
  | nil => simp [bef]
  | cons x a ih =>
    have := h x (by simp)
    simp only [bef, List.cons_append, List.takeWhile_cons]
    rw [if_pos (by simpa using this)]
    congr 1
    exact ih fun y hy => h y (by simp [hy])
theorem cut_sB (l : List Nat) (c : Nat) (ho : oct l) (hc : c < 256) : (⟨(Lib.cut (sB l).data.toList (sB [c]).data.toList).1.toArray⟩ : ByteArray) = sB (bef c l) := by
  rw [sB_data, sB_data]
  unfold Lib.cut
  rcases idx1 (UInt8.ofNat c) (l.map UInt8.ofNat) with ⟨h1, h2⟩ | ⟨a, b, h1, h2, h3⟩
  · rw [show ([c].map UInt8.ofNat) = [UInt8.ofNat c] from rfl, h1, if_neg (by omega)]
    have : ∀ x ∈ l, x ≠ c := fun x hx e => h2 _ (List.mem_map.2 ⟨x, hx, rfl⟩) (by rw [e])
    rw [bef_none c l this]
    rfl
  · rw [show ([c].map UInt8.ofNat) = [UInt8.ofNat c] from rfl, h3, if_pos (by omega)]
    simp only [Int.toNat_natCast]
    have e1 : l.map UInt8.ofNat = a ++ UInt8.ofNat c :: b := h1
    obtain ⟨l1, l2, rfl, e2, e3⟩ := List.map_eq_append_iff.1 e1
    obtain ⟨y, l3, rfl, e4, e5⟩ := List.map_eq_cons_iff.1 e3
    have hy : y = c := ofNat_inj (ho y (by simp)) hc e4
    subst hy
    have hne : ∀ x ∈ l1, x ≠ y := by
      intro x hx e
      subst e
      exact h2 (UInt8.ofNat x) (by rw [← e2]; exact List.mem_map.2 ⟨x, hx, rfl⟩) rfl
    rw [bef_at y l1 l3 hne, h1, List.take_left, ← e2]
    rfl
/-- A last letter struck. -/
def trm (c : Nat) (l : List Nat) : List Nat := if l.getLast? = some c then l.dropLast else l
theorem trim_sB (l : List Nat) (c : Nat) (ho : oct l) (hc : c < 256) : (⟨(Lib.trimSuffix (sB l).data.toList (sB [c]).data.toList).toArray⟩ : ByteArray) = sB (trm c l) := by
  rw [sB_data, sB_data]
  unfold Lib.trimSuffix Lib.hasSuffix trm
  have key : [c].map UInt8.ofNat = [UInt8.ofNat c] := rfl
  rw [key]
  rcases List.eq_nil_or_concat l with rfl | ⟨L, b, rfl⟩
  · rfl
  · rw [List.concat_eq_append]
    have hb : b < 256 := ho b (by simp)
    have e1 : (L ++ [b]).getLast? = some b := by simp
    have e2 : ([UInt8.ofNat c].isSuffixOf ((L ++ [b]).map UInt8.ofNat) = true) ↔ b = c := by
      rw [List.isSuffixOf_iff_suffix, List.map_append]
      constructor
      · rintro ⟨t, ht⟩
        have := List.append_inj_right' ht (by simp)
        simp only [List.map_cons, List.map_nil, List.cons.injEq, and_true] at this
        exact (ofNat_inj hc hb this).symm
      · rintro rfl
        exact ⟨_, rfl⟩
    rw [e1]
    by_cases hbc : b = c
    · rw [if_pos (e2.2 hbc), if_pos (by rw [hbc])]
      simp [sB]
    · rw [if_neg (fun h => hbc (e2.1 h)), if_neg (by simpa using hbc)]
      simp [sB]
end Go.Pg
end

section
/-
  Lines and fields: plain laws.
-/
namespace Go.Pg
open Go

/-- The last piece struck if it is empty. -/
def dropE (xs : List (List Nat)) : List (List Nat) := if xs.getLast? = some [] then xs.dropLast else xs
theorem dropE_snoc (ps : List (List Nat)) (w : List Nat) : dropE (ps ++ [w]) = if w = [] then ps else ps ++ [w] := by
  unfold dropE
  by_cases h : w = []
  · subst h; simp
  · simp [h]
theorem lines_eq (c : Nat) (l : List Nat) (h : l ≠ []) : spl c (trm c l) = dropE (spl c l) := by
  rcases List.eq_nil_or_concat l with rfl | ⟨L, b, rfl⟩
  · exact absurd rfl h
  · rw [List.concat_eq_append]
    unfold trm
    by_cases hb : b = c
    · subst hb
      rw [if_pos (by simp), List.dropLast_concat, spl_snoc, dropE_snoc, if_pos rfl]
    · rw [if_neg (by simpa using hb)]
      obtain ⟨ps, w, e⟩ := spl_last c L
      rw [spl_one c b hb L ps w e, dropE_snoc, if_neg (by simp)]
def nonE (w : List Nat) : Bool := !w.isEmpty
theorem nonE_ne (w : List Nat) : nonE w = decide (w ≠ []) := by cases w <;> simp [nonE]
/-- A line's fields. -/
def fld (l : List Nat) : List (List Nat) := (spl 32 (bef 35 l)).filter nonE
theorem bef_len (c : Nat) (l : List Nat) : (bef c l).length ≤ l.length := by
  unfold bef
  induction l with
  | nil => simp
  | cons a l ih =>
    rw [List.takeWhile_cons]
    split
    · simp; omega
    · simp
theorem bef_mem (c : Nat) (l : List Nat) : ∀ x ∈ bef c l, x ∈ l ∧ x ≠ c := by
  unfold bef
  induction l with
  | nil => intro x hx; cases hx
  | cons a l ih =>
    intro x hx
    rw [List.takeWhile_cons] at hx
    split at hx
    · rename_i ha
      rcases List.mem_cons.1 hx with rfl | hx
      · exact ⟨by simp, by simpa using ha⟩
      · have := ih x hx; exact ⟨by simp [this.1], this.2⟩
    · cases hx
/-- How far it goes. -/
theorem bef_take (c : Nat) (l : List Nat) : bef c l = l.take (bef c l).length ∧ ((bef c l).length < l.length → l.getD (bef c l).length 0 = c) := by
  unfold bef
  induction l with
  | nil => simp
  | cons a l ih =>
    rw [List.takeWhile_cons]
    split
    · rename_i ha
      refine ⟨?_, fun h => ?_⟩
      · rw [List.length_cons, List.take_succ_cons, ← ih.1]
      · have := ih.2 (by simpa using h)
        simpa [List.getD] using this
    · rename_i ha
      have : a = c := by simpa using ha
      simp [this]
/-- Words between blanks. -/
theorem fld_word (s b w : List Nat) (hs : ∀ x ∈ s, x ≠ 35) (hb : ∀ x ∈ b, x = 32) (hb0 : b ≠ []) (hw : ∀ x ∈ w, x ≠ 32 ∧ x ≠ 35) (hw0 : w ≠ []) : fld (s ++ b ++ w) = fld s ++ [w] := by
  have h1 : ∀ x ∈ s ++ b ++ w, x ≠ 35 := by
    intro x hx
    simp only [List.mem_append] at hx
    rcases hx with (hx | hx) | hx
    · exact hs x hx
    · rw [hb x hx]; decide
    · exact (hw x hx).2
  unfold fld
  rw [bef_none 35 _ h1, bef_none 35 s hs]
  obtain ⟨y, b', rfl⟩ : ∃ y b', b = y :: b' := by cases b with | nil => exact absurd rfl hb0 | cons y b' => exact ⟨y, b', rfl⟩
  have hy : y = 32 := hb y (by simp)
  subst hy
  rw [List.append_assoc, List.cons_append, spl_mid, List.filter_append]
  congr 1
  have hb' : ∀ x ∈ b', x = 32 := fun x hx => hb x (by simp [hx])
  clear hb hb0 h1
  induction b' with
  | nil =>
    rw [List.nil_append, spl_none 32 w (fun x hx => (hw x hx).1)]
    simp [nonE, hw0]
  | cons z b' ih =>
    have hz : z = 32 := hb' z (by simp)
    subst hz
    rw [List.cons_append, spl_hit, List.filter_cons]
    have : nonE [] = false := rfl
    rw [this, if_neg (by simp)]
    exact ih fun x hx => hb' x (by simp [hx])
theorem fld_first (b w : List Nat) (hb : ∀ x ∈ b, x = 32) (hw : ∀ x ∈ w, x ≠ 32 ∧ x ≠ 35) (hw0 : w ≠ []) : fld (b ++ w) = [w] := by
  cases b with
  | nil =>
    unfold fld
    rw [List.nil_append, bef_none 35 w (fun x hx => (hw x hx).2), spl_none 32 w (fun x hx => (hw x hx).1)]
    simp [nonE, hw0]
  | cons y b =>
    have := fld_word [] (y :: b) w (fun x hx => by cases hx) hb (by simp) hw hw0
    rw [List.nil_append] at this
    rw [this]
    simp [fld, bef, spl, nonE]
theorem fld_comment (s t : List Nat) (hs : ∀ x ∈ s, x ≠ 35) : fld (s ++ 35 :: t) = fld s := by
  unfold fld
  rw [bef_at 35 s t hs, bef_none 35 s hs]
end Go.Pg
end
