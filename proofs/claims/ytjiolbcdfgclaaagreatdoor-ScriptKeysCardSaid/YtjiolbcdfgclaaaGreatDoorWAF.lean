/-
  Texts of this claim, merged. Each bears its own remark.
-/
import Derived.Test.YtjiolbcdfgclaaaGreatDoorWAE
import Derived.Test.YtjiolbcdfgclaaaGreatDoorWAD
import Derived.Test.YtjiolbcdfgclaaaGreatDoorWAC
set_option linter.unusedVariables false
set_option linter.unusedSimpArgs false
set_option linter.unusedSectionVars false
section
/-
  Scripts: the reader's op, of an insertion's words.
-/
namespace Go.Proofs.YtjiolbcdfgclaaaGreatDoor
open Go Go.Pg
set_option maxRecDepth 100000
set_option linter.unusedSimpArgs false
set_option linter.unusedVariables false

theorem g_bytes (e : Nat → V) (bx : Nat → Option (TypeId × List V)) (n : Nat) (h : Nat → V) (b : Nat) (l : List (List Nat)) (bad : Bool) (hb : bx b = some (108, rdC l bad)) (hbn : b < n) (hl : l.length ≤ 1000000) (ho : oct (hdW l)) (hw : (hdW l).length ≤ 1000000) :
    GoodZ Tryz.prog 96 [.ref b 0] ⟨e, bx, n, h⟩ ⟨e, upd bx b (some (108, rdC l.tail (bad || l.isEmpty || bbad (hdW l)))), n + 1000002, h⟩ (byR n (hdW l)) :=
  GoodZ.fresh (x0 := (108, rdC l bad)) (X := (108, rdC l.tail (bad || l.isEmpty || bbad (hdW l)))) (fr_rd n _ _) (fun e bx h hE hB hH hb => g_bytes0 n b l bad hbn hl ho hw e bx h hE hB hH hb) e bx h hb
/-- Items read: those there, what is left of the words, and whether something was wrong. -/
def its (acc : List (List Nat × Int)) (l : List (List Nat)) (bad : Bool) : List (List Nat × Int) × List (List Nat) × Bool :=
  match bad, l with
  | true, l => (acc, l, true)
  | false, [] => (acc, [], false)
  | false, [k] => (acc ++ [((pk k).1, (pint []).1)], [], true)
  | false, k :: w :: r => its (acc ++ [((pk k).1, (pint w).1)]) r (kbad (k :: w :: r) || nbad (w :: r))
termination_by l.length
theorem its_t (acc : List (List Nat × Int)) (l : List (List Nat)) : its acc l true = (acc, l, true) := by unfold its; rfl
theorem its_n (acc : List (List Nat × Int)) : its acc [] false = (acc, [], false) := by unfold its; rfl
theorem its_c (acc : List (List Nat × Int)) (k : List Nat) (l : List (List Nat)) : its acc (k :: l) false = its (acc ++ [((pk k).1, (pint (hdW l)).1)]) l.tail (kbad (k :: l) || nbad l) := by
  cases l with
  | nil =>
    have e : (kbad [k] || nbad []) = true := by simp [nbad]
    rw [e]
    show its acc [k] false = its _ [] true
    rw [its_t]
    unfold its
    rfl
  | cons w r =>
    conv => lhs; unfold its
    rfl
/-- The items so far, as a slice. -/
def itA (id : Nat) (acc : List (List Nat × Int)) : V := if acc = [] then nls else .sl (.own id 64) 2 (itv acc)
/-- An insertion's cells as it is read. -/
abbrev opI (nm : List Nat) (it co : V) : List V := [vi 6, vs nm, vs [], nls, vi 0, vi 0, vi 0, vu 0, it, co, vi 0, vi 0, vi 0, vi 0, vi 0, vi 0, vi 0, vs [], vi 0, vi 0, vi 0, nls]
/-- Boxes up to a name. -/
def cutB (m : Nat) (f : Nat → Option (TypeId × List V)) : Nat → Option (TypeId × List V) := fun c => if m < c then none else f c
theorem cutB_at (m : Nat) (f : Nat → Option (TypeId × List V)) (c : Nat) : cutB m f c = if m < c then none else f c := rfl
/-- The boxes at the loop's head. -/
def opB (bx : Nat → Option (TypeId × List V)) (n b : Nat) (nm : List Nat) (it co : V) (l : List (List Nat)) (bad : Bool) : Nat → Option (TypeId × List V) :=
  cutB (n + 1 + 1) (upd (upd (upd bx n (some (32, op0 0))) (n + 1 + 1) (some (32, opI nm it co))) b (some (108, rdC l bad)))
theorem byR_cs (n : Nat) (w : List Nat) : (byR n w).cs = some [byR n w] := by unfold byR; split <;> rfl
theorem byR_one (n : Nat) (w : List Nat) : (byR n w).one = true := by unfold byR; split <;> rfl
theorem byR_poi (n : Nat) (w : List Nat) (id : Nat) (h : ¬ n + 1 = id) : poison id (byR n w) = byR n w := by
  unfold byR
  split
  · rfl
  · rw [poison_at, has_at]
    have : (V.sl (Tag.own (n + 1) 5) 1 (bv (byV w))).any (Tag.is id) (fun _ => false) false = false := by simp [V.any, Tag.is, h]
    rw [this]; rfl
theorem byR_any (n : Nat) (w : List Nat) (id : Nat) (h : ¬ n + 1 = id) : (byR n w).any (Tag.is id) (fun _ => false) false = false := by
  unfold byR
  split
  · rfl
  · simp [V.any, Tag.is, h]
theorem itA_one (id : Nat) (acc : List (List Nat × Int)) : (itA id acc).one = true := by unfold itA; split <;> rfl
theorem itA_nil (id : Nat) : itA id [] = nls := rfl
theorem itA_c (id : Nat) (acc : List (List Nat × Int)) (h : acc ≠ []) : itA id acc = .sl (.own id 64) 2 (itv acc) := if_neg h
theorem itv_snoc (l : List (List Nat × Int)) (k : List Nat) (n : Int) : itv l ++ [V.agg [vs k, vi n]] = itv (l ++ [(k, n)]) := by simp [itv]
set_option maxHeartbeats 2000000 in
theorem g_opIns0 (n b : Nat) (l : List (List Nat)) (hbn : b < n) (hl : l.length ≤ 100000) (ho : ∀ x ∈ l, oct x) (hw : ∀ x ∈ l, x.length ≤ 100000) (e : Nat → V) (bx : Nat → Option (TypeId × List V)) (h : Nat → V) (hE : FrE n e) (hB : FrB n bx) (hH : FrE n h) (hb : bx b = some (108, rdC ([105, 110, 115, 101, 114, 116] :: l) false)) :
    GoodZ Tryz.prog 54 [.ref b 0] ⟨e, bx, n, h⟩ ⟨e, upd bx b (some (108, rdC (its [] l.tail.tail (l.isEmpty || l.tail.isEmpty || bbad (hdW l.tail))).2.1 (its [] l.tail.tail (l.isEmpty || l.tail.isEmpty || bbad (hdW l.tail))).2.2)), n + 10000000, h⟩
      (.agg (opI (hdW l) (itA (n + 1000007) (its [] l.tail.tail (l.isEmpty || l.tail.isEmpty || bbad (hdW l.tail))).1) (byR (n + 3) (hdW l.tail)))) := by
  have hne : ∀ j, j < 6 → 1 ≤ j → wordsL.getD j [] ≠ [105, 110, 115, 101, 114, 116] := by decide
  have d1 : ¬ n = b := by omega
  have d2 : ¬ b = n := by omega
  have d3 : ¬ n = n + 1 + 1 := by omega
  have d4 : ¬ n + 1 + 1 = n := by omega
  have d5 : ¬ n + 1 + 1 = b := by omega
  have d6 : ¬ b = n + 1 + 1 := by omega
  have d7 : ¬ n + 2 = n := by omega
  have d8 : ¬ n = n + 2 := by omega
  have d9 : ¬ n + 2 = b := by omega
  have d0 : ¬ b = n + 2 := by omega
  have c1 : ¬ n + 1 + 1 < b := by omega
  have c2 : ¬ n + 1 + 1 < n := by omega
  have c3 : ¬ n + 1 + 1 < n + 1 + 1 := by omega
  have hoh : ∀ l' : List (List Nat), (∀ x ∈ l', oct x) → oct (hdW l') := fun l' h' => hdW_oct h'
  have hwt : ∀ l' : List (List Nat), (∀ x ∈ l', x.length ≤ 100000) → (hdW l').length ≤ 1000000 := fun l' h' => by
    cases l' with
    | nil => simp [hdW]
    | cons x r => have := h' x (by simp); simp only [hdW, List.headD_cons]; omega
  have hot := hoh l.tail (fun x hx => ho x (List.mem_of_mem_tail hx))
  have hwt1 := hwt l.tail (fun x hx => hw x (List.mem_of_mem_tail hx))
  generalize hF : its [] l.tail.tail (l.isEmpty || l.tail.isEmpty || bbad (hdW l.tail)) = F
  have key : ∃ bx' n', GoodZ Tryz.prog 54 [.ref b 0] ⟨e, bx, n, h⟩ ⟨e, bx', n', h⟩ (.agg (opI (hdW l) (itA (n + 1000007) F.1) (byR (n + 3) (hdW l.tail)))) ∧ n' ≤ n + 10000000 ∧ ∀ c, upd bx b (some (108, rdC F.2.1 F.2.2)) c = bx' c ∨ upd bx b (some (108, rdC F.2.1 F.2.2)) c = none ∨ (n ≤ c ∧ upd bx b (some (108, rdC F.2.1 F.2.2)) c = bx c) := by
    refine ⟨upd (opB bx n b (hdW l) (itA (n + 1000007) F.1) (byR (n + 3) (hdW l.tail)) F.2.1 F.2.2) n (some (32, opI (hdW l) (itA (n + 1000007) F.1) (byR (n + 3) (hdW l.tail)))), n + 10000000, ?_, Nat.le_refl _, ?_⟩
    · refine goodZ_intro (drawW_ok mix) Tryz.func54 rfl Tryz.results54 rfl (by kernel_rfl) (Nat.le_of_ble_eq_true (by kernel_rfl)) ?_
      (repeat' (first | (simp (disch := first | assumption | omega | (simp only [Fits, maxLen, pgq] at *; omega)) only [pgo, pgb, tyf, buildSliceV_w, simprocAttr, Tryz.f54, inlS_at, inlQ_ret, inlQ_normal, hb, str_nil, d1, d2, d3, d4, d5, d6, upd_upd, byR_cs, byR_one]) | ((with_reducible show callW _ _ _ _ _ _); first | refine callW_use _ (g_words) rfl rfl rfl rfl ?_ | refine callZ _ (g_findS _ _ _ _ b [105, 110, 115, 101, 114, 116] l _ wordsL 6 (by simp only [upd]; rw [if_neg (by omega)]; exact hb) (by omega) (oct_dec _ rfl) wl_oct (by decide) (by decide) rfl hne) rfl ?_ | refine callZ _ (g_word _ _ _ _ b l false (by simp only [upd]; (repeat' (first | rw [if_neg (by omega)] | rw [if_pos rfl] | rw [if_pos trivial]))) (by omega)) rfl ?_ | refine callZ _ (g_bytes _ _ _ _ b l.tail _ (by simp only [upd]; (repeat' (first | rw [if_neg (by omega)] | rw [if_pos rfl] | rw [if_pos trivial]))) (by omega) (by simp only [List.length_tail]; omega) hot hwt1) rfl ?_) | ((first | ((with_reducible show condC _ _ _ _ _ _ _); refine cond_at (fun hc => ?_) (fun hc => ?_)) | ((with_reducible show guardC _ _ _ _ _ _ _ _); refine guard_at (fun hc => ?_) (fun hc => ?_)) | ((with_reducible show drwG _ _ _ _ _ _ _ _ _ _); refine drw_at (fun hc => ?_) (fun hc => ?_))) <;> (try simp only [hc]) <;> (try simp only [pgd] at hc)) | (with_reducible refine chk_at (by kernel_rfl) ?_)))
      refine loop_E (fun _ : List (List Nat × Int) × List (List Nat) × Bool => [(0, .ref b 0), (2, .ref n 0), (3, .ref (n + 1 + 1) 0)]) (fun x => opB bx n b (hdW l) (itA (n + 1000007) x.1) (byR (n + 3) (hdW l.tail)) x.2.1 x.2.2) (fun x => n + 1000005 + 3 * x.1.length) (fun x => its x.1 x.2.1 x.2.2 = F ∧ x.1.length + x.2.1.length ≤ 100000 ∧ (∀ y ∈ x.2.1, oct y ∧ y.length ≤ 100000)) (fun x => x.2.1.length) ([], l.tail.tail, l.isEmpty || l.tail.isEmpty || bbad (hdW l.tail)) ?_ ?_ ?_ ?_ ?_
      · ((try simp only [EnvIs_cons, EnvIs_nil, finE_at, finE_nil, pgo, simprocAttr, and_true, true_and]); try (repeat' (first | exact trivial | rfl | apply And.intro)))
      · intro c
        simp only [opB, cutB, upd, itA_nil]
        (repeat' split) <;> first | exact .inr rfl | exact .inl rfl | (exfalso; omega)
      · show n + 1 + 1 + 1 + 1000002 ≤ _
        simp only [List.length_nil]; omega
      · refine ⟨hF, by simp only [List.length_nil, List.length_tail]; omega, fun y hy => ?_⟩
        have h1 := List.mem_of_mem_tail (List.mem_of_mem_tail hy)
        exact ⟨ho y h1, hw y h1⟩
      · rintro ⟨acc, l', bad⟩ ⟨hi1, hi2, hi3⟩
        simp only at hi1 hi2 hi3
        have hfin : ∀ (hx : its acc l' bad = (acc, l', bad)), F = (acc, l', bad) := fun hx => by rw [← hi1, hx]
        cases bad with
        | true =>
          have hF' := hfin (its_t acc l')
          subst hF'
          have hx := sv_len l'
          (repeat' (first | (simp (disch := first | assumption | omega | (simp only [Fits, maxLen, pgq] at *; omega)) only [pgo, pgb, tyf, buildSliceV_w, simprocAttr, opB, cutB_at, c1, c2, c3, hx, inlQ_ret, inlQ_normal, d1, d2, d3, d4, d5, d6, itA_one, byR_one]) | ((first | ((with_reducible show condC _ _ _ _ _ _ _); refine cond_at (fun hc => ?_) (fun hc => ?_)) | ((with_reducible show guardC _ _ _ _ _ _ _ _); refine guard_at (fun hc => ?_) (fun hc => ?_)) | ((with_reducible show drwG _ _ _ _ _ _ _ _ _ _); refine drw_at (fun hc => ?_) (fun hc => ?_))) <;> (try simp only [hc]) <;> (try simp only [pgd] at hc)) | (with_reducible refine chk_at (by kernel_rfl) ?_)))
          all_goals (refine inl_le (by first | exact retV_one _ _ _ | exact retV_two _ _ _ _ | (simp (disch := first | assumption | omega | (simp only [Fits, maxLen, pgq] at *; omega)) only [pgr, pgo, tyf, simprocAttr, d1, d2, d3, d4, d5, d6, c1, c2, c3, opB, cutB_at]; done) | (simp (disch := first | assumption | omega | (simp only [Fits, maxLen, pgq] at *; omega)) only [pgr, pgo, tyf, simprocAttr, d1, d2, d3, d4, d5, d6, c1, c2, c3, opB, cutB_at]; rfl)) (unE_pair _ _) (unH_pair _ _) (by first | rfl | skip) (by first | omega | skip))
        | false =>
          cases l' with
          | nil =>
            have hF' := hfin (its_n acc)
            subst hF'
            have hx := sv_len []
            (repeat' (first | (simp (disch := first | assumption | omega | (simp only [Fits, maxLen, pgq] at *; omega)) only [pgo, pgb, tyf, buildSliceV_w, simprocAttr, opB, cutB_at, c1, c2, c3, hx, inlQ_ret, inlQ_normal, d1, d2, d3, d4, d5, d6, itA_one, byR_one]) | ((first | ((with_reducible show condC _ _ _ _ _ _ _); refine cond_at (fun hc => ?_) (fun hc => ?_)) | ((with_reducible show guardC _ _ _ _ _ _ _ _); refine guard_at (fun hc => ?_) (fun hc => ?_)) | ((with_reducible show drwG _ _ _ _ _ _ _ _ _ _); refine drw_at (fun hc => ?_) (fun hc => ?_))) <;> (try simp only [hc]) <;> (try simp only [pgd] at hc)) | (with_reducible refine chk_at (by kernel_rfl) ?_)))
            all_goals (refine inl_le (by first | exact retV_one _ _ _ | exact retV_two _ _ _ _ | (simp (disch := first | assumption | omega | (simp only [Fits, maxLen, pgq] at *; omega)) only [pgr, pgo, tyf, simprocAttr, d1, d2, d3, d4, d5, d6, c1, c2, c3, opB, cutB_at]; done) | (simp (disch := first | assumption | omega | (simp only [Fits, maxLen, pgq] at *; omega)) only [pgr, pgo, tyf, simprocAttr, d1, d2, d3, d4, d5, d6, c1, c2, c3, opB, cutB_at]; rfl)) (unE_pair _ _) (unH_pair _ _) (by first | rfl | skip) (by first | omega | skip))
          | cons k r =>
            have hx := sv_len (k :: r)
            have hk := hi3 k (by simp)
            have hrl : acc.length + r.length + 1 ≤ 100000 := by simpa [Nat.add_assoc] using hi2
            have hr : oct (hdW r) ∧ (hdW r).length ≤ 1000000 := by
              cases r with
              | nil => exact ⟨oct_nil, by simp [hdW]⟩
              | cons w r => have := hi3 w (by simp); exact ⟨this.1, by simp only [hdW, List.headD_cons]; omega⟩
            have hlen : ((k :: r).length : Int) = (r.length : Int) + 1 := by simp
            rw [its_c] at hi1
            have hnxt : its (acc ++ [((pk k).1, (pint (hdW r)).1)]) r.tail (kbad (k :: r) || nbad r) = F ∧ (acc ++ [((pk k).1, (pint (hdW r)).1)]).length + r.tail.length ≤ 100000 ∧ ∀ y ∈ r.tail, oct y ∧ y.length ≤ 100000 := by
              refine ⟨hi1, by simp only [List.length_append, List.length_cons, List.length_nil, List.length_tail]; omega, fun y hy => hi3 y (by simp [List.mem_of_mem_tail hy])⟩
            have m1 : ¬ n + 1000005 + 3 * acc.length = b := by omega
            have m2 : ¬ b = n + 1000005 + 3 * acc.length := by omega
            have m3 : ¬ n + 1000005 + 3 * acc.length = n := by omega
            have m4 : ¬ n = n + 1000005 + 3 * acc.length := by omega
            have m5 : ¬ n + 1000005 + 3 * acc.length = n + 1 + 1 := by omega
            have m6 : ¬ n + 1 + 1 = n + 1000005 + 3 * acc.length := by omega
            have hP := mapE_fr (id := n + 1000007) (frE_pair hE hH) (by omega)
            have hk1 : hdW (k :: r) = k := rfl
            have hbc : ∀ c, (bx c).map (fun y => (y.1, y.2.map (poison (n + 1000007)))) = bx c := fun c => congrFun (mapB_fr (id := n + 1000007) hB (by omega)) c
            have hit := itv_len acc
            by_cases hac : acc = []
            · have eA : itA (n + 1000007) acc = nls := by rw [hac]; rfl
              (repeat' (first | (simp (disch := first | assumption | omega | (simp only [Fits, maxLen, pgq] at *; omega)) only [pgo, pgb, tyf, buildSliceV_w, simprocAttr, opB, cutB_at, c1, c2, c3, hx, hlen, eA, hk1, itA_one, byR_one, inlQ_normal, List.tail_cons, Bool.false_or, d1, d2, d3, d4, d5, d6, m1, m2, m3, m4, m5, m6, upd_upd]) | ((with_reducible show callW _ _ _ _ _ _); first | refine callZ _ (g_key _ _ _ _ b (k :: r) false (by simp only [opB, cutB, upd]; (repeat' (first | rw [if_neg (by omega)] | rw [if_pos rfl] | rw [if_pos trivial]))) (by simp only [List.length_cons]; omega) hk.1 (by rw [hk1]; omega)) rfl ?_ | refine callZ _ (g_number _ _ _ _ b r _ (by simp only [opB, cutB, upd]; (repeat' (first | rw [if_neg (by omega)] | rw [if_pos rfl] | rw [if_pos trivial]))) (by omega) hr.1 hr.2) rfl ?_) | ((first | ((with_reducible show condC _ _ _ _ _ _ _); refine cond_at (fun hc => ?_) (fun hc => ?_)) | ((with_reducible show guardC _ _ _ _ _ _ _ _); refine guard_at (fun hc => ?_) (fun hc => ?_)) | ((with_reducible show drwG _ _ _ _ _ _ _ _ _ _); refine drw_at (fun hc => ?_) (fun hc => ?_))) <;> (try simp only [hc]) <;> (try simp only [pgd] at hc)) | (with_reducible refine chk_at (by kernel_rfl) ?_)))
              refine back_E (acc ++ [((pk k).1, (pint (hdW r)).1)], r.tail, kbad (k :: r) || nbad r) hnxt (by simp only [List.length_cons, List.length_tail]; omega) ?_ ?_ (by simp only [List.length_append, List.length_cons, List.length_nil]; first | omega | (split <;> omega))
              · ((try simp only [EnvIs_cons, EnvIs_nil, finE_at, finE_nil, pgo, simprocAttr, and_true, true_and]); try (repeat' (first | exact trivial | rfl | apply And.intro)))
              · intro c
                subst hac
                simp only [opB, cutB, upd]
                (repeat' split) <;> first | exact .inr rfl | exact .inl rfl | (exfalso; omega)
            · have eA := itA_c (n + 1000007) acc hac
              have hby := byR_any (n + 3) (hdW l.tail) (n + 1000007) (by omega)
              (repeat' (first | (simp (disch := first | assumption | omega | (simp only [Fits, maxLen, pgq] at *; omega)) only [pgo, pgb, tyf, buildSliceV_w, simprocAttr, hby, opB, cutB_at, c1, c2, c3, hx, hlen, eA, hk1, itA_one, byR_one, inlQ_normal, hP, List.tail_cons, Bool.false_or, d1, d2, d3, d4, d5, d6, m1, m2, m3, m4, m5, m6, upd_upd, itv_snoc]) | ((with_reducible show callW _ _ _ _ _ _); first | refine callZ _ (g_key _ _ _ _ b (k :: r) false (by simp only [opB, cutB, upd]; (repeat' (first | rw [if_neg (by omega)] | rw [if_pos rfl] | rw [if_pos trivial]))) (by simp only [List.length_cons]; omega) hk.1 (by rw [hk1]; omega)) rfl ?_ | refine callZ _ (g_number _ _ _ _ b r _ (by simp only [opB, cutB, upd]; (repeat' (first | rw [if_neg (by omega)] | rw [if_pos rfl] | rw [if_pos trivial]))) (by omega) hr.1 hr.2) rfl ?_) | ((first | ((with_reducible show condC _ _ _ _ _ _ _); refine cond_at (fun hc => ?_) (fun hc => ?_)) | ((with_reducible show guardC _ _ _ _ _ _ _ _); refine guard_at (fun hc => ?_) (fun hc => ?_)) | ((with_reducible show drwG _ _ _ _ _ _ _ _ _ _); refine drw_at (fun hc => ?_) (fun hc => ?_))) <;> (try simp only [hc]) <;> (try simp only [pgd] at hc)) | (with_reducible refine chk_at (by kernel_rfl) ?_)))
              refine back_E (acc ++ [((pk k).1, (pint (hdW r)).1)], r.tail, kbad (k :: r) || nbad r) hnxt (by simp only [List.length_cons, List.length_tail]; omega) ?_ ?_ (by simp only [List.length_append, List.length_cons, List.length_nil]; first | omega | (split <;> omega))
              · ((try simp only [EnvIs_cons, EnvIs_nil, finE_at, finE_nil, pgo, simprocAttr, and_true, true_and]); try (repeat' (first | exact trivial | rfl | apply And.intro)))
              · intro c
                have eN : itA (n + 1000007) (acc ++ [((pk k).1, (pint (hdW r)).1)]) = .sl (.own (n + 1000007) 64) 2 (itv (acc ++ [((pk k).1, (pint (hdW r)).1)])) := itA_c _ _ (by simp)
                simp only [opB, cutB, upd, mapB_lk, eN]
                (repeat' split) <;> first | exact .inr rfl | exact .inl rfl | (exfalso; omega) | exact .inl (hbc c).symm | skip
    · intro c
      simp only [opB, cutB, upd]
      (repeat' split) <;> first | exact .inl rfl | exact .inr (.inl rfl) | exact .inr (.inr ⟨by omega, rfl⟩) | (exfalso; omega)
  obtain ⟨bx', n', h1, h2, h3⟩ := key
  exact h1.le h2 h3
end Go.Proofs.YtjiolbcdfgclaaaGreatDoor
end

section
/-
  Scripts: FormatOp of a creation of a LogLog sketch that is valid.
-/
namespace Go.Proofs.YtjiolbcdfgclaaaGreatDoor
open Go Go.Pg
set_option maxRecDepth 100000
set_option linter.unusedSimpArgs false
set_option linter.unusedVariables false

theorem kinds_get3 : (sv kindsL)[3]? = some (.c (.string (sB [108, 111, 103, 108, 111, 103]))) := rfl
theorem wordsL_get1 : (sv wordsL)[1]? = some (.c (.string (sB [99, 114, 101, 97, 116, 101]))) := rfl
theorem g_fmtPrm3 (z d : Int) (u : Nat) (hz : Wt z) (hu : u < 18446744073709551616) : Pg.Good Tryz.prog 42 [.agg [vi 3, vi z, vi d, vu u]] (.sl (.own 0 9) 1 (sv [[108, 111, 103, 108, 111, 103], itoaN z, hexU u])) := by
  have hkl : (sv kindsL).length = 7 := rfl
  refine good_intro (drawD_ok [] mix) Tryz.func42 rfl Tryz.results42 rfl (by kernel_rfl) (Nat.le_of_ble_eq_true (by kernel_rfl)) ?_
  (repeat' (first | (simp (disch := first | assumption | omega | (simp only [Fits, maxLen, pgq] at *; omega)) only [pgo, pgb, tyf, buildSliceV_w, simprocAttr, Tryz.f42, pga, kinds_get3, hkl]) | ((with_reducible show callW _ _ _ _ _ _); first | refine callW_use _ (g_kinds) rfl rfl rfl rfl ?_ | refine callW_use _ (g_FormatUint u hu) rfl rfl rfl rfl ?_ | refine callW_use _ (good23 z hz.1 hz.2) rfl rfl rfl rfl ?_) | ((with_reducible show callAW _ _ _ _ _ _ _); first | refine callA_use _ (g_kinds) rfl rfl rfl rfl rfl (Nat.le_of_ble_eq_true rfl) ?_ | refine callA_use _ (g_FormatUint u hu) rfl rfl rfl rfl rfl (Nat.le_of_ble_eq_true rfl) ?_ | refine callA_use _ (good23 z hz.1 hz.2) rfl rfl rfl rfl rfl (Nat.le_of_ble_eq_true rfl) ?_) | ((first | ((with_reducible show condC _ _ _ _ _ _ _); refine cond_at (fun hc => ?_) (fun hc => ?_)) | ((with_reducible show guardC _ _ _ _ _ _ _ _); refine guard_at (fun hc => ?_) (fun hc => ?_)) | ((with_reducible show drwG _ _ _ _ _ _ _ _ _ _); refine drw_at (fun hc => ?_) (fun hc => ?_))) <;> (try simp only [hc]) <;> (try simp only [pgd] at hc)) | (with_reducible refine chkA_at (by kernel_rfl) ?_) | ((with_reducible show drwE _ _ _ _ _); first | refine drwE_tt (by kernel_rfl) ?_ | refine drwE_ff (by kernel_rfl) ?_) | (with_reducible refine chk_at (by kernel_rfl) ?_)))
  (refine ret_at [6] _ (by first | exact retV_one _ _ _ | exact retV_two _ _ _ _ | exact retV_three _ _ _ _ _ | exact retV_four _ _ _ _ _ _ | (simp (disch := first | assumption | omega | (simp only [Fits, maxLen, pgq] at *; omega)) only [pgr, pgo, tyf, simprocAttr]; rfl)) (by decide) (by simp only [pgo, simprocAttr]) ?_; (first | rfl | simp only [pgo, simprocAttr]))
set_option maxHeartbeats 2000000 in
theorem g_FmtCre (o : O) (ho : o.Oct) (hk : o.kind = 1) (hp : o.pk = 3) (u : Nat) (hu : u < 18446744073709551616) (hps : o.ps = u) (hv : vop o = 0) (hn : o.name.length ≤ 1000) (hz : Wt o.pz) :
    Pg.Good Tryz.prog 13 [.agg (opF o)] (.tup [vs (jn [[99, 114, 101, 97, 116, 101], o.name, [108, 111, 103, 108, 111, 103], itoaN o.pz, hexU u]), vi 0]) := by
  have h1 := g_Validate o ho
  rw [hv] at h1
  have h3 := g_fmtPrm3 o.pz o.pd u hz hu
  have hxl := hexU_len u
  have hnd := (nd_bd 16 u (by simpa using hu) (by omega)).2.1
  have hzl := itoaN_len o.pz hz.1 hz.2
  have hjo := g_Join [[99, 114, 101, 97, 116, 101], o.name, [108, 111, 103, 108, 111, 103], itoaN o.pz, hexU u] (by
    have := jn_len [[99, 114, 101, 97, 116, 101], o.name, [108, 111, 103, 108, 111, 103], itoaN o.pz, hexU u]
    simp only [tot_cons, tot_nil, List.length_cons, List.length_nil] at this
    omega) (by simp)
  obtain ⟨kind, name, other, names, pk, pz, pd, ps, items, coins, exp, src, hnd, idx, cur, cnt, qk, qkey, qc, qn, qd, data⟩ := o
  simp only at hk hp hps hv hn hz h3 hzl hjo ⊢
  subst hk
  subst hp
  subst hps
  refine good_intro (drawD_ok [] mix) Tryz.func13 rfl Tryz.results13 rfl (by kernel_rfl) (Nat.le_of_ble_eq_true (by kernel_rfl)) ?_
  have hsl : (sv wordsL).length = 18 := rfl
  (repeat' (first | (simp (disch := first | assumption | omega | (simp only [Fits, maxLen, pgq] at *; omega)) only [pgo, pgb, tyf, buildSliceV_w, simprocAttr, Tryz.f13, pga, wordsL_get1, hsl, str_nil, k32, sv_len, List.append_eq, List.cons_append, List.nil_append, List.length_cons, List.length_nil]) | ((with_reducible show callW _ _ _ _ _ _); first | refine callW_use _ (h1) rfl rfl rfl rfl ?_ | refine callW_use _ (g_words) rfl rfl rfl rfl ?_ | refine callW_use _ (h3) rfl rfl rfl rfl ?_ | refine callW_use _ (hjo) rfl rfl rfl rfl ?_ | refine callY _ (g_addO _ _ _ _ _ _ _ [_] [_] rfl (by simp) rfl) rfl ?_ | refine callY _ (g_addO _ _ _ _ _ _ _ [_, _] [_, _, _] rfl (by simp) rfl) rfl ?_) | ((with_reducible show callAW _ _ _ _ _ _ _); first | refine callA_use _ (h1) rfl rfl rfl rfl rfl (Nat.le_of_ble_eq_true rfl) ?_ | refine callA_use _ (g_words) rfl rfl rfl rfl rfl (Nat.le_of_ble_eq_true rfl) ?_ | refine callA_use _ (h3) rfl rfl rfl rfl rfl (Nat.le_of_ble_eq_true rfl) ?_ | refine callA_use _ (hjo) rfl rfl rfl rfl rfl (Nat.le_of_ble_eq_true rfl) ?_ | refine callA_z _ (g_addO _ _ _ _ _ _ _ [_] [_] rfl (by simp) rfl) rfl ?_ | refine callA_z _ (g_addO _ _ _ _ _ _ _ [_, _] [_, _, _] rfl (by simp) rfl) rfl ?_) | ((first | ((with_reducible show condC _ _ _ _ _ _ _); refine cond_at (fun hc => ?_) (fun hc => ?_)) | ((with_reducible show guardC _ _ _ _ _ _ _ _); refine guard_at (fun hc => ?_) (fun hc => ?_)) | ((with_reducible show drwG _ _ _ _ _ _ _ _ _ _); refine drw_at (fun hc => ?_) (fun hc => ?_))) <;> (try simp only [hc]) <;> (try simp only [pgd] at hc)) | (with_reducible refine chkA_at (by kernel_rfl) ?_) | ((with_reducible show drwE _ _ _ _ _); first | refine drwE_tt (by kernel_rfl) ?_ | refine drwE_ff (by kernel_rfl) ?_) | (with_reducible refine chk_at (by kernel_rfl) ?_)))
  (refine ret_at [] _ (by first | exact retV_one _ _ _ | exact retV_two _ _ _ _ | exact retV_three _ _ _ _ _ | exact retV_four _ _ _ _ _ _ | (simp (disch := first | assumption | omega | (simp only [Fits, maxLen, pgq] at *; omega)) only [pgr, pgo, tyf, simprocAttr]; rfl)) (by decide) (by simp only [pgo, simprocAttr]) ?_; (first | rfl | simp only [pgo, simprocAttr]))
end Go.Proofs.YtjiolbcdfgclaaaGreatDoor
end

section
/-
  Scripts: the reader's op, of a creation's words; ParseOp of both.
-/
namespace Go.Proofs.YtjiolbcdfgclaaaGreatDoor
open Go Go.Pg
set_option maxRecDepth 100000
set_option linter.unusedSimpArgs false
set_option linter.unusedVariables false

theorem g_opIns (e : Nat → V) (bx : Nat → Option (TypeId × List V)) (n : Nat) (h : Nat → V) (b : Nat) (l : List (List Nat)) (hb : bx b = some (108, rdC ([105, 110, 115, 101, 114, 116] :: l) false)) (hbn : b < n) (hl : l.length ≤ 100000) (ho : ∀ x ∈ l, oct x) (hw : ∀ x ∈ l, x.length ≤ 100000) :
    GoodZ Tryz.prog 54 [.ref b 0] ⟨e, bx, n, h⟩ ⟨e, upd bx b (some (108, rdC (its [] l.tail.tail (l.isEmpty || l.tail.isEmpty || bbad (hdW l.tail))).2.1 (its [] l.tail.tail (l.isEmpty || l.tail.isEmpty || bbad (hdW l.tail))).2.2)), n + 10000000, h⟩
      (.agg (opI (hdW l) (itA (n + 1000007) (its [] l.tail.tail (l.isEmpty || l.tail.isEmpty || bbad (hdW l.tail))).1) (byR (n + 3) (hdW l.tail)))) :=
  GoodZ.fresh (x0 := (108, rdC ([105, 110, 115, 101, 114, 116] :: l) false)) (X := (108, rdC (its [] l.tail.tail (l.isEmpty || l.tail.isEmpty || bbad (hdW l.tail))).2.1 (its [] l.tail.tail (l.isEmpty || l.tail.isEmpty || bbad (hdW l.tail))).2.2)) (fr_rd n _ _) (fun e bx h hE hB hH hb => g_opIns0 n b l hbn hl ho hw e bx h hE hB hH hb) e bx h hb
theorem kl_oct : ∀ x ∈ kindsL, oct x := by
  intro x hx
  have : ∀ x ∈ kindsL, (x.all fun b => decide (b < 256)) = true := by decide
  intro b hb
  simpa using List.all_eq_true.1 (this x hx) b hb
theorem g_params3 (e : Nat → V) (bx : Nat → Option (TypeId × List V)) (n : Nat) (h : Nat → V) (b : Nat) (zw : List Nat) (u : Nat) (hu : u < 18446744073709551616) (rest : List (List Nat)) (hb : bx b = some (108, rdC ([108, 111, 103, 108, 111, 103] :: zw :: hexU u :: rest) false)) (hbn : b < n) (hl : rest.length ≤ 10000) (ho : oct zw) (hw : zw.length ≤ 100000) :
    GoodZ Tryz.prog 94 [.ref b 0] ⟨e, bx, n, h⟩ ⟨e, upd bx b (some (108, rdC rest (nbad (zw :: hexU u :: rest)))), n + 10, h⟩ (.agg [vi 3, vi (pint zw).1, vi 0, vu u]) := by
  have hne : ∀ j, j < 3 → 1 ≤ j → kindsL.getD j [] ≠ [108, 111, 103, 108, 111, 103] := by decide
  have d1 : ¬ n = b := by omega
  have d2 : ¬ b = n := by omega
  have d3 : ¬ n = n + 1 + 1 := by omega
  have d4 : ¬ n + 1 + 1 = n := by omega
  have d5 : ¬ n + 1 + 1 = b := by omega
  have d6 : ¬ b = n + 1 + 1 := by omega
  have hz1 : hdW (zw :: hexU u :: rest) = zw := rfl
  have key : ∃ bx' n', GoodZ Tryz.prog 94 [.ref b 0] ⟨e, bx, n, h⟩ ⟨e, bx', n', h⟩ (.agg [vi 3, vi (pint zw).1, vi 0, vu u]) ∧ n' ≤ n + 10 ∧ ∀ c, upd bx b (some (108, rdC rest (nbad (zw :: hexU u :: rest)))) c = bx' c ∨ upd bx b (some (108, rdC rest (nbad (zw :: hexU u :: rest)))) c = none ∨ (n ≤ c ∧ upd bx b (some (108, rdC rest (nbad (zw :: hexU u :: rest)))) c = bx c) := by
    apply Exists.intro; apply Exists.intro
    refine ⟨?_, ?_⟩
    · refine goodZ_intro (drawW_ok mix) Tryz.func94 rfl Tryz.results94 rfl (by kernel_rfl) (Nat.le_of_ble_eq_true (by kernel_rfl)) ?_
      (repeat' (first | (simp (disch := first | assumption | omega | (simp only [Fits, maxLen, pgq] at *; omega)) only [pgo, pgb, tyf, buildSliceV_w, simprocAttr, Tryz.f94, inlS_at, inlQ_ret, inlQ_normal, hb, hz1, List.tail_cons, Bool.false_or, d1, d2, d3, d4, d5, d6]) | ((with_reducible show callW _ _ _ _ _ _); first | refine callW_use _ (g_kinds) rfl rfl rfl rfl ?_ | refine callZ _ (g_findS _ _ _ _ b [108, 111, 103, 108, 111, 103] (zw :: hexU u :: rest) _ kindsL 3 (by simp only [upd]; (repeat' (first | rw [if_neg (by omega)] | rw [if_pos rfl] | rw [if_pos trivial])); try exact hb) (by simp only [List.length_cons]; omega) (oct_dec _ rfl) kl_oct (by decide) (by decide) rfl hne) rfl ?_ | refine callZ _ (g_number _ _ _ _ b (zw :: hexU u :: rest) false (by simp only [upd]; (repeat' (first | rw [if_neg (by omega)] | rw [if_pos rfl] | rw [if_pos trivial])); try exact hb) (by simp only [List.length_cons]; omega) ho (by rw [hz1]; omega)) rfl ?_ | refine callZ _ (g_seedS _ _ _ _ b u hu rest _ (by simp only [upd]; (repeat' (first | rw [if_neg (by omega)] | rw [if_pos rfl] | rw [if_pos trivial])); try exact hb) (by omega)) rfl ?_) | ((first | ((with_reducible show condC _ _ _ _ _ _ _); refine cond_at (fun hc => ?_) (fun hc => ?_)) | ((with_reducible show guardC _ _ _ _ _ _ _ _); refine guard_at (fun hc => ?_) (fun hc => ?_)) | ((with_reducible show drwG _ _ _ _ _ _ _ _ _ _); refine drw_at (fun hc => ?_) (fun hc => ?_))) <;> (try simp only [hc]) <;> (try simp only [pgd] at hc)) | (with_reducible refine chk_at (by kernel_rfl) ?_)))
      (refine inl_at (by first | exact retV_one _ _ _ | exact retV_two _ _ _ _ | (simp (disch := first | assumption | omega | (simp only [Fits, maxLen, pgq] at *; omega)) only [pgr, pgo, tyf, simprocAttr, d1, d2, d3, d4, d5, d6, hb]; done) | (simp (disch := first | assumption | omega | (simp only [Fits, maxLen, pgq] at *; omega)) only [pgr, pgo, tyf, simprocAttr, d1, d2, d3, d4, d5, d6, hb]; rfl)) ?_; rw [unE_pair, unH_pair])
    · refine ⟨by omega, ?_⟩
      exact pw (fun c hc => by simp only [upd]; (repeat' split) <;> first | rfl | omega) (fun c hc => by simp only [upd]; rw [if_neg (by omega)])
  obtain ⟨bx', n', h1, h2, h3⟩ := key
  exact h1.le h2 h3
/-- A creation's cells as it is read. -/
abbrev opP (nm : List Nat) (z : Int) (u : Nat) : List V := [vi 1, vs nm, vs [], nls, vi 3, vi z, vi 0, vu u, nls, nls, vi 0, vi 0, vi 0, vi 0, vi 0, vi 0, vi 0, vs [], vi 0, vi 0, vi 0, nls]
theorem g_opCre (e : Nat → V) (bx : Nat → Option (TypeId × List V)) (n : Nat) (h : Nat → V) (b : Nat) (nm zw : List Nat) (u : Nat) (hu : u < 18446744073709551616) (hb : bx b = some (108, rdC [[99, 114, 101, 97, 116, 101], nm, [108, 111, 103, 108, 111, 103], zw, hexU u] false)) (hbn : b < n) (ho : oct zw) (hw : zw.length ≤ 100000) :
    GoodZ Tryz.prog 54 [.ref b 0] ⟨e, bx, n, h⟩ ⟨e, upd bx b (some (108, rdC [] (nbad [zw, hexU u]))), n + 20, h⟩ (.agg (opP nm (pint zw).1 u)) := by
  have hne : ∀ j, j < 1 → 1 ≤ j → wordsL.getD j [] ≠ [99, 114, 101, 97, 116, 101] := by intro j h1 h2; omega
  have d1 : ¬ n = b := by omega
  have d2 : ¬ b = n := by omega
  have d3 : ¬ n = n + 1 + 1 := by omega
  have d4 : ¬ n + 1 + 1 = n := by omega
  have d5 : ¬ n + 1 + 1 = b := by omega
  have d6 : ¬ b = n + 1 + 1 := by omega
  have key : ∃ bx' n', GoodZ Tryz.prog 54 [.ref b 0] ⟨e, bx, n, h⟩ ⟨e, bx', n', h⟩ (.agg (opP nm (pint zw).1 u)) ∧ n' ≤ n + 20 ∧ ∀ c, upd bx b (some (108, rdC [] (nbad [zw, hexU u]))) c = bx' c ∨ upd bx b (some (108, rdC [] (nbad [zw, hexU u]))) c = none ∨ (n ≤ c ∧ upd bx b (some (108, rdC [] (nbad [zw, hexU u]))) c = bx c) := by
    apply Exists.intro; apply Exists.intro
    refine ⟨?_, ?_⟩
    · refine goodZ_intro (drawW_ok mix) Tryz.func54 rfl Tryz.results54 rfl (by kernel_rfl) (Nat.le_of_ble_eq_true (by kernel_rfl)) ?_
      (repeat' (first | (simp (disch := first | assumption | omega | (simp only [Fits, maxLen, pgq] at *; omega)) only [pgo, pgb, tyf, buildSliceV_w, simprocAttr, Tryz.f54, inlS_at, inlQ_ret, inlQ_normal, hb, str_nil, List.tail_cons, Bool.false_or, d1, d2, d3, d4, d5, d6]) | ((with_reducible show callW _ _ _ _ _ _); first | refine callW_use _ (g_words) rfl rfl rfl rfl ?_ | refine callZ _ (g_findS _ _ _ _ b [99, 114, 101, 97, 116, 101] [nm, [108, 111, 103, 108, 111, 103], zw, hexU u] _ wordsL 1 (by simp only [upd]; (repeat' (first | rw [if_neg (by omega)] | rw [if_pos rfl] | rw [if_pos trivial])); try exact hb) (by simp) (oct_dec _ rfl) wl_oct (by decide) (by decide) rfl hne) rfl ?_ | refine callZ _ (g_wordS _ _ _ _ b nm [[108, 111, 103, 108, 111, 103], zw, hexU u] false (by simp only [upd]; (repeat' (first | rw [if_neg (by omega)] | rw [if_pos rfl] | rw [if_pos trivial])); try exact hb) (by simp)) rfl ?_ | refine callZ _ (g_params3 _ _ _ _ b zw u hu [] (by simp only [upd]; (repeat' (first | rw [if_neg (by omega)] | rw [if_pos rfl] | rw [if_pos trivial])); try exact hb) (by omega) (by simp) ho hw) rfl ?_) | ((first | ((with_reducible show condC _ _ _ _ _ _ _); refine cond_at (fun hc => ?_) (fun hc => ?_)) | ((with_reducible show guardC _ _ _ _ _ _ _ _); refine guard_at (fun hc => ?_) (fun hc => ?_)) | ((with_reducible show drwG _ _ _ _ _ _ _ _ _ _); refine drw_at (fun hc => ?_) (fun hc => ?_))) <;> (try simp only [hc]) <;> (try simp only [pgd] at hc)) | (with_reducible refine chk_at (by kernel_rfl) ?_)))
      (refine inl_at (by first | exact retV_one _ _ _ | exact retV_two _ _ _ _ | (simp (disch := first | assumption | omega | (simp only [Fits, maxLen, pgq] at *; omega)) only [pgr, pgo, tyf, simprocAttr, d1, d2, d3, d4, d5, d6, hb]; done) | (simp (disch := first | assumption | omega | (simp only [Fits, maxLen, pgq] at *; omega)) only [pgr, pgo, tyf, simprocAttr, d1, d2, d3, d4, d5, d6, hb]; rfl)) ?_; rw [unE_pair, unH_pair])
    · refine ⟨by omega, ?_⟩
      exact pw (fun c hc => by simp only [upd]; (repeat' split) <;> first | rfl | omega) (fun c hc => by simp only [upd]; rw [if_neg (by omega)])
  obtain ⟨bx', n', h1, h2, h3⟩ := key
  exact h1.le h2 h3
/-- An insertion, a creation. -/
def oIns (nm : List Nat) (its : List (List Nat × Int)) (co : List Nat) : O := ⟨6, nm, [], [], 0, 0, 0, 0, its, co, 0, 0, 0, 0, 0, 0, 0, [], 0, 0, 0, []⟩
def oCre (nm : List Nat) (z : Int) (u : Nat) : O := ⟨1, nm, [], [], 3, z, 0, u, [], [], 0, 0, 0, 0, 0, 0, 0, [], 0, 0, 0, []⟩
theorem g_ParseCre (nm zw : List Nat) (u : Nat) (hu : u < 18446744073709551616) (ho : oct zw) (hw : zw.length ≤ 100000) (hon : oct nm) (hp : (pint zw).2 = 0) (hv : vop (oCre nm (pint zw).1 u) = 0) :
    Pg.Good Tryz.prog 15 [fzs [[99, 114, 101, 97, 116, 101], nm, [108, 111, 103, 108, 111, 103], zw, hexU u]] (.tup [.agg (opP nm (pint zw).1 u), vi 0]) := by
  have hV : Pg.Good Tryz.prog 38 [.agg (opP nm (pint zw).1 u)] (vi 0) := by
    have h := g_Validate (oCre nm (pint zw).1 u) ⟨hon, oct_nil, (fun _ h => by cases h), (fun _ h => by cases h), oct_nil, oct_nil, oct_nil⟩
    rw [hv] at h
    refine h.wk ⟨.inr ⟨_, _, rfl, rfl, ?_⟩, trivial⟩
    (repeat' (first | exact trivial | refine wkL_cons (.inl rfl) ?_ | refine wkL_cons (wk_nil _ _) ?_))
  have hnb : nbad [zw, hexU u] = false := by simp [nbad, hdW, hp]
  refine good_intro (drawW_ok mix) Tryz.func15 rfl Tryz.results15 rfl (by kernel_rfl) (Nat.le_of_ble_eq_true (by kernel_rfl)) ?_
  (repeat' (first | (simp (disch := first | assumption | omega | (simp only [Fits, maxLen, pgq] at *; omega)) only [pgo, pgb, tyf, buildSliceV_w, simprocAttr, Tryz.f15, str_nil, hnb]) | ((with_reducible show callW _ _ _ _ _ _); first | refine callW_use _ (hV) rfl rfl rfl rfl ?_ | refine callZ _ (g_opCre _ _ _ _ 1 nm zw u hu rfl (by omega) ho hw) rfl ?_) | ((first | ((with_reducible show condC _ _ _ _ _ _ _); refine cond_at (fun hc => ?_) (fun hc => ?_)) | ((with_reducible show guardC _ _ _ _ _ _ _ _); refine guard_at (fun hc => ?_) (fun hc => ?_)) | ((with_reducible show drwG _ _ _ _ _ _ _ _ _ _); refine drw_at (fun hc => ?_) (fun hc => ?_))) <;> (try simp only [hc]) <;> (try simp only [pgd] at hc)) | (with_reducible refine chk_at (by kernel_rfl) ?_)))
  (refine ret_at [] _ (by first | exact retV_one _ _ _ | exact retV_two _ _ _ _ | exact retV_three _ _ _ _ _ | exact retV_four _ _ _ _ _ _ | (simp (disch := first | assumption | omega | (simp only [Fits, maxLen, pgq] at *; omega)) only [pgr, pgo, tyf, simprocAttr]; rfl)) (by decide) (by simp only [pgo, simprocAttr]) ?_; (first | rfl | simp only [pgo, simprocAttr]))
theorem g_ParseIns (nm cw : List Nat) (r : List (List Nat)) (items : List (List Nat × Int)) (co : List Nat) (hl : r.length ≤ 10000) (ho : ∀ x ∈ nm :: cw :: r, oct x) (hw : ∀ x ∈ nm :: cw :: r, x.length ≤ 100000) (h1 : its [] r (bbad cw) = (items, [], false)) (h2 : byV cw = co) (hi0 : items ≠ []) (hc0 : co ≠ [])
    (hoo : (oIns nm items co).Oct) (hv : vop (oIns nm items co) = 0) :
    Pg.Good Tryz.prog 15 [fzs ([105, 110, 115, 101, 114, 116] :: nm :: cw :: r)] (.tup [.agg (opI nm (.sl (.own 1 64) 2 (itv items)) (.sl (.own 0 5) 1 (bv co))), vi 0]) := by
  have hV : Pg.Good Tryz.prog 38 [.agg (opI nm (fzt items) (fzb co))] (vi 0) := by
    have h := g_Validate (oIns nm items co) hoo
    rw [hv] at h
    refine h.wk ⟨.inr ⟨_, _, rfl, rfl, ?_⟩, trivial⟩
    (repeat' (first | exact trivial | refine wkL_cons (.inl rfl) ?_ | refine wkL_cons (wk_nil _ _) ?_))
  have e1 : hdW (nm :: cw :: r) = nm := rfl
  have e2 : hdW (nm :: cw :: r).tail = cw := rfl
  have e3 : ((nm :: cw :: r).isEmpty || (nm :: cw :: r).tail.isEmpty || bbad (hdW (nm :: cw :: r).tail)) = bbad cw := rfl
  have e4 : (nm :: cw :: r).tail.tail = r := rfl
  have e7 : ((nm :: cw :: r).isEmpty || (nm :: cw :: r).tail.isEmpty || bbad cw) = bbad cw := rfl
  have hop := fun e bx n h b hb hbn => g_opIns e bx n h b (nm :: cw :: r) hb hbn (by simp only [List.length_cons]; omega) ho hw
  simp only [e1, e2, e4, e7, h1] at hop
  have e5 : ∀ id, itA id items = .sl (.own id 64) 2 (itv items) := fun id => itA_c id items hi0
  have e6 : ∀ id, byR id cw = .sl (.own (id + 1) 5) 1 (bv co) := fun id => by unfold byR; rw [h2, if_neg hc0]
  refine good_intro (drawW_ok mix) Tryz.func15 rfl Tryz.results15 rfl (by kernel_rfl) (Nat.le_of_ble_eq_true (by kernel_rfl)) ?_
  (repeat' (first | (simp (disch := first | assumption | omega | (simp only [Fits, maxLen, pgq] at *; omega)) only [pgo, pgb, tyf, buildSliceV_w, simprocAttr, Tryz.f15, str_nil, e5, e6]) | ((with_reducible show callW _ _ _ _ _ _); first | refine callW_use _ (hV) rfl rfl rfl rfl ?_ | refine callZ _ (hop _ _ _ _ 1 rfl (by omega)) rfl ?_) | ((first | ((with_reducible show condC _ _ _ _ _ _ _); refine cond_at (fun hc => ?_) (fun hc => ?_)) | ((with_reducible show guardC _ _ _ _ _ _ _ _); refine guard_at (fun hc => ?_) (fun hc => ?_)) | ((with_reducible show drwG _ _ _ _ _ _ _ _ _ _); refine drw_at (fun hc => ?_) (fun hc => ?_))) <;> (try simp only [hc]) <;> (try simp only [pgd] at hc)) | (with_reducible refine chk_at (by kernel_rfl) ?_)))
  (refine ret_at [6, 1000009] _ (by first | exact retV_one _ _ _ | exact retV_two _ _ _ _ | exact retV_three _ _ _ _ _ | exact retV_four _ _ _ _ _ _ | (simp (disch := first | assumption | omega | (simp only [Fits, maxLen, pgq] at *; omega)) only [pgr, pgo, tyf, simprocAttr]; rfl)) (by decide) (by simp only [pgo, simprocAttr]) ?_; (first | rfl | simp only [pgo, simprocAttr]))
end Go.Proofs.YtjiolbcdfgclaaaGreatDoor
end

section
/-
  Scripts: the law's words; the base's keys and coins.
-/
namespace Go.Proofs.YtjiolbcdfgclaaaGreatDoor
open Go Go.Pg
set_option maxRecDepth 100000
set_option linter.unusedSimpArgs false
set_option linter.unusedVariables false

/-- What has been parted when i octets are read: the pieces, and where the next begins. -/
def Prt (l : List Nat) (i : Nat) (ps : List (List Nat)) (f : Nat) : Prop := f ≤ i ∧ i ≤ l.length ∧ spl 32 l = ps ++ spl 32 (l.drop f) ∧ (∀ x ∈ (l.drop f).take (i - f), x ≠ 32)
theorem prt_next {l : List Nat} {i : Nat} {ps : List (List Nat)} {f : Nat} (h : Prt l i ps f) (hi : i < l.length) (hc : l.getD i 0 ≠ 32) : Prt l (i + 1) ps f := by
  obtain ⟨h1, h2, h3, h4⟩ := h
  refine ⟨by omega, hi, h3, ?_⟩
  have e : (l.drop f).take (i + 1 - f) = (l.drop f).take (i - f) ++ [l.getD i 0] := by
    rw [show i + 1 - f = (i - f) + 1 by omega, List.take_succ_eq_append_getElem (by rw [List.length_drop]; omega)]
    simp [List.getD, hi, show f + (i - f) = i by omega]
  intro x hx
  rw [e] at hx
  rcases List.mem_append.1 hx with hx | hx
  · exact h4 x hx
  · simp only [List.mem_singleton] at hx; rw [hx]; exact hc
theorem prt_hit {l : List Nat} {i : Nat} {ps : List (List Nat)} {f : Nat} (h : Prt l i ps f) (hi : i < l.length) (hc : l.getD i 0 = 32) : Prt l (i + 1) (ps ++ [(l.take i).drop f]) (i + 1) := by
  obtain ⟨h1, h2, h3, h4⟩ := h
  refine ⟨Nat.le_refl _, hi, ?_, by simp⟩
  have e : l.drop f = (l.drop f).take (i - f) ++ 32 :: l.drop (i + 1) := by
    have e1 : l.drop i = l.getD i 0 :: l.drop (i + 1) := by
      rw [List.drop_eq_getElem_cons hi]; simp [List.getD, hi]
    rw [hc] at e1
    rw [← e1]
    have := (List.take_append_drop (i - f) (l.drop f)).symm
    rw [List.drop_drop, show f + (i - f) = i by omega] at this
    exact this
  have e2 : (l.take i).drop f = (l.drop f).take (i - f) := by rw [List.drop_take]
  rw [h3, e, spl_at 32 _ _ h4, e2]
  simp
theorem prt_end {l : List Nat} {ps : List (List Nat)} {f : Nat} (h : Prt l l.length ps f) : spl 32 l = ps ++ [(l.take l.length).drop f] := by
  obtain ⟨h1, h2, h3, h4⟩ := h
  rw [List.take_of_length_le (by rw [List.length_drop]; omega)] at h4
  rw [h3, spl_none 32 _ h4, List.take_length]
theorem prt_len {l : List Nat} {i : Nat} {ps : List (List Nat)} {f : Nat} (h : Prt l i ps f) : ps.length ≤ l.length := by
  obtain ⟨h1, h2, h3, h4⟩ := h
  have := spl_len 32 l
  obtain ⟨y, t, e⟩ := spl_cons 32 (l.drop f)
  rw [h3, e] at this
  simp at this
  omega
def WInv (l : List Nat) (i : Nat) (ps : List (List Nat)) (f : Nat) : Prop := Prt l i ps f ∨ (i = l.length + 1 ∧ ps = spl 32 l)
theorem g_lawWords (l : List Nat) (ho : oct l) (hl : l.length ≤ 1000000) : Pg.Good Tryz.prog 16 [vs l] (.sl (.own 0 9) 1 (sv (spl 32 l))) := by
  refine good_intro (drawW_ok mix) Tryz.func16 rfl Tryz.results16 rfl (by kernel_rfl) (Nat.le_of_ble_eq_true (by kernel_rfl)) ?_
  (repeat' (first | (simp (disch := first | assumption | omega | (simp only [Fits, maxLen, pgq] at *; omega)) only [pgo, pgb, tyf, buildSliceV_w, simprocAttr, Tryz.f16]) | ((first | ((with_reducible show condC _ _ _ _ _ _ _); refine cond_at (fun hc => ?_) (fun hc => ?_)) | ((with_reducible show guardC _ _ _ _ _ _ _ _); refine guard_at (fun hc => ?_) (fun hc => ?_)) | ((with_reducible show drwG _ _ _ _ _ _ _ _ _ _); refine drw_at (fun hc => ?_) (fun hc => ?_))) <;> (try simp only [hc]) <;> (try simp only [pgd] at hc)) | (with_reducible refine chk_at (by kernel_rfl) ?_)))
  refine loop_A (fun x : Nat × List (List Nat) × Nat => mkA [(0, vs l), (3, .sl (.own 0 9) 1 (sv x.2.1)), (4, vi (x.2.2 : Nat)), (5, vi (x.1 : Nat))] [] 1 (fun _ => .top)) (fun x => WInv l x.1 x.2.1 x.2.2) (fun x => l.length + 1 - x.1) (0, [], 0) [] [] ?_ (.inl ⟨Nat.le_refl _, Nat.zero_le _, rfl, by simp⟩) ?_
  · (refine keep_mkA ?_ ?_ (top_hd _ _ _) (by decide) (by decide) (by decide) (by decide); (repeat' (first | exact trivial | refine genB_one _ _ rfl rfl ?_ ?_)); all_goals (try simp only [pgs, pgl, pgx, pgf, pgw, GenA_cons, GenA_nil, GenL_cons, GenL_nil, gen_top, gen_c, gen_fz, pgn, simprocAttr]); all_goals (try (repeat' (first | apply And.intro))); all_goals (try (first | exact trivial | exact gen_ii (by omega) | exact gen_cc rfl | exact gen_own rfl rfl | exact gen_ref rfl)))
    all_goals exact gen_nilx rfl
  · rintro ⟨i, ps, f⟩ hp
    rcases hp with hp | ⟨h1, h2⟩
    · replace hp : Prt l i ps f := hp
      have hpl := prt_len hp
      have hp' := hp
      obtain ⟨hp1, hp2, _, _⟩ := hp'
      rcases Nat.lt_or_ge i l.length with hlt | hge
      · have hcb := getD_lt ho i
        by_cases h32 : l.getD i 0 = 32
        · (repeat' (first | (simp (disch := first | assumption | omega | (simp only [Fits, maxLen, pgq] at *; omega)) only [pgo, pgb, tyf, buildSliceV_w, simprocAttr, sv_snoc]) | ((first | ((with_reducible show condC _ _ _ _ _ _ _); refine cond_at (fun hc => ?_) (fun hc => ?_)) | ((with_reducible show guardC _ _ _ _ _ _ _ _); refine guard_at (fun hc => ?_) (fun hc => ?_)) | ((with_reducible show drwG _ _ _ _ _ _ _ _ _ _); refine drw_at (fun hc => ?_) (fun hc => ?_))) <;> (try simp only [hc]) <;> (try simp only [pgd] at hc)) | (with_reducible refine chk_at (by kernel_rfl) ?_)))
          refine back_at (i + 1, ps ++ [(l.take i).drop f], i + 1) [0] [] ?_ ?_ ?_
          · exact .inl (prt_hit hp hlt h32)
          · show l.length + 1 - (i + 1) < l.length + 1 - i
            omega
          · (refine keep_mkA ?_ ?_ (top_hd _ _ _) (by decide) (by decide) (by decide) (by decide); (repeat' (first | exact trivial | refine genB_one _ _ rfl rfl ?_ ?_)); all_goals (try simp only [pgs, pgl, pgx, pgf, pgw, GenA_cons, GenA_nil, GenL_cons, GenL_nil, gen_top, gen_c, gen_fz, pgn, simprocAttr]); all_goals (try (repeat' (first | apply And.intro))); all_goals (try (first | exact trivial | exact gen_ii (by omega) | exact gen_cc rfl | exact gen_own rfl rfl | exact gen_ref rfl)))
        · (repeat' (first | (simp (disch := first | assumption | omega | (simp only [Fits, maxLen, pgq] at *; omega)) only [pgo, pgb, tyf, buildSliceV_w, simprocAttr, sv_snoc]) | ((first | ((with_reducible show condC _ _ _ _ _ _ _); refine cond_at (fun hc => ?_) (fun hc => ?_)) | ((with_reducible show guardC _ _ _ _ _ _ _ _); refine guard_at (fun hc => ?_) (fun hc => ?_)) | ((with_reducible show drwG _ _ _ _ _ _ _ _ _ _); refine drw_at (fun hc => ?_) (fun hc => ?_))) <;> (try simp only [hc]) <;> (try simp only [pgd] at hc)) | (with_reducible refine chk_at (by kernel_rfl) ?_)))
          refine back_at (i + 1, ps, f) [0] [] ?_ ?_ ?_
          · exact .inl (prt_next hp hlt h32)
          · show l.length + 1 - (i + 1) < l.length + 1 - i
            omega
          · (refine keep_mkA ?_ ?_ (top_hd _ _ _) (by decide) (by decide) (by decide) (by decide); (repeat' (first | exact trivial | refine genB_one _ _ rfl rfl ?_ ?_)); all_goals (try simp only [pgs, pgl, pgx, pgf, pgw, GenA_cons, GenA_nil, GenL_cons, GenL_nil, gen_top, gen_c, gen_fz, pgn, simprocAttr]); all_goals (try (repeat' (first | apply And.intro))); all_goals (try (first | exact trivial | exact gen_ii (by omega) | exact gen_cc rfl | exact gen_own rfl rfl | exact gen_ref rfl)))
      · have hil : i = l.length := by omega
        subst hil
        (repeat' (first | (simp (disch := first | assumption | omega | (simp only [Fits, maxLen, pgq] at *; omega)) only [pgo, pgb, tyf, buildSliceV_w, simprocAttr, sv_snoc]) | ((first | ((with_reducible show condC _ _ _ _ _ _ _); refine cond_at (fun hc => ?_) (fun hc => ?_)) | ((with_reducible show guardC _ _ _ _ _ _ _ _); refine guard_at (fun hc => ?_) (fun hc => ?_)) | ((with_reducible show drwG _ _ _ _ _ _ _ _ _ _); refine drw_at (fun hc => ?_) (fun hc => ?_))) <;> (try simp only [hc]) <;> (try simp only [pgd] at hc)) | (with_reducible refine chk_at (by kernel_rfl) ?_)))
        refine back_at (l.length + 1, ps ++ [(l.take l.length).drop f], l.length + 1) [0] [] ?_ ?_ ?_
        · exact .inr ⟨rfl, (prt_end hp).symm⟩
        · show l.length + 1 - (l.length + 1) < l.length + 1 - l.length
          omega
        · (refine keep_mkA ?_ ?_ (top_hd _ _ _) (by decide) (by decide) (by decide) (by decide); (repeat' (first | exact trivial | refine genB_one _ _ rfl rfl ?_ ?_)); all_goals (try simp only [pgs, pgl, pgx, pgf, pgw, GenA_cons, GenA_nil, GenL_cons, GenL_nil, gen_top, gen_c, gen_fz, pgn, simprocAttr]); all_goals (try (repeat' (first | apply And.intro))); all_goals (try (first | exact trivial | exact gen_ii (by omega) | exact gen_cc rfl | exact gen_own rfl rfl | exact gen_ref rfl)))
    · simp only at h1 h2
      subst h1
      (repeat' (first | (simp (disch := first | assumption | omega | (simp only [Fits, maxLen, pgq] at *; omega)) only [pgo, pgb, tyf, buildSliceV_w, simprocAttr, sv_len]) | ((first | ((with_reducible show condC _ _ _ _ _ _ _); refine cond_at (fun hc => ?_) (fun hc => ?_)) | ((with_reducible show guardC _ _ _ _ _ _ _ _); refine guard_at (fun hc => ?_) (fun hc => ?_)) | ((with_reducible show drwG _ _ _ _ _ _ _ _ _ _); refine drw_at (fun hc => ?_) (fun hc => ?_))) <;> (try simp only [hc]) <;> (try simp only [pgd] at hc)) | (with_reducible refine chk_at (by kernel_rfl) ?_)))
      rw [h2]
      (refine ret_at [0] _ (by first | exact retV_one _ _ _ | exact retV_two _ _ _ _ | exact retV_three _ _ _ _ _ | exact retV_four _ _ _ _ _ _ | (simp (disch := first | assumption | omega | (simp only [Fits, maxLen, pgq] at *; omega)) only [pgr, pgo, tyf, simprocAttr]; rfl)) (by decide) (by simp only [pgo, simprocAttr]) ?_; (first | rfl | simp only [pgo, simprocAttr] | skip))
theorem sh5 (n : Int) : Int.fdiv n (2 ^ min 5 IntKind.i64.bits) = n.fdiv 32 := rfl
theorem sh7 (n : Int) : Int.fdiv n (2 ^ min 7 IntKind.i64.bits) = n.fdiv 128 := rfl
end Go.Proofs.YtjiolbcdfgclaaaGreatDoor
end

section
/-
  Operations: the reference's Same, of an operation and itself.
-/
namespace Go.Proofs.YtjiolbcdfgclaaaGreatDoor
open Go Go.Pg
set_option maxRecDepth 100000
set_option linter.unusedSimpArgs false
set_option linter.unusedVariables false

theorem dself (a : ByteArray) : decide (a = a) = true := decide_eq_true rfl
theorem bself (a : Int) : (a == a) = true := by simp
theorem nself (a : Int) : (a != a) = false := by simp
set_option maxHeartbeats 2000000 in
theorem g_SameE (o : O) (hn : o.names.length ≤ 1000000) (hi : o.items.length ≤ 1000000) : Pg.Good Tryz.prog 17 [.agg (opF o), .agg (opF o)] (vb true) := by
  have hsl := sv_len o.names
  have hil := itv_len o.items
  refine good_intro (drawW_ok mix) Tryz.func17 rfl Tryz.results17 rfl (by kernel_rfl) (Nat.le_of_ble_eq_true (by kernel_rfl)) ?_
  (repeat' (first | (simp (disch := first | assumption | omega | (simp only [Fits, maxLen, pgq] at *; omega)) only [pgo, pgb, tyf, buildSliceV_w, simprocAttr, Tryz.f17, dself, bself, nself, convK_42, sv_len, itv_len, Bool.not_true, Bool.and_true, Bool.true_and, List.append_eq, List.cons_append, List.nil_append]) | ((first | ((with_reducible show condC _ _ _ _ _ _ _); refine cond_at (fun hc => ?_) (fun hc => ?_)) | ((with_reducible show guardC _ _ _ _ _ _ _ _); refine guard_at (fun hc => ?_) (fun hc => ?_)) | ((with_reducible show drwG _ _ _ _ _ _ _ _ _ _); refine drw_at (fun hc => ?_) (fun hc => ?_))) <;> (try simp only [hc]) <;> (try simp only [pgd] at hc)) | (with_reducible refine chk_at (by kernel_rfl) ?_)))
  refine loop_A (fun i : Nat => mkA [(2, .ref 0 0), (3, .ref 1 0), (5, vi i)] [(0, (32, opF o)), (1, (32, opF o))] 2 (fun _ => .top)) (fun i => i ≤ o.names.length) (fun i => o.names.length - i) 0 [] [0, 1] ?_ (Nat.zero_le _) ?_
  · (refine keep_mkA ?_ ?_ (top_hd _ _ _) (by decide) (by decide) (by decide) (by decide); (repeat' (first | exact trivial | refine genB_one _ _ rfl rfl ?_ ?_)); all_goals (try simp only [pgs, pgl, pgx, pgf, pgw, GenA_cons, GenA_nil, GenL_cons, GenL_nil, gen_top, gen_c, gen_fz, pgn, simprocAttr]); all_goals (try (repeat' (first | apply And.intro))); all_goals (try (first | exact trivial | exact gen_ii (by omega) | exact gen_cc rfl | exact gen_own rfl rfl | exact gen_ref rfl)))
  · intro i hi
    replace hi : i ≤ o.names.length := hi
    rcases Nat.lt_or_ge i o.names.length with hlt | hge
    · have hg := sv_get o.names i hlt
      (repeat' (first | (simp (disch := first | assumption | omega | (simp only [Fits, maxLen, pgq] at *; omega)) only [pgo, pgb, tyf, buildSliceV_w, simprocAttr, hg, dself, Bool.not_true]) | ((first | ((with_reducible show condC _ _ _ _ _ _ _); refine cond_at (fun hc => ?_) (fun hc => ?_)) | ((with_reducible show guardC _ _ _ _ _ _ _ _); refine guard_at (fun hc => ?_) (fun hc => ?_)) | ((with_reducible show drwG _ _ _ _ _ _ _ _ _ _); refine drw_at (fun hc => ?_) (fun hc => ?_))) <;> (try simp only [hc]) <;> (try simp only [pgd] at hc)) | (with_reducible refine chk_at (by kernel_rfl) ?_)))
      (refine back_at (i + 1) [] [0, 1] (hlt) (by first | omega | (simp only [List.length_cons]; omega)) ?_; (refine keep_mkA ?_ ?_ (top_hd _ _ _) (by decide) (by decide) (by decide) (by decide); (repeat' (first | exact trivial | refine genB_one _ _ rfl rfl ?_ ?_)); all_goals (try simp only [pgs, pgl, pgx, pgf, pgw, GenA_cons, GenA_nil, GenL_cons, GenL_nil, gen_top, gen_c, gen_fz, pgn, simprocAttr]); all_goals (try (repeat' (first | apply And.intro))); all_goals (try (first | exact trivial | exact gen_ii (by omega) | exact gen_cc rfl | exact gen_own rfl rfl | exact gen_ref rfl))))
    · (repeat' (first | (simp (disch := first | assumption | omega | (simp only [Fits, maxLen, pgq] at *; omega)) only [pgo, pgb, tyf, buildSliceV_w, simprocAttr, dself]) | ((first | ((with_reducible show condC _ _ _ _ _ _ _); refine cond_at (fun hc => ?_) (fun hc => ?_)) | ((with_reducible show guardC _ _ _ _ _ _ _ _); refine guard_at (fun hc => ?_) (fun hc => ?_)) | ((with_reducible show drwG _ _ _ _ _ _ _ _ _ _); refine drw_at (fun hc => ?_) (fun hc => ?_))) <;> (try simp only [hc]) <;> (try simp only [pgd] at hc)) | (with_reducible refine chk_at (by kernel_rfl) ?_)))
      refine loop_A (fun i : Nat => mkA [(2, .ref 0 0), (3, .ref 1 0), (6, vi i)] [(0, (32, opF o)), (1, (32, opF o))] 2 (fun _ => .top)) (fun i => i ≤ o.items.length) (fun i => o.items.length - i) 0 [] [0, 1] ?_ (Nat.zero_le _) ?_
      · (refine keep_mkA ?_ ?_ (top_hd _ _ _) (by decide) (by decide) (by decide) (by decide); (repeat' (first | exact trivial | refine genB_one _ _ rfl rfl ?_ ?_)); all_goals (try simp only [pgs, pgl, pgx, pgf, pgw, GenA_cons, GenA_nil, GenL_cons, GenL_nil, gen_top, gen_c, gen_fz, pgn, simprocAttr]); all_goals (try (repeat' (first | apply And.intro))); all_goals (try (first | exact trivial | exact gen_ii (by omega) | exact gen_cc rfl | exact gen_own rfl rfl | exact gen_ref rfl)))
      · intro j hj
        replace hj : j ≤ o.items.length := hj
        rcases Nat.lt_or_ge j o.items.length with hlt | hge
        · have hg := itv_get o.items j hlt
          (repeat' (first | (simp (disch := first | assumption | omega | (simp only [Fits, maxLen, pgq] at *; omega)) only [pgo, pgb, tyf, buildSliceV_w, simprocAttr, hg, dself, bself, nself, Bool.not_true, Bool.and_true, Bool.true_and]) | ((first | ((with_reducible show condC _ _ _ _ _ _ _); refine cond_at (fun hc => ?_) (fun hc => ?_)) | ((with_reducible show guardC _ _ _ _ _ _ _ _); refine guard_at (fun hc => ?_) (fun hc => ?_)) | ((with_reducible show drwG _ _ _ _ _ _ _ _ _ _); refine drw_at (fun hc => ?_) (fun hc => ?_))) <;> (try simp only [hc]) <;> (try simp only [pgd] at hc)) | (with_reducible refine chk_at (by kernel_rfl) ?_)))
          (refine back_at (j + 1) [] [0, 1] (hlt) (by first | omega | (simp only [List.length_cons]; omega)) ?_; (refine keep_mkA ?_ ?_ (top_hd _ _ _) (by decide) (by decide) (by decide) (by decide); (repeat' (first | exact trivial | refine genB_one _ _ rfl rfl ?_ ?_)); all_goals (try simp only [pgs, pgl, pgx, pgf, pgw, GenA_cons, GenA_nil, GenL_cons, GenL_nil, gen_top, gen_c, gen_fz, pgn, simprocAttr]); all_goals (try (repeat' (first | apply And.intro))); all_goals (try (first | exact trivial | exact gen_ii (by omega) | exact gen_cc rfl | exact gen_own rfl rfl | exact gen_ref rfl))))
        · (repeat' (first | (simp (disch := first | assumption | omega | (simp only [Fits, maxLen, pgq] at *; omega)) only [pgo, pgb, tyf, buildSliceV_w, simprocAttr]) | ((first | ((with_reducible show condC _ _ _ _ _ _ _); refine cond_at (fun hc => ?_) (fun hc => ?_)) | ((with_reducible show guardC _ _ _ _ _ _ _ _); refine guard_at (fun hc => ?_) (fun hc => ?_)) | ((with_reducible show drwG _ _ _ _ _ _ _ _ _ _); refine drw_at (fun hc => ?_) (fun hc => ?_))) <;> (try simp only [hc]) <;> (try simp only [pgd] at hc)) | (with_reducible refine chk_at (by kernel_rfl) ?_)))
          (refine ret_at [] _ (by first | exact retV_one _ _ _ | exact retV_two _ _ _ _ | exact retV_three _ _ _ _ _ | exact retV_four _ _ _ _ _ _ | (simp (disch := first | assumption | omega | (simp only [Fits, maxLen, pgq] at *; omega)) only [pgr, pgo, tyf, simprocAttr]; rfl)) (by decide) (by simp only [pgo, simprocAttr]) ?_; (first | rfl | simp only [pgo, simprocAttr]))
end Go.Proofs.YtjiolbcdfgclaaaGreatDoor
end

section
/-
  Scripts: the base's keys and coins; what is written of small operations is read back (plain).
-/
namespace Go.Proofs.YtjiolbcdfgclaaaGreatDoor
open Go Go.Pg
set_option maxRecDepth 100000
set_option linter.unusedSimpArgs false
set_option linter.unusedVariables false

def keys12 : List (List Nat) := [[97], [98], [99], [100], [101], [102], [97, 97], [98, 32, 99], [37, 54, 49], [65, 58, 49], [0], [122, 47, 255]]
def u8i (n : Int) : Nat := (n % 256).toNat
theorem u8iw (n : Int) : IntKind.u8.wrap n = ((u8i n : Nat) : Int) := by rw [IntKind.wrap_u8]; unfold u8i; omega
def keyB (n : Int) : List Nat := if n.fdiv 256 % 16 = 15 then [u8i n, u8i (n.fdiv 2), u8i (n.fdiv 8)] else keys12.getD ((n % 256).toNat % 12) []
theorem keyB_ok (n : Int) : oct (keyB n) ∧ (keyB n).length ≤ 12 := by
  unfold keyB
  split
  · refine ⟨?_, by simp⟩
    intro b hb
    simp at hb
    rcases hb with rfl | rfl | rfl <;> (unfold u8i; omega)
  · generalize hk : (n % 256).toNat % 12 = k
    have hlt : k < 12 := by omega
    have : ∀ k, k < 12 → ((keys12.getD k []).all fun b => decide (b < 256)) = true ∧ (keys12.getD k []).length ≤ 12 := by decide
    exact ⟨oct_dec _ (this k hlt).1, (this k hlt).2⟩
theorem sh8 (n : Int) : Int.fdiv n (2 ^ min 8 IntKind.i64.bits) = n.fdiv 256 := rfl
theorem sh1 (n : Int) : Int.fdiv n (2 ^ min 1 IntKind.i64.bits) = n.fdiv 2 := rfl
theorem sh3 (n : Int) : Int.fdiv n (2 ^ min 3 IntKind.i64.bits) = n.fdiv 8 := rfl
theorem bs3 (a b c : Nat) : [V.c (.int .u8 (a : Int)), V.c (.int .u8 (b : Int)), V.c (.int .u8 (c : Int))] = bv [a, b, c] := rfl
theorem bs12 (e : Nat → V) (b : Nat → Option (TypeId × List V)) (n : Nat) (h : Nat → V) : buildSliceV Tryz.prog ⟨e, b, n, h⟩ 23 12 [(0, .c (.string ⟨#[97]⟩)), (1, .c (.string ⟨#[98]⟩)), (2, .c (.string ⟨#[99]⟩)), (3, .c (.string ⟨#[100]⟩)), (4, .c (.string ⟨#[101]⟩)), (5, .c (.string ⟨#[102]⟩)), (6, .c (.string ⟨#[97, 97]⟩)), (7, .c (.string ⟨#[98, 32, 99]⟩)), (8, .c (.string ⟨#[37, 54, 49]⟩)), (9, .c (.string ⟨#[65, 58, 49]⟩)), (10, .c (.string ⟨#[0]⟩)), (11, .c (.string ⟨#[122, 47, 255]⟩))] = some (.sl (.own n 9) 1 (sv keys12), ⟨e, b, n + 1, h⟩) := by
  rw [buildSliceV_w, ty_e23, Option.bind_some, ty_t9, Option.bind_some, ty_y9, Option.bind_some]
  rfl
theorem bs3s (e : Nat → V) (bx : Nat → Option (TypeId × List V)) (n : Nat) (h : Nat → V) (a b c : Nat) : buildSliceV Tryz.prog ⟨e, bx, n, h⟩ 28 3 [(0, .c (.int .u8 (a : Int))), (1, .c (.int .u8 (b : Int))), (2, .c (.int .u8 (c : Int)))] = some (.sl (.own n 5) 1 (bv [a, b, c]), ⟨e, bx, n + 1, h⟩) := by
  rw [buildSliceV_w, ty_e28, Option.bind_some, ty_t5, Option.bind_some, ty_y5, Option.bind_some]
  rfl
theorem k12 : keys12.length = 12 := rfl
theorem tm12 (n : Int) : Int.tmod (n % 256) 12 = (((n % 256).toNat % 12 : Nat) : Int) := by
  rw [Int.tmod_eq_emod_of_nonneg (by omega)]
  omega
theorem sv12 (k : Nat) (h : k < 12) : (sv keys12)[k]? = some (.c (.string (sB (keys12.getD k [])))) := sv_get keys12 k h
theorem m12 (n : Nat) : n % 12 < 12 := Nat.mod_lt _ (by omega)
theorem idsL_bv (l : List Nat) : V.idsL (bv l) = [] := by
  induction l with
  | nil => rfl
  | cons a l ih => simpa [bv, V.idsL, V.ids] using ih
theorem g_Key (n : Int) : Pg.Good Tryz.prog 25 [vi n] (vs (keyB n)) := by
  refine good_intro (drawW_ok mix) Tryz.func25 rfl Tryz.results25 rfl (by kernel_rfl) (Nat.le_of_ble_eq_true (by kernel_rfl)) ?_
  unfold keyB
  have hm := m12 (n % 256).toNat
  have hk := k12
  (repeat' (first | (simp (disch := first | assumption | omega | (simp only [Fits, maxLen, pgq] at *; omega)) only [pgo, pgb, tyf, simprocAttr, Tryz.f25, idsL_bv, bs3s, bs12, k12, tm12, sv12, sh8, sh1, sh3, andF, and255, u8iw, bs3, convK_42, Int.cast_ofNat_Int]) | ((first | ((with_reducible show condC _ _ _ _ _ _ _); refine cond_at (fun hc => ?_) (fun hc => ?_)) | ((with_reducible show guardC _ _ _ _ _ _ _ _); refine guard_at (fun hc => ?_) (fun hc => ?_)) | ((with_reducible show drwG _ _ _ _ _ _ _ _ _ _); refine drw_at (fun hc => ?_) (fun hc => ?_))) <;> (try simp only [hc]) <;> (try simp only [pgd] at hc)) | (with_reducible refine chk_at (by kernel_rfl) ?_)))
  all_goals (refine ret_at [] _ (by first | exact retV_one _ _ _ | exact retV_two _ _ _ _ | exact retV_three _ _ _ _ _ | exact retV_four _ _ _ _ _ _ | (simp (disch := first | assumption | omega | (simp only [Fits, maxLen, pgq] at *; omega)) only [pgr, pgo, tyf, simprocAttr]; rfl)) (by decide) (by simp only [pgo, simprocAttr]) ?_; (first | rfl | simp only [pgo, simprocAttr] | skip))
  all_goals simp [*]
theorem keyB_key (n : Int) : isKey (keyB n) = true := by
  unfold keyB
  split
  · rfl
  · generalize hk : (n % 256).toNat % 12 = k
    have hlt : k < 12 := by omega
    have : ∀ k, k < 12 → isKey (keys12.getD k []) = true := by decide
    exact this k hlt
theorem and3 (n : Int) : bits .and .i64 n 3 = n % 4 := and_i64 n 2 (by decide)
theorem and63 (n : Int) : bits .and .i64 n 63 = n % 64 := and_i64 n 6 (by decide)
theorem andFFFF (n : Int) : bits .and .i64 n 65535 = n % 65536 := and_i64 n 16 (by decide)
def coins4 (n : Int) : List Nat := [u8i n, u8i (n.fdiv 8), u8i (n.fdiv 32), u8i (n.fdiv 128)]
def coinsV (n : Int) : List Nat := (coins4 n).take ((n % 4).toNat + 1)
theorem coinsV_ok (n : Int) : oct (coinsV n) ∧ (coinsV n).length ≤ 4 ∧ coinsV n ≠ [] := by
  refine ⟨oct_take ?_ _, ?_, ?_⟩
  · intro b hb
    simp [coins4] at hb
    rcases hb with rfl | rfl | rfl | rfl <;> (unfold u8i; omega)
  · simp only [coinsV, coins4, List.length_take, List.length_cons, List.length_nil]; omega
  · intro h
    have := congrArg List.length h
    simp only [coinsV, coins4, List.length_take, List.length_cons, List.length_nil] at this
    omega
theorem bs4s (e : Nat → V) (bx : Nat → Option (TypeId × List V)) (n : Nat) (h : Nat → V) (a b c d : Nat) : buildSliceV Tryz.prog ⟨e, bx, n, h⟩ 28 4 [(0, .c (.int .u8 (a : Int))), (1, .c (.int .u8 (b : Int))), (2, .c (.int .u8 (c : Int))), (3, .c (.int .u8 (d : Int)))] = some (.sl (.own n 5) 1 (bv [a, b, c, d]), ⟨e, bx, n + 1, h⟩) := by
  rw [buildSliceV_w, ty_e28, Option.bind_some, ty_t5, Option.bind_some, ty_y5, Option.bind_some]
  rfl
theorem g_Coins (n : Int) : Pg.Good Tryz.prog 26 [vi n] (fzb (coinsV n)) := by
  have hl : (bv (coins4 n)).length = 4 := rfl
  have hcut : slV Tryz.prog 28 (.sl .fz 1 (bv (coins4 n))) none (some (.c (.int .i64 (n % 4 + 1)))) = some (fzb (coinsV n)) := by
    rw [slV_fz]
    simp only [bdV, Option.bind_some, ty_e28, ty_z5]
    rw [if_pos ⟨trivial, by omega, by omega, by rw [hl]; omega⟩]
    have e : (n % 4 + 1).toNat = (n % 4).toNat + 1 := by omega
    simp only [e, Int.toNat_natCast, List.drop_zero, bv_take]
    rfl
  have hown : ∀ (s : St) id, sliceOwn Tryz.prog s 28 id 1 (bv (coins4 n)) none (some (.c (.int .i64 (n % 4 + 1)))) = some (fzb (coinsV n), s.mapV (frz id)) := fun s id => by unfold sliceOwn; rw [hcut]; rfl
  have hb4 : ([u8i n, u8i (n.fdiv 8), u8i (n.fdiv 32), u8i (n.fdiv 128)] : List Nat) = coins4 n := rfl
  refine good_intro (drawW_ok mix) Tryz.func26 rfl Tryz.results26 rfl (by kernel_rfl) (Nat.le_of_ble_eq_true (by kernel_rfl)) ?_
  (repeat' (first | (simp (disch := first | assumption | omega | (simp only [Fits, maxLen, pgq] at *; omega)) only [pgo, pgb, tyf, simprocAttr, Tryz.f26, bs4s, hb4, sh3, sh5, sh7, and3, u8iw, hown, isC, Option.all_some, Option.all_none, Bool.and_true, Bool.true_and]) | ((first | ((with_reducible show condC _ _ _ _ _ _ _); refine cond_at (fun hc => ?_) (fun hc => ?_)) | ((with_reducible show guardC _ _ _ _ _ _ _ _); refine guard_at (fun hc => ?_) (fun hc => ?_)) | ((with_reducible show drwG _ _ _ _ _ _ _ _ _ _); refine drw_at (fun hc => ?_) (fun hc => ?_))) <;> (try simp only [hc]) <;> (try simp only [pgd] at hc)) | (with_reducible refine chk_at (by kernel_rfl) ?_)))
  (refine ret_at [] _ (by first | exact retV_one _ _ _ | exact retV_two _ _ _ _ | exact retV_three _ _ _ _ _ | exact retV_four _ _ _ _ _ _ | (simp (disch := first | assumption | omega | (simp only [Fits, maxLen, pgq] at *; omega)) only [pgr, pgo, tyf, simprocAttr]; rfl)) (by decide) (by simp only [pgo, simprocAttr]) ?_; (first | rfl | simp only [pgo, simprocAttr] | skip))
/-! ### what is written is read back -/
theorem vop_ins (k : List Nat) (w : Int) (co : List Nat) (hk : isKey k = true) (hw : 1 ≤ w ∧ w ≤ 4294967295) (hc : co.length ≤ 64) : vop (oIns [97] [(k, w)] co) = 0 := by
  have hm : mk14 (usesL 6) = [true, false, false, false, true, true, false, false, false, false, false, false, false, false] := by decide
  have hkl : 1 ≤ k.length ∧ k.length ≤ 32 := by rw [← isKey_t]; exact hk
  have h0 : nmE [97] = 0 := by decide
  have h4 : itE [(k, w)] = 0 := by
    unfold itE fstE vitE vitem
    simp [hkl, hw, fstE]
  have h5 : shE co 64 = 0 := by unfold shE; rw [if_neg (by omega)]
  have hV : vE (oIns [97] [(k, w)] co) (mk14 (usesL (oIns [97] [(k, w)] co).kind)) 14 0 = 0 := by
    show vE (oIns [97] [(k, w)] co) (mk14 (usesL 6)) 14 0 = 0
    rw [hm]; simp [vE, chk, oIns, h0, h4, h5]
  have hZ : zE (oIns [97] [(k, w)] co) (mk14 (usesL (oIns [97] [(k, w)] co).kind)) 14 0 = 0 := by
    show zE (oIns [97] [(k, w)] co) (mk14 (usesL 6)) 14 0 = 0
    rw [hm]; simp [zE, zro, oIns]
  unfold vop
  rw [if_neg (by simp [oIns]), if_neg (by rw [hV]; simp), hZ]
theorem vop_cre (u : Nat) : vop (oCre [98] 5 u) = 0 := by
  have hm : mk14 (usesL 1) = [true, false, false, true, false, false, false, false, false, false, false, false, false, false] := by decide
  have h0 : nmE [98] = 0 := by decide
  have h3 : vp 3 5 0 (u : Int) = 0 := by simp [vp]
  have hV : vE (oCre [98] 5 u) (mk14 (usesL (oCre [98] 5 u).kind)) 14 0 = 0 := by
    show vE (oCre [98] 5 u) (mk14 (usesL 1)) 14 0 = 0
    rw [hm]; simp [vE, chk, oCre, h0, h3]
  have hZ : zE (oCre [98] 5 u) (mk14 (usesL (oCre [98] 5 u).kind)) 14 0 = 0 := by
    show zE (oCre [98] 5 u) (mk14 (usesL 1)) 14 0 = 0
    rw [hm]; simp [zE, zro, oCre]
  unfold vop
  rw [if_neg (by simp [oCre]), if_neg (by rw [hV]; simp), hZ]
theorem hexL_no (l : List Nat) (ho : oct l) : ∀ x ∈ hexL l, x ≠ 32 := by
  intro x hx'
  obtain ⟨c, hc, h⟩ := List.mem_flatMap.1 hx'
  have hc' := ho c hc
  simp only [List.mem_cons, List.not_mem_nil, or_false] at h
  rcases h with rfl | rfl
  · rcases hx_cases (c / 16) (by omega) with h | h <;> omega
  · rcases hx_cases (c % 16) (by omega) with h | h <;> omega
theorem fk_form {k : List Nat} (hk : isKey k = true) : (fk k).2 = 0 ∧ (fk k = (k, 0) ∧ plain k = true ∨ fk k = (37 :: hexL k, 0)) := by
  unfold fk
  rw [hk, if_neg (by simp)]
  cases hp : plain k
  · exact ⟨by simp, .inr (by simp)⟩
  · exact ⟨by simp, .inl ⟨by simp, rfl⟩⟩
theorem kw_ok {k : List Nat} (ho : oct k) (hk : isKey k = true) : pk (kw k) = (k, 0) ∧ ∀ x ∈ kw k, x ≠ 32 := by
  obtain ⟨h0, hf⟩ := fk_form hk
  have h1 := fk_pk ho h0
  have h2 : kw k = (fk k).1 := if_pos h0
  rw [h2]
  refine ⟨h1, ?_⟩
  rcases hf with ⟨hf, hp⟩ | hf
  · rw [hf]
    intro x hx e
    unfold plain at hp
    have := List.all_eq_true.1 hp x hx
    rw [e] at this
    exact absurd this (by decide)
  · rw [hf]
    intro x hx
    rcases List.mem_cons.1 hx with rfl | hx
    · omega
    · exact hexL_no k ho x hx
theorem its_one (k : List Nat) (w : Int) (ho : oct k) (hk : isKey k = true) (hw : 1 ≤ w ∧ w ≤ 4294967295) : its [] [kw k, itoaN w] false = ([(k, w)], [], false) := by
  obtain ⟨h1, _⟩ := kw_ok ho hk
  have h2 := pint_itoa w
  rw [if_pos (by omega)] at h2
  have hd : hdW [itoaN w] = itoaN w := rfl
  have hkd : hdW [kw k, itoaN w] = kw k := rfl
  rw [its_c]
  have e : (kbad [kw k, itoaN w] || nbad [itoaN w]) = false := by simp [kbad, nbad, hd, hkd, h1, h2]
  rw [e, hd, h1, h2]
  exact its_n _
theorem byV_fb {co : List Nat} (ho : oct co) (h : co ≠ []) : byV (fb co) = co ∧ bbad (fb co) = false := by
  have hf : fb co = hexL co := if_neg (by intro h1; exact h (List.eq_nil_of_length_eq_zero h1))
  have hl := hexL_len co
  have hp : 0 < co.length := by cases co with | nil => exact absurd rfl h | cons a l => simp
  obtain ⟨r1, r2⟩ := rt co ho
  have h45 : hexL co ≠ [45] := by intro e; rw [e] at hl; simp at hl; omega
  have h2 : (hexL co).length / 2 = co.length := by omega
  rw [hf]
  unfold byV bbad
  rw [if_neg h45, if_neg h45, h2, r1, if_pos rfl, if_pos rfl, r2]
  refine ⟨rfl, ?_⟩
  rw [hl, decide_eq_false (by intro e; rw [e] at hl; simp at hl; omega), decide_eq_false (by omega)]
  rfl
end Go.Proofs.YtjiolbcdfgclaaaGreatDoor
end

section
/-
  The pure layer: own arrays written no more ahead of a loop.
-/
namespace Go.Pg
open Go
theorem Weak.freeze (s : St) (id : Nat) : Weak s (s.mapV (frz id)) := by
  intro C L a w S
  exact ⟨_, (S.freeze id).1⟩
theorem loop_frz {D : Dw} {P : Program} [Tb P] {x : Code} {Q : Exit → St → Prop} {e : Nat → V} {bx : Nat → Option (TypeId × List V)} {n : Nat} {h : Nat → V} (id : Nat) (H : loopC D P x Q ⟨mapE (frz id) e, mapB (frz id) bx, n, mapE (frz id) h⟩) : loopC D P x Q ⟨e, bx, n, h⟩ := by
  obtain ⟨I, m, ⟨s0, hw, h1⟩, h2⟩ := H
  refine ⟨I, m, ⟨s0, ?_, h1⟩, h2⟩
  intro C L a w S
  obtain ⟨L', S'⟩ := Weak.freeze ⟨e, bx, n, h⟩ id C L a w S
  exact hw C L' a w S'
end Go.Pg
end

section
/-
  Scripts: Parse of the sanity check's text.
-/
namespace Go.Proofs.YtjiolbcdfgclaaaGreatDoor
open Go Go.Pg
set_option maxRecDepth 100000
set_option linter.unusedSimpArgs false
set_option linter.unusedVariables false

/-- Events' cells: the two of the text. -/
abbrev ev1 : List V := [vi 2, vi 1] ++ op0 0
abbrev ev2 : List V := [vi 1, vi 0] ++ op0 4
theorem evl_oct : ∀ x ∈ eventsL, oct x := by
  intro x hx
  have : ∀ x ∈ eventsL, (x.all fun b => decide (b < 256)) = true := by decide
  intro b hb
  simpa using List.all_eq_true.1 (this x hx) b hb
theorem pint49 : pint [49] = (1, 0) := by decide
theorem pint48 : pint [48] = (0, 0) := by decide
theorem g_event1 : Pg.Good Tryz.prog 67 [fzs [[112, 105, 99, 107], [49]]] (.tup [.agg ev1, vi 0]) := by
  refine good_intro (drawW_ok mix) Tryz.func67 rfl Tryz.results67 rfl (by kernel_rfl) (Nat.le_of_ble_eq_true (by kernel_rfl)) ?_
  (repeat' (first | (simp (disch := first | assumption | omega | (simp only [Fits, maxLen, pgq] at *; omega)) only [pgo, pgb, tyf, buildSliceV_w, simprocAttr, Tryz.f67, str_nil, pint49]) | ((with_reducible show callW _ _ _ _ _ _); first | refine callW_use _ (g_eventWords) rfl rfl rfl rfl ?_ | refine callZ _ (g_findS _ _ _ _ 1 [112, 105, 99, 107] [[49]] _ eventsL 2 rfl (by simp) (oct_dec _ rfl) evl_oct (by decide) (by decide) rfl (by decide)) rfl ?_ | refine callZ _ (g_numberS _ _ _ _ 1 [49] [] rfl (by simp) (oct_dec _ rfl) (by decide) rfl) rfl ?_) | ((first | ((with_reducible show condC _ _ _ _ _ _ _); refine cond_at (fun hc => ?_) (fun hc => ?_)) | ((with_reducible show guardC _ _ _ _ _ _ _ _); refine guard_at (fun hc => ?_) (fun hc => ?_)) | ((with_reducible show drwG _ _ _ _ _ _ _ _ _ _); refine drw_at (fun hc => ?_) (fun hc => ?_))) <;> (try simp only [hc]) <;> (try simp only [pgd] at hc)) | (with_reducible refine chk_at (by kernel_rfl) ?_)))
  (refine ret_at [] _ (by first | exact retV_one _ _ _ | exact retV_two _ _ _ _ | exact retV_three _ _ _ _ _ | exact retV_four _ _ _ _ _ _ | (simp (disch := first | assumption | omega | (simp only [Fits, maxLen, pgq] at *; omega)) only [pgr, pgo, tyf, simprocAttr]; rfl)) (by decide) (by simp only [pgo, simprocAttr]) ?_; (first | rfl | simp only [pgo, simprocAttr]))
theorem g_event2 : Pg.Good Tryz.prog 67 [fzs [[99, 97, 108, 108], [48], [108, 105, 115, 116]]] (.tup [.agg ev2, vi 0]) := by
  have h0 := g_ParseList
  refine good_intro (drawW_ok mix) Tryz.func67 rfl Tryz.results67 rfl (by kernel_rfl) (Nat.le_of_ble_eq_true (by kernel_rfl)) ?_
  (repeat' (first | (simp (disch := first | assumption | omega | (simp only [Fits, maxLen, pgq] at *; omega)) only [pgo, pgb, tyf, buildSliceV_w, simprocAttr, Tryz.f67, str_nil, pint48]) | ((with_reducible show callW _ _ _ _ _ _); first | refine callW_use _ (g_eventWords) rfl rfl rfl rfl ?_ | refine callW_use _ (h0) rfl rfl rfl rfl ?_ | refine callZ _ (g_findS _ _ _ _ 1 [99, 97, 108, 108] [[48], [108, 105, 115, 116]] _ eventsL 1 rfl (by simp) (oct_dec _ rfl) evl_oct (by decide) (by decide) rfl (by decide)) rfl ?_ | refine callZ _ (g_numberS _ _ _ _ 1 [48] [[108, 105, 115, 116]] rfl (by simp) (oct_dec _ rfl) (by decide) rfl) rfl ?_) | ((first | ((with_reducible show condC _ _ _ _ _ _ _); refine cond_at (fun hc => ?_) (fun hc => ?_)) | ((with_reducible show guardC _ _ _ _ _ _ _ _); refine guard_at (fun hc => ?_) (fun hc => ?_)) | ((with_reducible show drwG _ _ _ _ _ _ _ _ _ _); refine drw_at (fun hc => ?_) (fun hc => ?_))) <;> (try simp only [hc]) <;> (try simp only [pgd] at hc)) | (with_reducible refine chk_at (by kernel_rfl) ?_)))
  (refine ret_at [] _ (by first | exact retV_one _ _ _ | exact retV_two _ _ _ _ | exact retV_three _ _ _ _ _ | exact retV_four _ _ _ _ _ _ | (simp (disch := first | assumption | omega | (simp only [Fits, maxLen, pgq] at *; omega)) only [pgr, pgo, tyf, simprocAttr]; rfl)) (by decide) (by simp only [pgo, simprocAttr]) ?_; (first | rfl | simp only [pgo, simprocAttr]))
/-- The text, and its lines. -/
def kT : List Nat := [112, 105, 99, 107, 32, 49, 10, 35, 32, 110, 111, 116, 104, 105, 110, 103, 10, 99, 97, 108, 108, 32, 48, 32, 108, 105, 115, 116]
theorem kT_oct : oct kT := oct_dec _ rfl
abbrev kL1 : List Nat := [112, 105, 99, 107, 32, 49]
abbrev kL2 : List Nat := [35, 32, 110, 111, 116, 104, 105, 110, 103]
abbrev kL3 : List Nat := [99, 97, 108, 108, 32, 48, 32, 108, 105, 115, 116]
theorem kT_lines : linesP kT = .tup [.sl (.own 0 9) 1 (sv [kL1, kL2, kL3]), vi 0] := by
  unfold linesP
  rw [if_neg (by decide), if_neg (by decide), if_neg (by decide)]
  rfl
theorem kF1 : fld kL1 = [[112, 105, 99, 107], [49]] := by decide
theorem kF2 : fld kL2 = [] := by decide
theorem kF3 : fld kL3 = [[99, 97, 108, 108], [48], [108, 105, 115, 116]] := by decide
theorem g_Lines0 : Pg.Good Tryz.prog 65 [vs kT] (.tup [.sl (.own 0 9) 1 (sv [kL1, kL2, kL3]), vi 0]) := by
  have h := good27 kT kT_oct
  rw [kT_lines] at h
  exact h
theorem g_Fields (l : List Nat) (hl : l.length ≤ 1000) (f : List (List Nat)) (hf : fld l = f) (ho : (l.all fun b => decide (b < 256)) = true) : Pg.Good Tryz.prog 66 [vs l] (.sl (.own 0 9) 1 (sv f)) := by
  have h := good26 l (oct_dec _ ho) (by omega)
  rw [hf] at h
  exact h
/-- The events read before line i. -/
def evV : Nat → V
  | 0 => nls
  | 1 => .sl (.own 1 69) 24 [.agg ev1]
  | 2 => .sl (.own 1 69) 24 [.agg ev1]
  | _ => .sl (.own 1 69) 24 [.agg ev1, .agg ev2]
theorem evV0 : evV 0 = nls := rfl
theorem evV1 : evV 1 = .sl (.own 1 69) 24 [.agg ev1] := rfl
theorem evV2 : evV 2 = .sl (.own 1 69) 24 [.agg ev1] := rfl
theorem evV3 : evV 3 = .sl (.own 1 69) 24 [.agg ev1, .agg ev2] := rfl
theorem g_Parse0 : Pg.Good Tryz.prog 28 [vs kT] (.tup [.sl (.own 0 69) 24 [.agg ev1, .agg ev2], vi 0, vi 0]) := by
  have f1 := g_Fields kL1 (by decide) _ kF1 rfl
  have f2 := g_Fields kL2 (by decide) _ kF2 rfl
  have f3 := g_Fields kL3 (by decide) _ kF3 rfl
  have hs : (sv [kL1, kL2, kL3]).length = 3 := rfl
  have hg0 : (sv [kL1, kL2, kL3])[0]? = some (vs kL1) := rfl
  have hg1 : (sv [kL1, kL2, kL3])[1]? = some (vs kL2) := rfl
  have hg2 : (sv [kL1, kL2, kL3])[2]? = some (vs kL3) := rfl
  refine good_intro (drawW_ok mix) Tryz.func28 rfl Tryz.results28 rfl (by kernel_rfl) (Nat.le_of_ble_eq_true (by kernel_rfl)) ?_
  (repeat' (first | (simp (disch := first | assumption | omega | (simp only [Fits, maxLen, pgq] at *; omega)) only [pgo, pgb, tyf, buildSliceV_w, simprocAttr, Tryz.f28, hs]) | ((with_reducible show callW _ _ _ _ _ _); first | refine callW_use _ (g_Lines0) rfl rfl rfl rfl ?_) | ((first | ((with_reducible show condC _ _ _ _ _ _ _); refine cond_at (fun hc => ?_) (fun hc => ?_)) | ((with_reducible show guardC _ _ _ _ _ _ _ _); refine guard_at (fun hc => ?_) (fun hc => ?_)) | ((with_reducible show drwG _ _ _ _ _ _ _ _ _ _); refine drw_at (fun hc => ?_) (fun hc => ?_))) <;> (try simp only [hc]) <;> (try simp only [pgd] at hc)) | (with_reducible refine chk_at (by kernel_rfl) ?_)))
  refine loop_A (fun i : Nat => mkA [(2, evV i), (19, .sl (.own 0 9) 1 (sv [kL1, kL2, kL3])), (20, vi 3), (21, vi i)] [] 2 (fun _ => .top)) (fun i => i ≤ 3) (fun i => 3 - i) 0 [0] [] ?_ (Nat.zero_le _) ?_
  · (refine keep_mkA ?_ ?_ (top_hd _ _ _) (by decide) (by decide) (by decide) (by decide); (repeat' (first | exact trivial | refine genB_one _ _ rfl rfl ?_ ?_)); all_goals (try simp only [pgs, pgl, pgx, pgf, pgw, GenA_cons, GenA_nil, GenL_cons, GenL_nil, gen_top, gen_c, gen_fz, pgn, simprocAttr]); all_goals (try (repeat' (first | apply And.intro))); all_goals (try (first | exact trivial | exact gen_ii (by omega) | exact gen_cc rfl | exact gen_own rfl rfl | exact gen_ref rfl)))
  · intro i hi
    have hi4 : i = 0 ∨ i = 1 ∨ i = 2 ∨ i = 3 := by omega
    rcases hi4 with rfl | rfl | rfl | rfl
    · (repeat' (first | (simp (disch := first | assumption | omega | (simp only [Fits, maxLen, pgq] at *; omega)) only [pgo, pgb, tyf, buildSliceV_w, simprocAttr, hs, hg0, hg1, hg2, evV0, evV1, evV2, evV3, Int.natCast_one, sv_len, List.length_cons, List.length_nil, List.cons_append, List.nil_append, List.append_eq, str_nil]) | ((with_reducible show callW _ _ _ _ _ _); first | refine callW_use _ (f1) rfl rfl rfl rfl ?_ | refine callW_use _ (g_event1) rfl rfl rfl rfl ?_) | ((first | ((with_reducible show condC _ _ _ _ _ _ _); refine cond_at (fun hc => ?_) (fun hc => ?_)) | ((with_reducible show guardC _ _ _ _ _ _ _ _); refine guard_at (fun hc => ?_) (fun hc => ?_)) | ((with_reducible show drwG _ _ _ _ _ _ _ _ _ _); refine drw_at (fun hc => ?_) (fun hc => ?_))) <;> (try simp only [hc]) <;> (try simp only [pgd] at hc)) | (with_reducible refine chk_at (by kernel_rfl) ?_)))
      (refine back_at (0 + 1) [0, 5] [] ((by omega)) (by first | omega | (simp only [List.length_cons]; omega)) ?_; (refine keep_mkA ?_ ?_ (top_hd _ _ _) (by decide) (by decide) (by decide) (by decide); (repeat' (first | exact trivial | refine genB_one _ _ rfl rfl ?_ ?_)); all_goals (try simp only [pgs, pgl, pgx, pgf, pgw, GenA_cons, GenA_nil, GenL_cons, GenL_nil, gen_top, gen_c, gen_fz, pgn, simprocAttr]); all_goals (try (repeat' (first | apply And.intro))); all_goals (try (first | exact trivial | exact gen_ii (by omega) | exact gen_cc rfl | exact gen_own rfl rfl | exact gen_ref rfl))))
      all_goals exact gen_own rfl rfl
    · (repeat' (first | (simp (disch := first | assumption | omega | (simp only [Fits, maxLen, pgq] at *; omega)) only [pgo, pgb, tyf, buildSliceV_w, simprocAttr, hs, hg0, hg1, hg2, evV0, evV1, evV2, evV3, Int.natCast_one, sv_len, List.length_cons, List.length_nil, List.cons_append, List.nil_append, List.append_eq, str_nil]) | ((with_reducible show callW _ _ _ _ _ _); first | refine callW_use _ (f2) rfl rfl rfl rfl ?_) | ((first | ((with_reducible show condC _ _ _ _ _ _ _); refine cond_at (fun hc => ?_) (fun hc => ?_)) | ((with_reducible show guardC _ _ _ _ _ _ _ _); refine guard_at (fun hc => ?_) (fun hc => ?_)) | ((with_reducible show drwG _ _ _ _ _ _ _ _ _ _); refine drw_at (fun hc => ?_) (fun hc => ?_))) <;> (try simp only [hc]) <;> (try simp only [pgd] at hc)) | (with_reducible refine chk_at (by kernel_rfl) ?_)))
      (refine back_at (1 + 1) [0, 1] [] ((by omega)) (by first | omega | (simp only [List.length_cons]; omega)) ?_; (refine keep_mkA ?_ ?_ (top_hd _ _ _) (by decide) (by decide) (by decide) (by decide); (repeat' (first | exact trivial | refine genB_one _ _ rfl rfl ?_ ?_)); all_goals (try simp only [pgs, pgl, pgx, pgf, pgw, GenA_cons, GenA_nil, GenL_cons, GenL_nil, gen_top, gen_c, gen_fz, pgn, simprocAttr]); all_goals (try (repeat' (first | apply And.intro))); all_goals (try (first | exact trivial | exact gen_ii (by omega) | exact gen_cc rfl | exact gen_own rfl rfl | exact gen_ref rfl))))
      all_goals exact gen_own rfl rfl
    · (repeat' (first | (simp (disch := first | assumption | omega | (simp only [Fits, maxLen, pgq] at *; omega)) only [pgo, pgb, tyf, buildSliceV_w, simprocAttr, hs, hg0, hg1, hg2, evV0, evV1, evV2, evV3, Int.natCast_one, sv_len, List.length_cons, List.length_nil, List.cons_append, List.nil_append, List.append_eq, str_nil]) | ((with_reducible show callW _ _ _ _ _ _); first | refine callW_use _ (f3) rfl rfl rfl rfl ?_ | refine callW_use _ (g_event2) rfl rfl rfl rfl ?_) | ((first | ((with_reducible show condC _ _ _ _ _ _ _); refine cond_at (fun hc => ?_) (fun hc => ?_)) | ((with_reducible show guardC _ _ _ _ _ _ _ _); refine guard_at (fun hc => ?_) (fun hc => ?_)) | ((with_reducible show drwG _ _ _ _ _ _ _ _ _ _); refine drw_at (fun hc => ?_) (fun hc => ?_))) <;> (try simp only [hc]) <;> (try simp only [pgd] at hc)) | (with_reducible refine chk_at (by kernel_rfl) ?_)))
      (refine back_at (2 + 1) [0, 1] [] ((by omega)) (by first | omega | (simp only [List.length_cons]; omega)) ?_; (refine keep_mkA ?_ ?_ (top_hd _ _ _) (by decide) (by decide) (by decide) (by decide); (repeat' (first | exact trivial | refine genB_one _ _ rfl rfl ?_ ?_)); all_goals (try simp only [pgs, pgl, pgx, pgf, pgw, GenA_cons, GenA_nil, GenL_cons, GenL_nil, gen_top, gen_c, gen_fz, pgn, simprocAttr]); all_goals (try (repeat' (first | apply And.intro))); all_goals (try (first | exact trivial | exact gen_ii (by omega) | exact gen_cc rfl | exact gen_own rfl rfl | exact gen_ref rfl))))
      all_goals exact gen_own rfl rfl
    · (repeat' (first | (simp (disch := first | assumption | omega | (simp only [Fits, maxLen, pgq] at *; omega)) only [pgo, pgb, tyf, buildSliceV_w, simprocAttr, hs, hg0, hg1, hg2, evV0, evV1, evV2, evV3, Int.natCast_one, sv_len, List.length_cons, List.length_nil, List.cons_append, List.nil_append, List.append_eq, str_nil]) | ((first | ((with_reducible show condC _ _ _ _ _ _ _); refine cond_at (fun hc => ?_) (fun hc => ?_)) | ((with_reducible show guardC _ _ _ _ _ _ _ _); refine guard_at (fun hc => ?_) (fun hc => ?_)) | ((with_reducible show drwG _ _ _ _ _ _ _ _ _ _); refine drw_at (fun hc => ?_) (fun hc => ?_))) <;> (try simp only [hc]) <;> (try simp only [pgd] at hc)) | (with_reducible refine chk_at (by kernel_rfl) ?_)))
      (refine ret_at [1] _ (by first | exact retV_one _ _ _ | exact retV_two _ _ _ _ | exact retV_three _ _ _ _ _ | exact retV_four _ _ _ _ _ _ | (simp (disch := first | assumption | omega | (simp only [Fits, maxLen, pgq] at *; omega)) only [pgr, pgo, tyf, simprocAttr]; rfl)) (by decide) (by simp only [pgo, simprocAttr]) ?_; (first | rfl | simp only [pgo, simprocAttr]))
end Go.Proofs.YtjiolbcdfgclaaaGreatDoor
end

section
/-
  Scripts: the law's own sanity check.
-/
namespace Go.Proofs.YtjiolbcdfgclaaaGreatDoor
open Go Go.Pg
set_option maxRecDepth 100000
set_option linter.unusedSimpArgs false
set_option linter.unusedVariables false

theorem kc1 : (⟨#[105, 110, 115, 101, 114, 116, 32, 97, 32, 45, 32, 120, 32, 51]⟩ : ByteArray) = sB [105, 110, 115, 101, 114, 116, 32, 97, 32, 45, 32, 120, 32, 51] := rfl
theorem kc2 : (⟨#[112, 105, 99, 107, 32, 49, 10, 35, 32, 110, 111, 116, 104, 105, 110, 103, 10, 99, 97, 108, 108, 32, 48, 32, 108, 105, 115, 116]⟩ : ByteArray) = sB kT := rfl
theorem kc3 : (⟨#[101, 114, 114, 111, 114, 32, 49, 52]⟩ : ByteArray) = sB [101, 114, 114, 111, 114, 32, 49, 52] := rfl
theorem kc4 : (⟨#[101, 114, 114, 111, 114, 32]⟩ : ByteArray) = sB [101, 114, 114, 111, 114, 32] := rfl
theorem ka1 : (⟨#[97]⟩ : ByteArray) = sB [97] := rfl
theorem ka2 : (⟨#[120]⟩ : ByteArray) = sB [120] := rfl
theorem itoa_3 : itoaN 3 = [51] := by rw [itoaN_at, if_neg (by decide)]; exact dd_lt 3 (by decide)
theorem itoa_14 : itoaN 14 = [49, 52] := by
  rw [itoaN_at, if_neg (by decide)]
  show dd 14 = _
  rw [dd_ge 14 (by decide), dd_lt (14 / 10) (by decide)]
  rfl
theorem kw_x : kw [120] = [120] := by decide
/-- The insertion of the sanity check. -/
def O6 : O := ⟨6, [97], [], [], 0, 0, 0, 0, [([120], 3)], [], 0, 0, 0, 0, 0, 0, 0, [], 0, 0, 0, []⟩
theorem O6_oct : O6.Oct := ⟨oct_dec _ rfl, oct_nil, (fun _ h => by cases h), (fun x h => by simp [O6] at h; rw [h]; exact oct_dec _ rfl), oct_nil, oct_nil, oct_nil⟩
theorem vop_6 : vop O6 = 0 := by decide
theorem insW_6 : jn (insW O6) = [105, 110, 115, 101, 114, 116, 32, 97, 32, 45, 32, 120, 32, 51] := by
  have : insW O6 = [[105, 110, 115, 101, 114, 116], [97], [45], kw [120], itoaN 3] := rfl
  rw [this, kw_x, itoa_3]
  rfl
theorem g_Fmt6 : Pg.Good Tryz.prog 13 [.agg [vi 6, vs [97], vs [], nls, vi 0, vi 0, vi 0, vu 0, fzt [([120], 3)], nls, vi 0, vi 0, vi 0, vi 0, vi 0, vi 0, vi 0, vs [], vi 0, vi 0, vi 0, nls]] (.tup [vs [105, 110, 115, 101, 114, 116, 32, 97, 32, 45, 32, 120, 32, 51], vi 0]) := by
  have h := g_FmtIns O6 O6_oct rfl vop_6 (by decide) (by decide) (by decide) (fun x hx => by simp [O6] at hx; rw [hx]; exact ⟨by decide, by decide⟩)
  rw [insW_6] at h
  refine h.wk ⟨.inr ⟨_, _, rfl, rfl, ?_⟩, trivial⟩
  (repeat' (first | exact trivial | refine wkL_cons (.inl rfl) ?_ | refine wkL_cons (wk_nil _ _) ?_))
/-- A response's cells. -/
abbrev rsC (e c v h : Int) (nm : V) (a b : Int) (k : List Nat) (nu en : V) (st : Bool) (da : V) : List V := [vi e, vi c, vi v, vi h, nm, vi a, vi b, vs k, nu, en, vb st, da]
theorem g_RespErr (e c v h : Int) (nm : V) (a b : Int) (k : List Nat) (nu en : V) (st : Bool) (da : V) (he : Wt e) (h0 : e ≠ 0) (hnm : nm.erase = nm) (hnu : nu.erase = nu) (hen : en.erase = en) (hda : da.erase = da) :
    Pg.Good Tryz.prog 23 [.agg (rsC e c v h nm a b k nu en st da)] (vs ([101, 114, 114, 111, 114, 32] ++ itoaN e)) := by
  have hi := good23 e he.1 he.2
  have hl := itoaN_len e he.1 he.2
  have hs : ([101, 114, 114, 111, 114, 32] : List Nat).length + (itoaN e).length ≤ 9223372036854775807 := by show 6 + _ ≤ _; omega
  refine good_intro (drawW_ok mix) Tryz.func23 rfl Tryz.results23 rfl (by kernel_rfl) (Nat.le_of_ble_eq_true (by kernel_rfl)) ?_
  (repeat' (first | (simp (disch := first | assumption | omega | (simp only [Fits, maxLen, pgq] at *; omega)) only [pgo, pgb, tyf, buildSliceV_w, simprocAttr, Tryz.f23, h0, kc4, sadd _ _ _ _ hs]) | ((with_reducible show callW _ _ _ _ _ _); first | refine callW_use _ (hi) rfl rfl rfl rfl ?_) | ((first | ((with_reducible show condC _ _ _ _ _ _ _); refine cond_at (fun hc => ?_) (fun hc => ?_)) | ((with_reducible show guardC _ _ _ _ _ _ _ _); refine guard_at (fun hc => ?_) (fun hc => ?_)) | ((with_reducible show drwG _ _ _ _ _ _ _ _ _ _); refine drw_at (fun hc => ?_) (fun hc => ?_))) <;> (try simp only [hc]) <;> (try simp only [pgd] at hc)) | (with_reducible refine chk_at (by kernel_rfl) ?_)))
  (refine ret_at [] _ (by first | exact retV_one _ _ _ | exact retV_two _ _ _ _ | exact retV_three _ _ _ _ _ | exact retV_four _ _ _ _ _ _ | (simp (disch := first | assumption | omega | (simp only [Fits, maxLen, pgq] at *; omega)) only [pgr, pgo, tyf, simprocAttr]; rfl)) (by decide) (by simp only [pgo, simprocAttr]) ?_; (first | rfl | simp only [pgo, simprocAttr]))
theorem g_Resp14 : Pg.Good Tryz.prog 23 [.agg (rsC 14 0 0 0 nls 0 0 [] nls nls false nls)] (vs [101, 114, 114, 111, 114, 32, 49, 52]) := by
  have h := g_RespErr 14 0 0 0 nls 0 0 [] nls nls false nls ⟨by decide, by decide⟩ (by decide) rfl rfl rfl rfl
  rw [itoa_14] at h
  exact h
theorem g_known : Pg.Good Tryz.prog 10 [] (vb true) := by
  have h1 := g_Fmt6
  have h2 := g_Parse0
  have h3 := g_Resp14
  refine good_intro (drawW_ok mix) Tryz.func10 rfl Tryz.results10 rfl (by kernel_rfl) (Nat.le_of_ble_eq_true (by kernel_rfl)) ?_
  (repeat' (first | (simp (disch := first | assumption | omega | (simp only [Fits, maxLen, pgq] at *; omega)) only [pgo, pgb, tyf, buildSliceV_w, simprocAttr, Tryz.f10, kc1, kc2, kc3, ka1, ka2, str_nil, veq_eq, List.length_cons, List.length_nil, List.cons_append, List.nil_append, List.append_eq]) | ((with_reducible show callW _ _ _ _ _ _); first | refine callW_use _ (h1) rfl rfl rfl rfl ?_ | refine callW_use _ (h2) rfl rfl rfl rfl ?_ | refine callW_use _ (h3) rfl rfl rfl rfl ?_) | ((first | ((with_reducible show condC _ _ _ _ _ _ _); refine cond_at (fun hc => ?_) (fun hc => ?_)) | ((with_reducible show guardC _ _ _ _ _ _ _ _); refine guard_at (fun hc => ?_) (fun hc => ?_)) | ((with_reducible show drwG _ _ _ _ _ _ _ _ _ _); refine drw_at (fun hc => ?_) (fun hc => ?_))) <;> (try simp only [hc]) <;> (try simp only [pgd] at hc)) | (with_reducible refine chk_at (by kernel_rfl) ?_)))
  (refine ret_at [] _ (by first | exact retV_one _ _ _ | exact retV_two _ _ _ _ | exact retV_three _ _ _ _ _ | exact retV_four _ _ _ _ _ _ | (simp (disch := first | assumption | omega | (simp only [Fits, maxLen, pgq] at *; omega)) only [pgr, pgo, tyf, simprocAttr]; rfl)) (by decide) (by simp only [pgo, simprocAttr]) ?_; (first | rfl | simp only [pgo, simprocAttr]))
end Go.Proofs.YtjiolbcdfgclaaaGreatDoor
end

section
/-
  Scripts: the law ScriptKeys.
-/
namespace Go.Proofs.YtjiolbcdfgclaaaGreatDoor
open Go Go.Pg
set_option maxRecDepth 100000
set_option linter.unusedSimpArgs false
set_option linter.unusedVariables false

def wtI (w : Int) : Int := bits .and .i64 w 4294967294
theorem wtI_ok (w : Int) : 0 ≤ wtI w ∧ wtI w ≤ 4294967294 := by
  have e1 : (BitVec.ofInt 64 (4294967294 : Int)).toNat = 4294967294 := by decide
  have e : wtI w = IntKind.i64.wrap (((BitVec.ofInt 64 w &&& BitVec.ofInt 64 4294967294).toNat : Nat) : Int) := rfl
  rw [e, BitVec.toNat_and, e1]
  have h := Nat.and_le_right (n := (BitVec.ofInt 64 w).toNat) (m := 4294967294)
  rw [w_i64 _ (by omega) (by omega)]
  omega
def suN (u : Nat) (n : Int) : Nat := u / 2 ^ (n % 64).toNat
theorem suN_lt {u : Nat} (h : u < 18446744073709551616) (n : Int) : suN u n < 18446744073709551616 := Nat.lt_of_le_of_lt (Nat.div_le_self _ _) h
theorem shrS (u : Nat) (n : Int) : Int.fdiv (u : Int) (2 ^ min (n % 64).toNat IntKind.u64.bits) = ((suN u n : Nat) : Int) := by
  have h : min (n % 64).toNat IntKind.u64.bits = (n % 64).toNat := by
    have : IntKind.u64.bits = 64 := rfl
    omega
  rw [h, Int.fdiv_eq_ediv_of_nonneg _ (Int.le_of_lt (Int.pow_pos (by decide)))]
  unfold suN
  simp
theorem kOct (n : Int) : oct (keyB n) := (keyB_ok n).1
/-- The two operations' words. -/
def insWds (k : List Nat) (w : Int) (co : List Nat) : List (List Nat) := [[105, 110, 115, 101, 114, 116], [97], fb co, kw k, itoaN w]
def creWds (u : Nat) : List (List Nat) := [[99, 114, 101, 97, 116, 101], [98], [108, 111, 103, 108, 111, 103], [53], hexU u]
theorem itoa5 : itoaN 5 = [53] := by
  rw [itoaN_at, if_neg (by decide)]
  exact dd_lt 5 (by omega)
theorem dd_no (u : Nat) : ∀ x ∈ dd u, x ≠ 32 := by
  intro x hx
  have h := bt_and (List.all_eq_true.1 (dd_ok (u + 1) u (by omega)).1 x hx)
  omega
theorem itoa_no (n : Int) : ∀ x ∈ itoaN n, x ≠ 32 := by
  intro x hx
  rw [itoaN_at] at hx
  split at hx
  · rcases List.mem_cons.1 hx with rfl | hx
    · omega
    · exact dd_no _ x hx
  · exact dd_no _ x hx
theorem insWds_spl (k : List Nat) (w : Int) (co : List Nat) (ho : oct k) (hk : isKey k = true) (hw : 1 ≤ w ∧ w ≤ 4294967295) (hco : oct co) (hc : co ≠ []) : spl 32 (jn (insWds k w co)) = insWds k w co := by
  refine spl_jn (by simp [insWds]) ?_
  intro x hx
  simp only [insWds, List.mem_cons, List.not_mem_nil, or_false] at hx
  rcases hx with rfl | rfl | rfl | rfl | rfl
  · decide
  · decide
  · have hf : fb co = hexL co := if_neg (by intro h1; exact hc (List.eq_nil_of_length_eq_zero h1))
    rw [hf]; exact hexL_no co hco
  · exact (kw_ok ho hk).2
  · exact itoa_no w
theorem lowd_no (u i : Nat) : ∀ x ∈ lowd u i, x ≠ 32 := by
  induction i with
  | zero => intro x hx; cases hx
  | succ i ih =>
    intro x hx'
    rcases List.mem_cons.1 hx' with rfl | h
    · rcases hx_cases (u / 16 ^ i % 16) (Nat.mod_lt _ (by omega)) with h | h <;> omega
    · exact ih x h
theorem creWds_spl (u : Nat) : spl 32 (jn (creWds u)) = creWds u := by
  refine spl_jn (by simp [creWds]) ?_
  intro x hx
  simp only [creWds, List.mem_cons, List.not_mem_nil, or_false] at hx
  rcases hx with rfl | rfl | rfl | rfl | rfl
  · decide
  · decide
  · decide
  · decide
  · exact lowd_no u _
theorem insOct {k : List Nat} {co : List Nat} (w : Int) (ho : oct k) (hco : oct co) : (oIns [97] [(k, w)] co).Oct :=
  ⟨oct_one (by omega), oct_nil, (fun _ h => by cases h), (fun x h => by rcases List.mem_singleton.1 h with rfl; exact ho), hco, oct_nil, oct_nil⟩
theorem creOct (u : Nat) : (oCre [98] 5 u).Oct := ⟨oct_one (by omega), oct_nil, (fun _ h => by cases h), (fun _ h => by cases h), oct_nil, oct_nil, oct_nil⟩
theorem g_F1 (k : List Nat) (w : Int) (co : List Nat) (ho : oct k) (hk : isKey k = true) (hw : 1 ≤ w ∧ w ≤ 4294967295) (hco : oct co) (hc : co ≠ []) (hcl : co.length ≤ 4) :
    Pg.Good Tryz.prog 13 [.agg (opI [97] (fzt [(k, w)]) (fzb co))] (.tup [vs (jn (insWds k w co)), vi 0]) := by
  have h := g_FmtIns (oIns [97] [(k, w)] co) (insOct w ho hco) rfl (vop_ins k w co hk hw (by omega)) (show co.length ≤ 1000 by omega) (show [97].length ≤ 1000 by decide) (show [(k, w)].length ≤ 1000 by simp) (fun x hx => by
    rcases List.mem_singleton.1 (show x ∈ [(k, w)] from hx) with rfl; exact ⟨by show -9223372036854775808 ≤ w; omega, by show w ≤ 9223372036854775807; omega⟩)
  refine h.wk ⟨.inr ⟨_, _, rfl, rfl, ?_⟩, trivial⟩
  (repeat' (first | exact trivial | refine wkL_cons (.inl rfl) ?_ | refine wkL_cons (wk_nil _ _) ?_))
theorem g_F2 (u : Nat) (hu : u < 18446744073709551616) : Pg.Good Tryz.prog 13 [.agg (opP [98] 5 u)] (.tup [vs (jn (creWds u)), vi 0]) := by
  have h := g_FmtCre (oCre [98] 5 u) (creOct u) rfl rfl u hu rfl (vop_cre u) (show [98].length ≤ 1000 by decide) ⟨by show -9223372036854775808 ≤ (5 : Int); decide, by show (5 : Int) ≤ 9223372036854775807; decide⟩
  have e : ([[99, 114, 101, 97, 116, 101], (oCre [98] 5 u).name, [108, 111, 103, 108, 111, 103], itoaN (oCre [98] 5 u).pz, hexU u] : List (List Nat)) = creWds u := by
    show [_, [98], _, itoaN 5, hexU u] = _
    rw [itoa5]; rfl
  rw [e] at h
  refine h.wk ⟨.inr ⟨_, _, rfl, rfl, ?_⟩, trivial⟩
  (repeat' (first | exact trivial | refine wkL_cons (.inl rfl) ?_ | refine wkL_cons (wk_nil _ _) ?_))
theorem g_S1 (k : List Nat) (w : Int) (co : List Nat) : Pg.Good Tryz.prog 17 [.agg (opI [97] (fzt [(k, w)]) (fzb co)), .agg (opI [97] (fzt [(k, w)]) (fzb co))] (vb true) := by
  have h := g_SameE (oIns [97] [(k, w)] co) (show 0 ≤ 1000000 by omega) (show [(k, w)].length ≤ 1000000 by simp)
  refine h.wk ⟨.inr ⟨_, _, rfl, rfl, ?_⟩, .inr ⟨_, _, rfl, rfl, ?_⟩, trivial⟩
  all_goals (repeat' (first | exact trivial | refine wkL_cons (.inl rfl) ?_ | refine wkL_cons (wk_nil _ _) ?_))
theorem g_S2 (u : Nat) : Pg.Good Tryz.prog 17 [.agg (opP [98] 5 u), .agg (opP [98] 5 u)] (vb true) := by
  have h := g_SameE (oCre [98] 5 u) (show 0 ≤ 1000000 by omega) (show 0 ≤ 1000000 by omega)
  refine h.wk ⟨.inr ⟨_, _, rfl, rfl, ?_⟩, .inr ⟨_, _, rfl, rfl, ?_⟩, trivial⟩
  all_goals (repeat' (first | exact trivial | refine wkL_cons (.inl rfl) ?_ | refine wkL_cons (wk_nil _ _) ?_))
theorem fb_ok {co : List Nat} (hco : oct co) : oct (fb co) ∧ (fb co).length ≤ 2 * co.length + 1 := ⟨fb_oct co, fb_len co⟩
theorem g_P1 (k : List Nat) (w : Int) (co : List Nat) (ho : oct k) (hk : isKey k = true) (hw : 1 ≤ w ∧ w ≤ 4294967295) (hco : oct co) (hc : co ≠ []) (hcl : co.length ≤ 4) :
    Pg.Good Tryz.prog 15 [fzs (insWds k w co)] (.tup [.agg (opI [97] (.sl (.own 1 64) 2 (itv [(k, w)])) (.sl (.own 0 5) 1 (bv co))), vi 0]) := by
  obtain ⟨b1, b2⟩ := byV_fb hco hc
  have hi := its_one k w ho hk hw
  have hfl := fb_len co
  have hkl := kw_len k
  have hil := itoaN_len w (by omega) (by omega)
  refine g_ParseIns [97] (fb co) [kw k, itoaN w] [(k, w)] co (by simp) ?_ ?_ (by rw [b2]; exact hi) b1 (by simp) hc (insOct w ho hco) (vop_ins k w co hk hw (by omega))
  · intro x hx
    simp only [List.mem_cons, List.not_mem_nil, or_false] at hx
    rcases hx with rfl | rfl | rfl | rfl
    · exact oct_one (by omega)
    · exact fb_oct co
    · exact kw_oct ho
    · exact itoaN_oct w
  · intro x hx
    simp only [List.mem_cons, List.not_mem_nil, or_false] at hx
    rcases hx with rfl | rfl | rfl | rfl
    · simp
    · omega
    · omega
    · omega
theorem g_P2 (u : Nat) (hu : u < 18446744073709551616) : Pg.Good Tryz.prog 15 [fzs (creWds u)] (.tup [.agg (opP [98] 5 u), vi 0]) := by
  have hp : pint [53] = (5, 0) := by decide
  have h := g_ParseCre [98] [53] u hu (oct_dec _ rfl) (by decide) (oct_one (by omega)) (by rw [hp]) (by rw [hp]; exact vop_cre u)
  rw [hp] at h
  exact h
end Go.Proofs.YtjiolbcdfgclaaaGreatDoor
end

section
/-
  Scripts: the law ScriptKeys, walked.
-/
namespace Go.Proofs.YtjiolbcdfgclaaaGreatDoor
open Go Go.Pg
set_option maxRecDepth 100000
set_option linter.unusedSimpArgs false
set_option linter.unusedVariables false

theorem insWds_len (k : List Nat) (w : Int) (co : List Nat) (hw : 1 ≤ w ∧ w ≤ 4294967295) (hcl : co.length ≤ 4) : (jn (insWds k w co)).length ≤ 1000000 := by
  have h := jn_len (insWds k w co)
  have h1 := kw_len k
  have h2 := itoaN_len w (by omega) (by omega)
  have h3 := fb_len co
  simp only [insWds, tot_cons, tot_nil, List.length_cons, List.length_nil] at h
  unfold insWds
  omega
theorem creWds_len (u : Nat) (hu : u < 18446744073709551616) : (jn (creWds u)).length ≤ 1000000 := by
  have h := jn_len (creWds u)
  have h1 := hexU_len u
  have h2 := (nd_bd 16 u (by simpa using hu) (by omega)).2.1
  simp only [creWds, tot_cons, tot_nil, List.length_cons, List.length_nil] at h
  unfold creWds
  omega
theorem insWds_oct (k : List Nat) (w : Int) (co : List Nat) (ho : oct k) : oct (jn (insWds k w co)) := oct_jn fun x hx => by
  simp only [insWds, List.mem_cons, List.not_mem_nil, or_false] at hx
  rcases hx with rfl | rfl | rfl | rfl | rfl
  · exact oct_dec _ rfl
  · exact oct_one (by omega)
  · exact fb_oct co
  · exact kw_oct ho
  · exact itoaN_oct w
theorem creWds_oct (u : Nat) : oct (jn (creWds u)) := oct_jn fun x hx => by
  simp only [creWds, List.mem_cons, List.not_mem_nil, or_false] at hx
  rcases hx with rfl | rfl | rfl | rfl | rfl
  · exact oct_dec _ rfl
  · exact oct_one (by omega)
  · exact oct_dec _ rfl
  · exact oct_one (by omega)
  · exact hexU_oct u
theorem andW (w : Int) : bits .and .i64 w 4294967294 = wtI w := rfl
set_option maxHeartbeats 2000000 in
theorem good7k (n w : Int) (u : Nat) (hu : u < 18446744073709551616) : Pg.Good Tryz.prog 7 [vi n, vu u, vi w] (vb true) := by
  have hsl := suN_lt hu n
  have hcv := coinsV_ok (n.fdiv 8 % 65536)
  have hkv := g_Key (n % 65536)
  have hcc := g_Coins (n.fdiv 8 % 65536)
  have hko := kOct (n % 65536)
  have hkk := keyB_key (n % 65536)
  have hwt := wtI_ok w
  have hww : 1 ≤ 1 + wtI w ∧ 1 + wtI w ≤ 4294967295 := by omega
  have hsh := shrS u n
  have f1 := g_F1 (keyB (n % 65536)) (1 + wtI w) (coinsV (n.fdiv 8 % 65536)) hko hkk hww hcv.1 hcv.2.2 hcv.2.1
  have p1 := g_P1 (keyB (n % 65536)) (1 + wtI w) (coinsV (n.fdiv 8 % 65536)) hko hkk hww hcv.1 hcv.2.2 hcv.2.1
  have s1 := g_S1 (keyB (n % 65536)) (1 + wtI w) (coinsV (n.fdiv 8 % 65536))
  have w1 := g_lawWords (jn (insWds (keyB (n % 65536)) (1 + wtI w) (coinsV (n.fdiv 8 % 65536)))) (insWds_oct _ _ _ hko) (insWds_len _ _ _ hww hcv.2.1)
  rw [insWds_spl _ _ _ hko hkk hww hcv.1 hcv.2.2] at w1
  have f2 := g_F2 (suN u n) hsl
  have p2 := g_P2 (suN u n) hsl
  have s2 := g_S2 (suN u n)
  have w2 := g_lawWords (jn (creWds (suN u n))) (creWds_oct _) (creWds_len _ hsl)
  rw [creWds_spl] at w2
  have hkn := g_known
  generalize keyB (n % 65536) = k at *
  generalize hcoG : coinsV (n.fdiv 8 % 65536) = co at *
  generalize suN u n = su at *
  generalize hwG : wtI w = wt at *
  have pf1 : V.flat (.tup [.agg (opI [97] (.sl (.own 1 64) 2 (itv [(k, 1 + wt)])) (.sl (.own 0 5) 1 (bv co))), vi 0]) = true := by simp [V.flat, V.flatL, flat_bv, flat_itv]
  refine good_intro (drawW_ok mix) Tryz.func7 rfl Tryz.results7 rfl (by kernel_rfl) (Nat.le_of_ble_eq_true (by kernel_rfl)) ?_
  (repeat' (first | (simp (disch := first | assumption | omega | (simp only [Fits, maxLen, pgq] at *; omega)) only [pgo, pgb, tyf, buildSliceV_w, simprocAttr, Tryz.f7, str_nil, sh3, andFFFF, and63, andW, hwG, hsh]) | ((with_reducible show callW _ _ _ _ _ _); first | refine callW_use _ (hkv) rfl rfl rfl rfl ?_ | refine callW_use _ (hcc) rfl rfl rfl rfl ?_) | ((first | ((with_reducible show condC _ _ _ _ _ _ _); refine cond_at (fun hc => ?_) (fun hc => ?_)) | ((with_reducible show guardC _ _ _ _ _ _ _ _); refine guard_at (fun hc => ?_) (fun hc => ?_)) | ((with_reducible show drwG _ _ _ _ _ _ _ _ _ _); refine drw_at (fun hc => ?_) (fun hc => ?_))) <;> (try simp only [hc]) <;> (try simp only [pgd] at hc)) | (with_reducible refine chk_at (by kernel_rfl) ?_)))
  refine loop_frz 0 ?_
  refine loop_A (fun i : Nat => mkA [(7, .ref 0 0), (8, .ref 1 0), (9, vi i)] [(0, (32, opI [97] (fzt [(k, 1 + wt)]) (fzb co))), (1, (32, opP [98] 5 su))] 3 (fun _ => .top)) (fun i => i ≤ 2) (fun i => 2 - i) 0 [] [1, 2] ?_ (show (0 : Nat) ≤ 2 by decide) ?_
  · (refine keep_mkA ?_ ?_ (top_hd _ _ _) (by decide) (by decide) (by decide) (by decide); (repeat' (first | exact trivial | refine genB_one _ _ rfl rfl ?_ ?_)); all_goals (try simp only [pgs, pgl, pgx, pgf, pgw, GenA_cons, GenA_nil, GenL_cons, GenL_nil, gen_top, gen_c, gen_fz, pgn, simprocAttr]); all_goals (try (repeat' (first | apply And.intro))); all_goals (try (first | exact trivial | exact gen_ii (by omega) | exact gen_cc rfl | exact gen_own rfl rfl | exact gen_ref rfl)))
    all_goals first | exact gen_same rfl rfl | skip
  · intro i hi
    replace hi : i ≤ 2 := hi
    rcases (by omega : i = 0 ∨ i = 1 ∨ i = 2) with rfl | rfl | rfl
    · (repeat' (first | (simp (disch := first | assumption | omega | (simp only [Fits, maxLen, pgq] at *; omega)) only [pgo, pgb, tyf, buildSliceV_w, simprocAttr, str_nil]) | ((with_reducible show callW _ _ _ _ _ _); first | refine callW_use _ (f1) rfl rfl rfl rfl ?_ | refine callW_use _ (w1) rfl rfl rfl rfl ?_ | refine callW_use _ (p1) rfl rfl rfl (by rw [Bool.or_eq_true]; exact .inr pf1) ?_ | refine callW_use _ (s1) rfl rfl rfl rfl ?_) | ((first | ((with_reducible show condC _ _ _ _ _ _ _); refine cond_at (fun hc => ?_) (fun hc => ?_)) | ((with_reducible show guardC _ _ _ _ _ _ _ _); refine guard_at (fun hc => ?_) (fun hc => ?_)) | ((with_reducible show drwG _ _ _ _ _ _ _ _ _ _); refine drw_at (fun hc => ?_) (fun hc => ?_))) <;> (try simp only [hc]) <;> (try simp only [pgd] at hc)) | (with_reducible refine chk_at (by kernel_rfl) ?_)))
      (refine back_at (1) [] [0, 1] (show (1 : Nat) ≤ 2 by decide) (by first | omega | (simp only [List.length_cons]; omega)) ?_; (refine keep_mkA ?_ ?_ (top_hd _ _ _) (by decide) (by decide) (by decide) (by decide); (repeat' (first | exact trivial | refine genB_one _ _ rfl rfl ?_ ?_)); all_goals (try simp only [pgs, pgl, pgx, pgf, pgw, GenA_cons, GenA_nil, GenL_cons, GenL_nil, gen_top, gen_c, gen_fz, pgn, simprocAttr]); all_goals (try (repeat' (first | apply And.intro))); all_goals (try (first | exact trivial | exact gen_ii (by omega) | exact gen_cc rfl | exact gen_own rfl rfl | exact gen_ref rfl))))
    · (repeat' (first | (simp (disch := first | assumption | omega | (simp only [Fits, maxLen, pgq] at *; omega)) only [pgo, pgb, tyf, buildSliceV_w, simprocAttr, str_nil]) | ((with_reducible show callW _ _ _ _ _ _); first | refine callW_use _ (f2) rfl rfl rfl rfl ?_ | refine callW_use _ (w2) rfl rfl rfl rfl ?_ | refine callW_use _ (p2) rfl rfl rfl rfl ?_ | refine callW_use _ (s2) rfl rfl rfl rfl ?_) | ((first | ((with_reducible show condC _ _ _ _ _ _ _); refine cond_at (fun hc => ?_) (fun hc => ?_)) | ((with_reducible show guardC _ _ _ _ _ _ _ _); refine guard_at (fun hc => ?_) (fun hc => ?_)) | ((with_reducible show drwG _ _ _ _ _ _ _ _ _ _); refine drw_at (fun hc => ?_) (fun hc => ?_))) <;> (try simp only [hc]) <;> (try simp only [pgd] at hc)) | (with_reducible refine chk_at (by kernel_rfl) ?_)))
      (refine back_at (2) [] [0, 1] (show (2 : Nat) ≤ 2 by decide) (by first | omega | (simp only [List.length_cons]; omega)) ?_; (refine keep_mkA ?_ ?_ (top_hd _ _ _) (by decide) (by decide) (by decide) (by decide); (repeat' (first | exact trivial | refine genB_one _ _ rfl rfl ?_ ?_)); all_goals (try simp only [pgs, pgl, pgx, pgf, pgw, GenA_cons, GenA_nil, GenL_cons, GenL_nil, gen_top, gen_c, gen_fz, pgn, simprocAttr]); all_goals (try (repeat' (first | apply And.intro))); all_goals (try (first | exact trivial | exact gen_ii (by omega) | exact gen_cc rfl | exact gen_own rfl rfl | exact gen_ref rfl))))
    · (repeat' (first | (simp (disch := first | assumption | omega | (simp only [Fits, maxLen, pgq] at *; omega)) only [pgo, pgb, tyf, buildSliceV_w, simprocAttr]) | ((with_reducible show callW _ _ _ _ _ _); first | refine callW_use _ (hkn) rfl rfl rfl rfl ?_) | ((first | ((with_reducible show condC _ _ _ _ _ _ _); refine cond_at (fun hc => ?_) (fun hc => ?_)) | ((with_reducible show guardC _ _ _ _ _ _ _ _); refine guard_at (fun hc => ?_) (fun hc => ?_)) | ((with_reducible show drwG _ _ _ _ _ _ _ _ _ _); refine drw_at (fun hc => ?_) (fun hc => ?_))) <;> (try simp only [hc]) <;> (try simp only [pgd] at hc)) | (with_reducible refine chk_at (by kernel_rfl) ?_)))
      (refine ret_at [] _ (by first | exact retV_one _ _ _ | exact retV_two _ _ _ _ | exact retV_three _ _ _ _ _ | exact retV_four _ _ _ _ _ _ | (simp (disch := first | assumption | omega | (simp only [Fits, maxLen, pgq] at *; omega)) only [pgr, pgo, tyf, simprocAttr]; rfl)) (by decide) (by simp only [pgo, simprocAttr]) ?_; (first | rfl | simp only [pgo, simprocAttr] | skip))
end Go.Proofs.YtjiolbcdfgclaaaGreatDoor
end
