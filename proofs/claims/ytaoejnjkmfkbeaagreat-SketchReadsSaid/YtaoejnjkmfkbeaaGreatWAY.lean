/-
  Texts of this claim, merged; own names are short.
-/
import Derived.Test.YtaoejnjkmfkbeaaGreatWAX
import Derived.Test.YtaoejnjkmfkbeaaGreatWAW
set_option linter.unusedVariables false
set_option linter.unusedSimpArgs false
set_option linter.unusedSectionVars false
set_option linter.defProp false
set_option maxRecDepth 100000
set_option maxHeartbeats 8000000
namespace Go.Proofs.YtaoejnjkmfkbeaaGreat
open Go Go.Pg
theorem LG {l m : List Nat} {i j : Nat} {t : TypeId} {es es' : List (ByteArray × Value)} (h : (l.contains i && l.idxOf i == j) = true) (hx : es = es') : Gen l m (.mp (.own i t) es) (.mp (.own j t) es') := by
 simp only [Bool.and_eq_true, beq_iff_eq, List.contains_iff_mem] at h
 subst hx
 refine .inr (.inl ⟨by simp [V.any, Tag.notIn, h.1], by simp [V.map, mQ, h.2]⟩)
theorem DU {a b : ByteArray} : (a == b) = true ↔ a = b := by
 obtain ⟨a⟩ := a
 obtain ⟨b⟩ := b
 show (a == b) = true ↔ _
 rw [beq_iff_eq]
 exact ⟨fun h => by rw [h], fun h => by cases h; rfl⟩
def yG (l : List En) : Nat → List (ByteArray × Value)
 | 0 => []
 | n + 1 => mO (yG l n) (sB (l.getD n eD).1) (.bool true)
theorem I8 (k a : ByteArray) (v : Value) : ∀ (es : List (ByteArray × Value)) (i : Nat), (o6 (mO es a v) k i).map (·.2) = if (k == a) = true then some v else (o6 es k i).map (·.2)
 | [], i => by
  show (o6 [(a, v)] k i).map (·.2) = _
  unfold o6
  split <;> rfl
 | (b, u) :: es, i => by
  unfold mO
  by_cases h : (a == b) = true
  ·rw [if_pos h]
   have hb : b = a := (DU.1 h).symm
   subst hb
   unfold o6
   by_cases h2 : (k == b) = true
   ·rw [if_pos h2, if_pos h2]; rfl
   ·rw [if_neg h2, if_neg h2, if_neg h2]
  ·rw [if_neg h]
   unfold o6
   by_cases h2 : (k == b) = true
   ·rw [if_pos h2, if_pos h2]
    have hb : k = b := DU.1 h2
    subst hb
    have : ¬ (k == a) = true := fun e => h (DU.2 (DU.1 e).symm)
    rw [if_neg this]
   ·rw [if_neg h2, if_neg h2]
    exact I8 k a v es (i + 1)
theorem NY (l : List En) (k : List Nat) : eG l k ≥ 0 ↔ ∃ e ∈ l, e.1 = k := by
 have : ∀ (l : List En) (i : Nat), Bc k i l ≥ 0 ↔ ∃ e ∈ l, e.1 = k := by
  intro l
  induction l with
  | nil => intro i; simp [Bc]
  | cons x l ih =>
   intro i
   unfold Bc
   by_cases h : x.1 = k
   ·simp [h]
   ·simp only [h, if_false, ih (i + 1), List.mem_cons, exists_eq_or_imp, false_or]
 exact this l 0
theorem WS (l : List En) (ho : octE l) (k : List Nat) (hk : oct k) : ∀ n, n ≤ l.length → wQ (yG l n) (sB k) = if eG (l.take n) k ≥ 0 then some (.bool true) else none := by
 intro n
 induction n with
 | zero => intro _; rfl
 | succ n ih =>
  intro hn
  have hox := fM ho n
  have e1 : wQ (yG l (n + 1)) (sB k) = if (sB k == sB (l.getD n eD).1) = true then some (.bool true) else wQ (yG l n) (sB k) := I8 _ _ _ _ _
  rw [e1, ih (by omega)]
  have e2 : (sB k == sB (l.getD n eD).1) = true ↔ (l.getD n eD).1 = k := by
   constructor
   ·intro h; exact (U9 hk hox (DU.1 h)).symm
   ·intro h; rw [h]; exact DU.2 rfl
  have e3 : eG (l.take (n + 1)) k ≥ 0 ↔ ((l.getD n eD).1 = k ∨ eG (l.take n) k ≥ 0) := by
   have : l.take (n + 1) = l.take n ++ [l.getD n eD] := by
    rw [List.take_succ_eq_append_getElem hn]; congr 2; simp [List.getD, show n < l.length from hn]
   rw [NY, NY, this]
   simp only [List.mem_append, List.mem_singleton, or_and_right, exists_or, exists_eq_left]
   exact or_comm
  by_cases h1 : (l.getD n eD).1 = k
  ·rw [if_pos (e2.2 h1), if_pos (e3.2 (.inl h1))]
  ·rw [if_neg (fun h => h1 (e2.1 h))]
   by_cases h2 : eG (l.take n) k ≥ 0
   ·rw [if_pos h2, if_pos (e3.2 (.inr h2))]
   ·rw [if_neg h2, if_neg (fun h => (e3.1 h).elim h1 h2)]
theorem WT : zZ Tryz.prog 217 = some (9, 4) := by kernel_rfl
theorem aa6 : lS Tryz.prog 4 = some (.bool false) := by kernel_rfl
theorem WU (x : Tp) (ho : octE x.e) (hn : x.e.length ≤ 1000000) : Pg.Good Tryz.prog 116 [.agg (tpF x)] (vi (vTp x)) := by
 obtain ⟨z, t, l, b⟩ := x
 simp only at ho hn
 unfold vTp
 simp only
 have hel := aP l
 by_cases c1 : (1 ≤ z ∧ z ≤ 32) ∧ (0 ≤ t ∧ t ≤ 1099511627776)
 ·rw [if_neg (fun h => h c1)]
  have k1 := I4 z c1.1
  by_cases c2 : (l.length : Int) > z
  ·rw [if_pos c2]
   refine gI oW Tryz.func116 Tryz.results116 ?_
   exact wR @aP k1 ah
  ·rw [if_neg c2]
   refine gI oW Tryz.func116 Tryz.results116 ?_
   refine wS (aI @pgp (aI @WT (aI @Option.map_some.{0,0} @aP))) k1 ?_
   generalize hE : kT (qJ l) l.length 0 = E
   refine bn (fun i : Nat => mkA [(1, .ref 0 0), (3, .mp (.own 0 217) (yG l i)), (28, fzv l), (29, vi l.length), (30, vi i)] [(0, (34, tpF ⟨z, t, l, b⟩))] 1 (fun _ => .top)) (fun i => i ≤ l.length ∧ kT (qJ l) (l.length - i) i = E) (fun i => l.length - i) 0 [1] [0] ?_ ⟨Nat.zero_le _, hE⟩ ?_
   ·(refine aN ?_ ?_ (bG _ _ _) (by decide) (by decide) (by decide) (by decide); (repeat' (first | exact trivial | refine aG _ _ rfl rfl ?_ ?_)); all_goals (try simp only [pgs, pgl, pgx, pgf, pgw, ay, aJ, az, aK, aZ, bV, bD, pgn, simprocAttr]); all_goals (try (repeat' (first | apply aI))); all_goals (try (first | exact trivial | exact au (by omega) | exact aU rfl | exact ak rfl rfl | exact bg rfl)))
    all_goals first | exact LG rfl rfl | skip
   ·rintro i ⟨hi, he⟩
    rcases Nat.lt_or_ge i l.length with hlt | hge
    ·have hg := fG l i hlt
     have hox := fM ho i
     rw [show l.length - i = (l.length - (i + 1)) + 1 by omega] at he
     have k3 := EN (l.getD i eD).1
     have k4 := WS l ho (l.getD i eD).1 hox i hi
     have hsm : mO (yG l i) (sB (l.getD i eD).1) (.bool true) = yG l (i + 1) := rfl
     have et : qJ l i = if ig (l.getD i eD).1 = false then 7 else if ¬ ((1 ≤ (l.getD i eD).2.1 ∧ (l.getD i eD).2.1 ≤ 1099511627776) ∧ (0 ≤ (l.getD i eD).2.2 ∧ (l.getD i eD).2.2 ≤ (l.getD i eD).2.1 - 1)) then 5 else if eG (l.take i) (l.getD i eD).1 ≥ 0 then 9 else if 0 < i ∧ bfE (l.getD (i - 1) eD) (l.getD i eD) = false then 19 else 0 := rfl
     generalize hxx : l.getD i eD = x at *
     have hb := fun y => QS y x
     obtain ⟨xk, xc, xe⟩ := x
     simp only at hox k3 k4 et hg hb hsm
     generalize yG l i = M at *
     have ext : ∀ v : Int, v ≠ 0 → qJ l i = v → v = E := fun v h0 h1 => by rw [qo _ _ _ (by omega)] at he; omega
     cases q1 : ig xk
     ·rw [q1] at k3 et
      have := ext 7 (by omega) (by rw [et]; rfl)
      subst this
      exact wR (aI @aP @hg) k3 ah
     ·rw [q1] at k3 et
      rw [if_neg (by simp)] at et
      by_cases q2 : (1 ≤ xc ∧ xc ≤ 1099511627776) ∧ (0 ≤ xe ∧ xe ≤ xc - 1)
      ·rw [if_neg (fun h => h q2)] at et
       by_cases q3 : eG (l.take i) xk ≥ 0
       ·rw [if_pos q3] at et k4
        have := ext 9 (by omega) et
        subst this
        exact wR (aI @pgp (aI @WT (aI @aa6 (aI @Option.map_some.{0,0} (aI @Option.getD_some.{0} (aI @k4 @hg)))))) k3 ah
       ·rw [if_neg q3] at et k4
        by_cases q4 : 0 < i
        ·have hg1 := fG l (i - 1) (by omega)
         have hi1 : ((i : Int) - 1).toNat = i - 1 := by omega
         have hb1 := hb (l.getD (i - 1) eD)
         have hlt5 := aa5 (l.getD (i - 1) eD) (xk, xc, xe)
         generalize l.getD (i - 1) eD = y at *
         cases q5 : bfE y (xk, xc, xe)
         ·rw [if_pos ⟨q4, q5⟩] at et
          rw [q5, decide_eq_false_iff_not] at hlt5
          generalize LD y (xk, xc, xe) = cc at *
          have := ext 19 (by omega) et
          subst this
          exact wR (aI @pgp (aI @WT (aI @aa6 (aI @Option.map_some.{0,0} (aI @Option.getD_none.{0} (aI @k4 (aI @hg (aI @hi1 @hg1)))))))) (aI k3 hb1) ah
         ·rw [if_neg (by rw [q5]; simp)] at et
          rw [q5, decide_eq_true_eq] at hlt5
          generalize LD y (xk, xc, xe) = cc at *
          rw [jO _ _ _ et] at he
          refine wS (aI @pgp (aI @WT (aI @aa6 (aI @Option.map_some.{0,0} (aI @Option.getD_none.{0} (aI @k4 (aI @hg (aI @hi1 @hg1)))))))) (aI k3 hb1) ?_
          (refine bu (i + 1) [0] [0] (⟨hlt, he⟩) (by first | omega | (simp only [List.length_cons]; omega)) ?_; (refine aN ?_ ?_ (bG _ _ _) (by decide) (by decide) (by decide) (by decide); (repeat' (first | exact trivial | refine aG _ _ rfl rfl ?_ ?_)); all_goals (try simp only [pgs, pgl, pgx, pgf, pgw, ay, aJ, az, aK, aZ, bV, bD, pgn, simprocAttr]); all_goals (try (repeat' (first | apply aI))); all_goals (try (first | exact trivial | exact au (by omega) | exact aU rfl | exact ak rfl rfl | exact bg rfl))))
          all_goals first | exact LG rfl hsm | exact (show Gen _ _ (fzv l) (fzv l) from of_eq_true (bD _ _ _ _)) | skip
        ·rw [if_neg (by omega)] at et
         rw [jO _ _ _ et] at he
         refine wS (aI @pgp (aI @WT (aI @aa6 (aI @Option.map_some.{0,0} (aI @Option.getD_none.{0} (aI @k4 @hg)))))) k3 ?_
         (refine bu (i + 1) [0] [0] (⟨hlt, he⟩) (by first | omega | (simp only [List.length_cons]; omega)) ?_; (refine aN ?_ ?_ (bG _ _ _) (by decide) (by decide) (by decide) (by decide); (repeat' (first | exact trivial | refine aG _ _ rfl rfl ?_ ?_)); all_goals (try simp only [pgs, pgl, pgx, pgf, pgw, ay, aJ, az, aK, aZ, bV, bD, pgn, simprocAttr]); all_goals (try (repeat' (first | apply aI))); all_goals (try (first | exact trivial | exact au (by omega) | exact aU rfl | exact ak rfl rfl | exact bg rfl))))
         all_goals first | exact LG rfl hsm | exact (show Gen _ _ (fzv l) (fzv l) from of_eq_true (bD _ _ _ _)) | skip
      ·rw [if_pos q2] at et
       have := ext 5 (by omega) et
       subst this
       by_cases q6 : 1 ≤ xc
       ·by_cases q7 : xc ≤ 1099511627776
        ·by_cases q8 : 0 ≤ xe
         ·have q9 : ¬ xe < xc := fun h => q2 ⟨⟨q6, q7⟩, q8, by omega⟩
          exact wR (aI @aP @hg) k3 ah
         ·exact wR (aI @aP @hg) k3 ah
        ·exact wR (aI @aP @hg) k3 ah
       ·exact wR (aI @aP @hg) k3 ah
    ·have : i = l.length := by omega
     subst this
     rw [Nat.sub_self] at he
     have he0 : 0 = E := he
     subst he0
     exact wR @aP trivial ah
 ·rw [if_pos c1]
  by_cases c2 : 1 ≤ z ∧ z ≤ 32
  ·have k1 := I4 z c2
   by_cases a0 : 0 ≤ t
   ·refine gI oW Tryz.func116 Tryz.results116 ?_
    exact wR trivial k1 ah
   ·refine gI oW Tryz.func116 Tryz.results116 ?_
    exact wR trivial k1 ah
  ·have k1 := QI z c2
   refine gI oW Tryz.func116 Tryz.results116 ?_
   exact wR trivial k1 ah
theorem NZ (t : Tp) (h : vTp t = 0) (ho : octE t.e) (hn : t.e.length ≤ 1000000) : Pg.Good Tryz.prog 168 [.agg (tpF t)] (.tup [fzb (jc t), vi 0]) := by
 have h1 := WU t ho hn
 rw [h] at h1
 obtain ⟨i1, i2, i3, i4⟩ := uC h
 have hen := fun i (hi : i < t.e.length) => pK (i4 i hi)
 have hkl : ∀ i, i < t.e.length → (t.e.getD i eD).1.length ≤ 32 := fun i hi => by have := (hen i hi).1; rw [jr] at this; exact this.2
 have hnx := fun i (hi : i < t.e.length) => oz iW eD t.e i hi
 have hln := fun i => fQ iW 59 t.e i (fun x hx => by obtain ⟨j, hj, he⟩ := gG eD hx; exact Bl x (by rw [← he]; exact hkl j hj))
 have h2 := aaT [t.z, t.t, wo t.b, (t.e.length : Int)] (gJ (by omega) (gJ (by omega) (gJ (Bz _) (gJ (by omega) sN)))) (by simp)
 have e2 : aS [t.z, t.t, wo t.b, (t.e.length : Int)] = ae t.z.toNat ++ ae t.t.toNat ++ gy t.b ++ ae t.e.length := by
  simp only [pU, pW, Ff, Int.toNat_natCast, List.append_nil, List.append_assoc]
 rw [e2] at h2
 have l2 := ax t.z.toNat
 have l3 := ax t.t.toNat
 have l4 := fU t.b
 have l5 := ax t.e.length
 unfold jc
 generalize hA : ae t.z.toNat ++ ae t.t.toNat ++ gy t.b ++ ae t.e.length = A at *
 have hAl : A.length ≤ 28 := by rw [← hA]; simp only [List.length_append]; omega
 clear hA l2 l3 l4 l5 e2
 refine Good.fzt (vs := [ob 0 (A ++ t.e.flatMap iW), vi 0]) ?_ rfl ⟨aj _, aj _, trivial⟩
 have hal := ai A
 obtain ⟨z, tt, l, bb⟩ := t
 simp only at *
 have hil := aP l
 have hol := fun i => fM ho i
 cases bb
 all_goals
  refine ji (qU (fun d => bif d == 48 then true else false) [] mix) Tryz.func168 rfl Tryz.results168 rfl (by kernel_rfl) (Nat.le_of_ble_eq_true (by kernel_rfl)) ?_
  (repeat' (first | (simp (disch := first | exact dqz | fail) only [pgz, simprocAttr, pgF, hil, hal, id_eq.{1}]) | ((with_reducible show cu _ _ _ _ _ _); first | refine cU h1 ?_ | refine dh [1] _ (h2) rfl rfl rfl rfl ?_) | ((with_reducible first | apply aQ | apply aB | apply bz) <;> intro hc <;> (try simp only [hc]) <;> (try simp only [pgd] at hc)) | (with_reducible show qj _ _ _ _ _ _ _ _ _ _ _); refine oM _ _ (fun hc => ?_) (fun hc => ?_) <;> (try simp only [hc]) <;> (try simp only [pgd] at hc) | (with_reducible refine cK ?_)))
  refine bn (fun i : Nat => mkA [(6, ob 0 (A ++ (l.take i).flatMap iW)), (29, .sl .fz 3 (ev l)), (30, vi l.length), (31, vi i)] [] 1 (fun _ => .top)) (fun i => i ≤ l.length) (fun i => l.length - i) 0 [2] [] ?_ (Nat.zero_le _) ?_
  ·(refine aN ?_ ?_ (bG _ _ _) (by decide) (by decide) (by decide) (by decide); (repeat' (first | exact trivial | refine aG _ _ rfl rfl ?_ ?_)); all_goals (try simp only [pgs, pgl, pgx, pgf, pgw, ay, aJ, az, aK, aZ, bV, bD, pgn, simprocAttr]); all_goals (try (repeat' (first | apply aI))); all_goals (try (first | exact trivial | exact au (by omega) | exact aU rfl | exact ak rfl rfl | exact bg rfl)))
   all_goals first | exact ak rfl (by simp) | exact au (by omega) | skip
  ·intro i hi
   replace hi : i ≤ l.length := hi
   have hbl := ai (A ++ (l.take i).flatMap iW)
   have hl2 : (A ++ (l.take i).flatMap iW).length ≤ 90000000 := by have := hln i; rw [List.length_append]; omega
   rcases Nat.lt_or_ge i l.length with hlt | hge
   ·have hg := fG l i hlt
    have hx := hen i hlt
    have hn1 := hnx i hlt
    have hk := hkl i hlt
    have ho1 := hol i
    generalize l.getD i ([], 0, 0) = y at *
    obtain ⟨k, c, er⟩ := y
    simp only at hg hx hn1 hk ho1
    have k1 := ahc k ho1 (by omega)
    have q1 := iG k
    have hE : iW (k, c, er) = bT k ++ ae c.toNat ++ ae er.toNat := rfl
    rw [hE] at hn1
    have k2 := fun e bx n h (id : Nat) (hid : id < n) => aaU e bx n h id (A ++ (l.take i).flatMap iW ++ bT k) [c, er] (gJ (by omega) (gJ (by omega) sN)) (by simp) (by simp) (by rw [List.length_append]; omega) hid
    have p6 : A ++ (l.take i).flatMap iW ++ bT k ++ aS [c, er] = A ++ (l.take (i + 1)).flatMap iW := by rw [hn1]; simp only [pU, pW, List.append_nil, List.append_assoc]
    rw [p6] at k2
    generalize (l.take i).flatMap iW = M at *
    generalize bT k = u at *
    have hul := ai u
    have p1 := bQ (A ++ M) u
    (repeat' (first | (simp (disch := first | exact dqz | fail) only [pgz, simprocAttr, pgF, hil, hg, hbl, hul, p1]) | ((with_reducible show cu _ _ _ _ _ _); first | refine cU k1 ?_ | refine eu _ (k2 _ _ _ _ _ (by omega)) rfl ?_) | ((with_reducible first | apply aQ | apply aB | apply bz) <;> intro hc <;> (try simp only [hc]) <;> (try simp only [pgd] at hc)) | (with_reducible show qj _ _ _ _ _ _ _ _ _ _ _); refine oM _ _ (fun hc => ?_) (fun hc => ?_) <;> (try simp only [hc]) <;> (try simp only [pgd] at hc) | (with_reducible refine cK ?_)))
    (refine bu (i + 1) [0] [] (hlt) (by first | omega | (simp only [List.length_cons]; omega)) ?_; (refine aN ?_ ?_ (bG _ _ _) (by decide) (by decide) (by decide) (by decide); (repeat' (first | exact trivial | refine aG _ _ rfl rfl ?_ ?_)); all_goals (try simp only [pgs, pgl, pgx, pgf, pgw, ay, aJ, az, aK, aZ, bV, bD, pgn, simprocAttr]); all_goals (try (repeat' (first | apply aI))); all_goals (try (first | exact trivial | exact au (by omega) | exact aU rfl | exact ak rfl rfl | exact bg rfl))))
    all_goals first | exact ak rfl rfl | exact au (by omega) | skip
   ·have : i = l.length := by omega
    subst this
    rw [List.take_length]
    (repeat' (first | (simp (disch := first | exact dqz | fail) only [pgz, simprocAttr, pgF, hil]) | ((with_reducible first | apply aQ | apply aB | apply bz) <;> intro hc <;> (try simp only [hc]) <;> (try simp only [pgd] at hc)) | (with_reducible show qj _ _ _ _ _ _ _ _ _ _ _); refine oM _ _ (fun hc => ?_) (fun hc => ?_) <;> (try simp only [hc]) <;> (try simp only [pgd] at hc) | (with_reducible refine cK ?_)))
    exact rE [0]
theorem N7 (t : Fq) (h : vFq t = 0) (ho : octE t.e) (hn : t.e.length ≤ 1000000) : Pg.Good Tryz.prog 169 [.agg (fqF t)] (.tup [fzb (jd t), vi 0]) := by
 have h1 := WJ t ho hn
 rw [h] at h1
 obtain ⟨i1, i2, i2l, i3, i4⟩ := uD h
 have hen := fun i (hi : i < t.e.length) => pO (i4 i hi)
 have hkl : ∀ i, i < t.e.length → (t.e.getD i eD).1.length ≤ 32 := fun i hi => by have := (hen i hi).1; rw [jr] at this; exact this.2
 have hnx := fun i (hi : i < t.e.length) => oz jh eD t.e i hi
 have hln := fun i => fQ jh 50 t.e i (fun x hx => by obtain ⟨j, hj, he⟩ := gG eD hx; exact Bo x (by rw [← he]; exact hkl j hj))
 have h2 := aaV [t.z, t.t, t.l, wo t.b, (t.e.length : Int)] (gJ (by omega) (gJ (by omega) (gJ (by omega) (gJ (Bz _) (gJ (by omega) sN))))) (by simp)
 have e2 : aS [t.z, t.t, t.l, wo t.b, (t.e.length : Int)] = ae t.z.toNat ++ ae t.t.toNat ++ ae t.l.toNat ++ gy t.b ++ ae t.e.length := by
  simp only [pU, pW, Ff, Int.toNat_natCast, List.append_nil, List.append_assoc]
 rw [e2] at h2
 have l2 := ax t.z.toNat
 have l3 := ax t.t.toNat
 have l3l := ax t.l.toNat
 have l4 := fU t.b
 have l5 := ax t.e.length
 unfold jd
 generalize hA : ae t.z.toNat ++ ae t.t.toNat ++ ae t.l.toNat ++ gy t.b ++ ae t.e.length = A at *
 have hAl : A.length ≤ 37 := by rw [← hA]; simp only [List.length_append]; omega
 clear hA l2 l3 l3l l4 l5 e2
 refine Good.fzt (vs := [ob 0 (A ++ t.e.flatMap jh), vi 0]) ?_ rfl ⟨aj _, aj _, trivial⟩
 have hal := ai A
 obtain ⟨z, tt, lo, l, bb⟩ := t
 simp only at *
 have hil := aP l
 have hol := fun i => fM ho i
 cases bb
 all_goals
  refine ji (qU (fun d => bif d == 48 then true else false) [] mix) Tryz.func169 rfl Tryz.results169 rfl (by kernel_rfl) (Nat.le_of_ble_eq_true (by kernel_rfl)) ?_
  (repeat' (first | (simp (disch := first | exact dqz | fail) only [pgz, simprocAttr, pgF, hil, hal, id_eq.{1}]) | ((with_reducible show cu _ _ _ _ _ _); first | refine cU h1 ?_ | refine dh [1] _ (h2) rfl rfl rfl rfl ?_) | ((with_reducible first | apply aQ | apply aB | apply bz) <;> intro hc <;> (try simp only [hc]) <;> (try simp only [pgd] at hc)) | (with_reducible show qj _ _ _ _ _ _ _ _ _ _ _); refine oM _ _ (fun hc => ?_) (fun hc => ?_) <;> (try simp only [hc]) <;> (try simp only [pgd] at hc) | (with_reducible refine cK ?_)))
  refine bn (fun i : Nat => mkA [(6, ob 0 (A ++ (l.take i).flatMap jh)), (31, .sl .fz 3 (ev l)), (32, vi l.length), (33, vi i)] [] 1 (fun _ => .top)) (fun i => i ≤ l.length) (fun i => l.length - i) 0 [2] [] ?_ (Nat.zero_le _) ?_
  ·(refine aN ?_ ?_ (bG _ _ _) (by decide) (by decide) (by decide) (by decide); (repeat' (first | exact trivial | refine aG _ _ rfl rfl ?_ ?_)); all_goals (try simp only [pgs, pgl, pgx, pgf, pgw, ay, aJ, az, aK, aZ, bV, bD, pgn, simprocAttr]); all_goals (try (repeat' (first | apply aI))); all_goals (try (first | exact trivial | exact au (by omega) | exact aU rfl | exact ak rfl rfl | exact bg rfl)))
   all_goals first | exact ak rfl (by simp) | exact au (by omega) | skip
  ·intro i hi
   replace hi : i ≤ l.length := hi
   have hbl := ai (A ++ (l.take i).flatMap jh)
   have hl2 : (A ++ (l.take i).flatMap jh).length ≤ 90000000 := by have := hln i; rw [List.length_append]; omega
   rcases Nat.lt_or_ge i l.length with hlt | hge
   ·have hg := fG l i hlt
    have hx := hen i hlt
    have hn1 := hnx i hlt
    have hk := hkl i hlt
    have ho1 := hol i
    generalize l.getD i ([], 0, 0) = y at *
    obtain ⟨k, c, er⟩ := y
    simp only at hg hx hn1 hk ho1
    have k1 := ahc k ho1 (by omega)
    have q1 := iG k
    have hE : jh (k, c, er) = bT k ++ ae c.toNat := rfl
    rw [hE] at hn1
    have k2 := fun e bx n h (id : Nat) (hid : id < n) => aaW e bx n h id (A ++ (l.take i).flatMap jh ++ bT k) [c] (gJ (by omega) sN) (by simp) (by simp) (by rw [List.length_append]; omega) hid
    have p6 : A ++ (l.take i).flatMap jh ++ bT k ++ aS [c] = A ++ (l.take (i + 1)).flatMap jh := by rw [hn1]; simp only [pU, pW, List.append_nil, List.append_assoc]
    rw [p6] at k2
    generalize (l.take i).flatMap jh = M at *
    generalize bT k = u at *
    have hul := ai u
    have p1 := bQ (A ++ M) u
    (repeat' (first | (simp (disch := first | exact dqz | fail) only [pgz, simprocAttr, pgF, hil, hg, hbl, hul, p1]) | ((with_reducible show cu _ _ _ _ _ _); first | refine cU k1 ?_ | refine eu _ (k2 _ _ _ _ _ (by omega)) rfl ?_) | ((with_reducible first | apply aQ | apply aB | apply bz) <;> intro hc <;> (try simp only [hc]) <;> (try simp only [pgd] at hc)) | (with_reducible show qj _ _ _ _ _ _ _ _ _ _ _); refine oM _ _ (fun hc => ?_) (fun hc => ?_) <;> (try simp only [hc]) <;> (try simp only [pgd] at hc) | (with_reducible refine cK ?_)))
    (refine bu (i + 1) [0] [] (hlt) (by first | omega | (simp only [List.length_cons]; omega)) ?_; (refine aN ?_ ?_ (bG _ _ _) (by decide) (by decide) (by decide) (by decide); (repeat' (first | exact trivial | refine aG _ _ rfl rfl ?_ ?_)); all_goals (try simp only [pgs, pgl, pgx, pgf, pgw, ay, aJ, az, aK, aZ, bV, bD, pgn, simprocAttr]); all_goals (try (repeat' (first | apply aI))); all_goals (try (first | exact trivial | exact au (by omega) | exact aU rfl | exact ak rfl rfl | exact bg rfl))))
    all_goals first | exact ak rfl rfl | exact au (by omega) | skip
   ·have : i = l.length := by omega
    subst this
    rw [List.take_length]
    (repeat' (first | (simp (disch := first | exact dqz | fail) only [pgz, simprocAttr, pgF, hil]) | ((with_reducible first | apply aQ | apply aB | apply bz) <;> intro hc <;> (try simp only [hc]) <;> (try simp only [pgd] at hc)) | (with_reducible show qj _ _ _ _ _ _ _ _ _ _ _); refine oM _ _ (fun hc => ?_) (fun hc => ?_) <;> (try simp only [hc]) <;> (try simp only [pgd] at hc) | (with_reducible refine cK ?_)))
    exact rE [0]
theorem zI {α : Type} (d : α) {a b : List α} {i : Nat} (ha : i < a.length) (hb : i < b.length) (h : a.take i = b.take i) (he : a.getD i d = b.getD i d) : a.take (i + 1) = b.take (i + 1) := by
 rw [List.take_succ_eq_append_getElem ha, List.take_succ_eq_append_getElem hb, h]
 simp only [List.getD, List.getElem?_eq_getElem ha, List.getElem?_eq_getElem hb, Option.getD_some] at he
 rw [he]
theorem Fp {α : Type} {a b : List α} (hl : a.length = b.length) (h : a.take a.length = b.take a.length) : a = b := by
 rw [List.take_length, hl, List.take_length] at h
 exact h
theorem fE (b : Bool) : (b == b) = true := by cases b <;> rfl
theorem N8 (b : Bool) : (b != b) = false := by cases b <;> rfl
theorem N9 {a b : Bool} (h : a ≠ b) : (a == b) = false := by cases a <;> cases b <;> first | rfl | exact absurd rfl h
theorem aeG {a b : Bool} (h : a ≠ b) : (a != b) = true := by cases a <;> cases b <;> first | rfl | exact absurd rfl h
theorem zJ (a : ByteArray) : decide (a = a) = true := decide_eq_true rfl
theorem yH (a b : List Int) (hn : a.length ≤ 1000000) (hn2 : b.length ≤ 1000000) : Pg.Good Tryz.prog 147 [fzi a, fzi b] (vb (decide (a = b))) := by
 have hal := bC a
 have hbl := bC b
 by_cases hl : a.length = b.length
 ·refine gI oW Tryz.func147 Tryz.results147 ?_
  refine wS (aI @hal @hbl) trivial ?_
  refine bn (fun i : Nat => mkA [(0, fzi a), (1, fzi b), (5, vi i)] [] 0 (fun _ => .top)) (fun i => i ≤ a.length ∧ a.take i = b.take i) (fun i => a.length - i) 0 [] [] ?_ ⟨Nat.zero_le _, rfl⟩ ?_
  ·exact kE
  ·rintro i ⟨hi, he⟩
   rcases Nat.lt_or_ge i a.length with hlt | hge
   ·have hg := gQ a i hlt
    have hg2 := gQ b i (by omega)
    have hx := zI (0 : Int) hlt (by omega) he
    by_cases q : a.getD i 0 = b.getD i 0
    ·have hx' := hx q
     generalize a.getD i 0 = x at *
     generalize b.getD i 0 = y at *
     refine wS (aI @hal (aI @hbl (aI @hg @hg2))) trivial ?_
     exact bE (i + 1) [] [] ⟨hlt, hx'⟩
    ·rw [decide_eq_false (fun h => q (by rw [h]))]
     generalize a.getD i 0 = x at *
     generalize b.getD i 0 = y at *
     exact wR (aI @hal (aI @hbl (aI @hg @hg2))) trivial ah
   ·have : i = a.length := by omega
    subst this
    rw [decide_eq_true (Fp hl he)]
    exact wR (aI @hal @hbl) trivial ah
 ·rw [decide_eq_false (fun h => hl (by rw [h]))]
  refine gI oW Tryz.func147 Tryz.results147 ?_
  exact wR (aI @hal @hbl) trivial ah
theorem rJ (a b : List En) (ha : octE a) (hb : octE b) (hn : a.length ≤ 1000000) (hn2 : b.length ≤ 1000000) : Pg.Good Tryz.prog 148 [fzv a, fzv b] (vb (decide (a = b))) := by
 have hal := aP a
 have hbl := aP b
 by_cases hl : a.length = b.length
 ·refine gI oW Tryz.func148 Tryz.results148 ?_
  refine wS (aI @hal @hbl) trivial ?_
  refine bn (fun i : Nat => mkA [(0, fzv a), (1, fzv b), (5, vi i)] [] 0 (fun _ => .top)) (fun i => i ≤ a.length ∧ a.take i = b.take i) (fun i => a.length - i) 0 [] [] ?_ ⟨Nat.zero_le _, rfl⟩ ?_
  ·exact kE
  ·rintro i ⟨hi, he⟩
   rcases Nat.lt_or_ge i a.length with hlt | hge
   ·have hg := fG a i hlt
    have hg2 := fG b i (by omega)
    have hx := zI (([], 0, 0) : En) hlt (by omega) he
    have o1 := fM ha i
    have o2 := fM hb i
    by_cases q : a.getD i ([], 0, 0) = b.getD i ([], 0, 0)
    ·have hx' := hx q
     rw [← q] at hg2
     generalize a.getD i ([], 0, 0) = x at *
     obtain ⟨k, c, e⟩ := x
     refine wS (aI @hal (aI @hbl (aI @hg (aI @hg2 (aI @zJ (aI @Bool.not_true (aI @Bool.and_true @Bool.true_and))))))) trivial ?_
     exact bE (i + 1) [] [] ⟨hlt, hx'⟩
    ·rw [decide_eq_false (fun h => q (by rw [h]))]
     generalize a.getD i ([], 0, 0) = x at *
     generalize b.getD i ([], 0, 0) = y at *
     obtain ⟨k, c, e⟩ := x
     obtain ⟨k', c', e'⟩ := y
     simp only at hg hg2 o1 o2
     by_cases q1 : k = k'
     ·subst q1
      by_cases q2 : c = c'
      ·subst q2
       have q3 : e ≠ e' := fun h => q (by rw [h])
       exact wR (aI @hal (aI @hbl (aI @hg (aI @hg2 (aI @zJ (aI @Bool.not_true (aI @Bool.not_false (aI @Bool.and_true (aI @Bool.true_and (aI @Bool.false_and @Bool.and_false)))))))))) trivial ah
      ·exact wR (aI @hal (aI @hbl (aI @hg (aI @hg2 (aI @zJ (aI @Bool.not_true (aI @Bool.not_false (aI @Bool.and_true (aI @Bool.true_and (aI @Bool.false_and @Bool.and_false)))))))))) trivial ah
     ·have q4 : decide (sB k = sB k') = false := by rw [jw o1 o2]; exact decide_eq_false q1
      exact wR (aI @hal (aI @hbl (aI @hg (aI @hg2 (aI @q4 (aI @Bool.not_true (aI @Bool.not_false (aI @Bool.and_true (aI @Bool.true_and (aI @Bool.false_and @Bool.and_false)))))))))) trivial ah
   ·have : i = a.length := by omega
    subst this
    rw [decide_eq_true (Fp hl he)]
    exact wR (aI @hal @hbl) trivial ah
 ·rw [decide_eq_false (fun h => hl (by rw [h]))]
  refine gI oW Tryz.func148 Tryz.results148 ?_
  exact wR (aI @hal @hbl) trivial ah
def rM (a b : Cm) : Bool := decide (a.d = b.d ∧ a.z = b.z ∧ a.s = b.s ∧ a.b = b.b ∧ a.c = b.c)
theorem zi (a b : Cm) (hn : a.c.length ≤ 1000000) (hn2 : b.c.length ≤ 1000000) : Pg.Good Tryz.prog 54 [.agg (cmF a), .agg (cmF b)] (vb (rM a b)) := by
 have k1 := yH a.c b.c hn hn2
 unfold rM
 by_cases q0 : a.d = b.d
 ·by_cases q1 : a.z = b.z
  ·by_cases q2 : a.s = b.s
   ·by_cases q3 : a.b = b.b
    ·by_cases q4 : a.c = b.c
     ·rw [decide_eq_true ⟨q0, q1, q2, q3, q4⟩]
      rw [decide_eq_true q4] at k1
      obtain ⟨d1, z1, s1, c1, b1⟩ := a
      obtain ⟨d2, z2, s2, c2, b2⟩ := b
      simp only at *
      try subst q3
      refine gI oW Tryz.func54 Tryz.results54 ?_
      exact wR (aI @fE (aI @Bool.not_true (aI @Bool.not_false (aI @Bool.and_true (aI @Bool.true_and (aI @Bool.false_and @Bool.and_false)))))) k1 ah
     ·rw [decide_eq_false (fun h => q4 h.2.2.2.2)]
      rw [decide_eq_false q4] at k1
      obtain ⟨d1, z1, s1, c1, b1⟩ := a
      obtain ⟨d2, z2, s2, c2, b2⟩ := b
      simp only at *
      try subst q3
      refine gI oW Tryz.func54 Tryz.results54 ?_
      exact wR (aI @fE (aI @Bool.not_true (aI @Bool.not_false (aI @Bool.and_true (aI @Bool.true_and (aI @Bool.false_and @Bool.and_false)))))) k1 ah
    ·rw [decide_eq_false (fun h => q3 h.2.2.2.1)]
     have hb := N9 q3
     obtain ⟨d1, z1, s1, c1, b1⟩ := a
     obtain ⟨d2, z2, s2, c2, b2⟩ := b
     simp only at *
     try subst q3
     refine gI oW Tryz.func54 Tryz.results54 ?_
     exact wR (aI @fE (aI @Bool.not_true (aI @Bool.not_false (aI @Bool.and_true (aI @Bool.true_and (aI @Bool.false_and (aI @Bool.and_false @hb))))))) k1 ah
   ·rw [decide_eq_false (fun h => q2 h.2.2.1)]
    obtain ⟨d1, z1, s1, c1, b1⟩ := a
    obtain ⟨d2, z2, s2, c2, b2⟩ := b
    simp only at *
    try subst q3
    refine gI oW Tryz.func54 Tryz.results54 ?_
    exact wR (aI @fE (aI @Bool.not_true (aI @Bool.not_false (aI @Bool.and_true (aI @Bool.true_and (aI @Bool.false_and @Bool.and_false)))))) k1 ah
  ·rw [decide_eq_false (fun h => q1 h.2.1)]
   obtain ⟨d1, z1, s1, c1, b1⟩ := a
   obtain ⟨d2, z2, s2, c2, b2⟩ := b
   simp only at *
   try subst q3
   refine gI oW Tryz.func54 Tryz.results54 ?_
   exact wR (aI @fE (aI @Bool.not_true (aI @Bool.not_false (aI @Bool.and_true (aI @Bool.true_and (aI @Bool.false_and @Bool.and_false)))))) k1 ah
 ·rw [decide_eq_false (fun h => q0 h.1)]
  obtain ⟨d1, z1, s1, c1, b1⟩ := a
  obtain ⟨d2, z2, s2, c2, b2⟩ := b
  simp only at *
  try subst q3
  refine gI oW Tryz.func54 Tryz.results54 ?_
  exact wR (aI @fE (aI @Bool.not_true (aI @Bool.not_false (aI @Bool.and_true (aI @Bool.true_and (aI @Bool.false_and @Bool.and_false)))))) k1 ah
def rO (a b : Ll) : Bool := decide (a.p = b.p ∧ a.s = b.s ∧ a.r = b.r)
theorem CV (a b : Ll) (hn : a.r.length ≤ 1000000) (hn2 : b.r.length ≤ 1000000) : Pg.Good Tryz.prog 55 [.agg (llF a), .agg (llF b)] (vb (rO a b)) := by
 have k1 := yH a.r b.r hn hn2
 unfold rO
 by_cases q0 : a.p = b.p
 ·by_cases q1 : a.s = b.s
  ·by_cases q2 : a.r = b.r
   ·rw [decide_eq_true ⟨q0, q1, q2⟩]
    rw [decide_eq_true q2] at k1
    obtain ⟨p1, s1, r1⟩ := a
    obtain ⟨p2, s2, r2⟩ := b
    simp only at *
    refine gI oW Tryz.func55 Tryz.results55 ?_
    exact wR (aI @fE (aI @Bool.not_true (aI @Bool.not_false (aI @Bool.and_true (aI @Bool.true_and (aI @Bool.false_and @Bool.and_false)))))) k1 ah
   ·rw [decide_eq_false (fun h => q2 h.2.2)]
    rw [decide_eq_false q2] at k1
    obtain ⟨p1, s1, r1⟩ := a
    obtain ⟨p2, s2, r2⟩ := b
    simp only at *
    refine gI oW Tryz.func55 Tryz.results55 ?_
    exact wR (aI @fE (aI @Bool.not_true (aI @Bool.not_false (aI @Bool.and_true (aI @Bool.true_and (aI @Bool.false_and @Bool.and_false)))))) k1 ah
  ·rw [decide_eq_false (fun h => q1 h.2.1)]
   obtain ⟨p1, s1, r1⟩ := a
   obtain ⟨p2, s2, r2⟩ := b
   simp only at *
   refine gI oW Tryz.func55 Tryz.results55 ?_
   exact wR (aI @fE (aI @Bool.not_true (aI @Bool.not_false (aI @Bool.and_true (aI @Bool.true_and (aI @Bool.false_and @Bool.and_false)))))) k1 ah
 ·rw [decide_eq_false (fun h => q0 h.1)]
  obtain ⟨p1, s1, r1⟩ := a
  obtain ⟨p2, s2, r2⟩ := b
  simp only at *
  refine gI oW Tryz.func55 Tryz.results55 ?_
  exact wR (aI @fE (aI @Bool.not_true (aI @Bool.not_false (aI @Bool.and_true (aI @Bool.true_and (aI @Bool.false_and @Bool.and_false)))))) k1 ah
def rP (a b : Tp) : Bool := decide (a.z = b.z ∧ a.t = b.t ∧ a.b = b.b ∧ a.e = b.e)
theorem LH (a b : Tp) (ho : octE a.e) (ho2 : octE b.e) (hn : a.e.length ≤ 1000000) (hn2 : b.e.length ≤ 1000000) : Pg.Good Tryz.prog 56 [.agg (tpF a), .agg (tpF b)] (vb (rP a b)) := by
 have k1 := rJ a.e b.e ho ho2 hn hn2
 unfold rP
 by_cases q0 : a.z = b.z
 ·by_cases q1 : a.t = b.t
  ·by_cases q2 : a.b = b.b
   ·by_cases q3 : a.e = b.e
    ·rw [decide_eq_true ⟨q0, q1, q2, q3⟩]
     rw [decide_eq_true q3] at k1
     obtain ⟨z1, t1, e1, b1⟩ := a
     obtain ⟨z2, t2, e2, b2⟩ := b
     simp only at *
     try subst q2
     refine gI oW Tryz.func56 Tryz.results56 ?_
     exact wR (aI @fE (aI @Bool.not_true (aI @Bool.not_false (aI @Bool.and_true (aI @Bool.true_and (aI @Bool.false_and @Bool.and_false)))))) k1 ah
    ·rw [decide_eq_false (fun h => q3 h.2.2.2)]
     rw [decide_eq_false q3] at k1
     obtain ⟨z1, t1, e1, b1⟩ := a
     obtain ⟨z2, t2, e2, b2⟩ := b
     simp only at *
     try subst q2
     refine gI oW Tryz.func56 Tryz.results56 ?_
     exact wR (aI @fE (aI @Bool.not_true (aI @Bool.not_false (aI @Bool.and_true (aI @Bool.true_and (aI @Bool.false_and @Bool.and_false)))))) k1 ah
   ·rw [decide_eq_false (fun h => q2 h.2.2.1)]
    have hb := N9 q2
    obtain ⟨z1, t1, e1, b1⟩ := a
    obtain ⟨z2, t2, e2, b2⟩ := b
    simp only at *
    try subst q2
    refine gI oW Tryz.func56 Tryz.results56 ?_
    exact wR (aI @fE (aI @Bool.not_true (aI @Bool.not_false (aI @Bool.and_true (aI @Bool.true_and (aI @Bool.false_and (aI @Bool.and_false @hb))))))) k1 ah
  ·rw [decide_eq_false (fun h => q1 h.2.1)]
   obtain ⟨z1, t1, e1, b1⟩ := a
   obtain ⟨z2, t2, e2, b2⟩ := b
   simp only at *
   try subst q2
   refine gI oW Tryz.func56 Tryz.results56 ?_
   exact wR (aI @fE (aI @Bool.not_true (aI @Bool.not_false (aI @Bool.and_true (aI @Bool.true_and (aI @Bool.false_and @Bool.and_false)))))) k1 ah
 ·rw [decide_eq_false (fun h => q0 h.1)]
  obtain ⟨z1, t1, e1, b1⟩ := a
  obtain ⟨z2, t2, e2, b2⟩ := b
  simp only at *
  try subst q2
  refine gI oW Tryz.func56 Tryz.results56 ?_
  exact wR (aI @fE (aI @Bool.not_true (aI @Bool.not_false (aI @Bool.and_true (aI @Bool.true_and (aI @Bool.false_and @Bool.and_false)))))) k1 ah
def rQ (a b : Fq) : Bool := decide (a.z = b.z ∧ a.t = b.t ∧ a.l = b.l ∧ a.b = b.b ∧ a.e = b.e)
theorem zk (a b : Fq) (ho : octE a.e) (ho2 : octE b.e) (hn : a.e.length ≤ 1000000) (hn2 : b.e.length ≤ 1000000) : Pg.Good Tryz.prog 57 [.agg (fqF a), .agg (fqF b)] (vb (rQ a b)) := by
 have k1 := rJ a.e b.e ho ho2 hn hn2
 unfold rQ
 by_cases q0 : a.z = b.z
 ·by_cases q1 : a.t = b.t
  ·by_cases q2 : a.l = b.l
   ·by_cases q3 : a.b = b.b
    ·by_cases q4 : a.e = b.e
     ·rw [decide_eq_true ⟨q0, q1, q2, q3, q4⟩]
      rw [decide_eq_true q4] at k1
      obtain ⟨z1, t1, l1, e1, b1⟩ := a
      obtain ⟨z2, t2, l2, e2, b2⟩ := b
      simp only at *
      try subst q3
      refine gI oW Tryz.func57 Tryz.results57 ?_
      exact wR (aI @fE (aI @Bool.not_true (aI @Bool.not_false (aI @Bool.and_true (aI @Bool.true_and (aI @Bool.false_and @Bool.and_false)))))) k1 ah
     ·rw [decide_eq_false (fun h => q4 h.2.2.2.2)]
      rw [decide_eq_false q4] at k1
      obtain ⟨z1, t1, l1, e1, b1⟩ := a
      obtain ⟨z2, t2, l2, e2, b2⟩ := b
      simp only at *
      try subst q3
      refine gI oW Tryz.func57 Tryz.results57 ?_
      exact wR (aI @fE (aI @Bool.not_true (aI @Bool.not_false (aI @Bool.and_true (aI @Bool.true_and (aI @Bool.false_and @Bool.and_false)))))) k1 ah
    ·rw [decide_eq_false (fun h => q3 h.2.2.2.1)]
     have hb := N9 q3
     obtain ⟨z1, t1, l1, e1, b1⟩ := a
     obtain ⟨z2, t2, l2, e2, b2⟩ := b
     simp only at *
     try subst q3
     refine gI oW Tryz.func57 Tryz.results57 ?_
     exact wR (aI @fE (aI @Bool.not_true (aI @Bool.not_false (aI @Bool.and_true (aI @Bool.true_and (aI @Bool.false_and (aI @Bool.and_false @hb))))))) k1 ah
   ·rw [decide_eq_false (fun h => q2 h.2.2.1)]
    obtain ⟨z1, t1, l1, e1, b1⟩ := a
    obtain ⟨z2, t2, l2, e2, b2⟩ := b
    simp only at *
    try subst q3
    refine gI oW Tryz.func57 Tryz.results57 ?_
    exact wR (aI @fE (aI @Bool.not_true (aI @Bool.not_false (aI @Bool.and_true (aI @Bool.true_and (aI @Bool.false_and @Bool.and_false)))))) k1 ah
  ·rw [decide_eq_false (fun h => q1 h.2.1)]
   obtain ⟨z1, t1, l1, e1, b1⟩ := a
   obtain ⟨z2, t2, l2, e2, b2⟩ := b
   simp only at *
   try subst q3
   refine gI oW Tryz.func57 Tryz.results57 ?_
   exact wR (aI @fE (aI @Bool.not_true (aI @Bool.not_false (aI @Bool.and_true (aI @Bool.true_and (aI @Bool.false_and @Bool.and_false)))))) k1 ah
 ·rw [decide_eq_false (fun h => q0 h.1)]
  obtain ⟨z1, t1, l1, e1, b1⟩ := a
  obtain ⟨z2, t2, l2, e2, b2⟩ := b
  simp only at *
  try subst q3
  refine gI oW Tryz.func57 Tryz.results57 ?_
  exact wR (aI @fE (aI @Bool.not_true (aI @Bool.not_false (aI @Bool.and_true (aI @Bool.true_and (aI @Bool.false_and @Bool.and_false)))))) k1 ah
def rU (a b : Rk) : Bool := decide (a.z = b.z ∧ a.t = b.t ∧ a.l = b.l ∧ a.b = b.b ∧ a.v = b.v)
theorem Fv (a b : Rk) (ha : ∀ l ∈ a.v, octL l) (hb : ∀ l ∈ b.v, octL l) (hn : a.v.length ≤ 1000000) (hn2 : b.v.length ≤ 1000000) (hm : ∀ l ∈ a.v, l.length ≤ 1000000) (hm2 : ∀ l ∈ b.v, l.length ≤ 1000000) : Pg.Good Tryz.prog 58 [.agg (rkF a), .agg (rkF b)] (vb (rU a b)) := by
 have hA : ∀ i, octL (a.v.getD i []) ∧ (a.v.getD i []).length ≤ 1000000 := fun i => by
  rcases Nat.lt_or_ge i a.v.length with hi | hi
  ·exact ⟨ha _ (jl _ _ _ hi), hm _ (jl _ _ _ hi)⟩
  ·rw [List.getD, List.getElem?_eq_none hi]; exact ⟨(fun e he => by cases he), by simp⟩
 have hB : ∀ i, octL (b.v.getD i []) ∧ (b.v.getD i []).length ≤ 1000000 := fun i => by
  rcases Nat.lt_or_ge i b.v.length with hi | hi
  ·exact ⟨hb _ (jl _ _ _ hi), hm2 _ (jl _ _ _ hi)⟩
  ·rw [List.getD, List.getElem?_eq_none hi]; exact ⟨(fun e he => by cases he), by simp⟩
 unfold rU
 obtain ⟨z, t, l, v, bb⟩ := a
 obtain ⟨z', t', l', v', bb'⟩ := b
 simp only at *
 have hal := dQ v
 have hbl := dQ v'
 generalize hD : decide (z = z' ∧ t = t' ∧ l = l' ∧ bb = bb' ∧ v = v') = D
 by_cases q0 : z = z'
 ·by_cases q1 : t = t'
  ·by_cases q2 : l = l'
   ·by_cases q3 : bb = bb'
    ·by_cases q4 : v.length = v'.length
     ·subst q3
      refine gI oW Tryz.func58 Tryz.results58 ?_
      refine wS (aI @N8 (aI @hal (aI @hbl (aI @Bool.not_true (aI @Bool.not_false (aI @Bool.and_true (aI @Bool.true_and (aI @Bool.false_and @Bool.and_false)))))))) trivial ?_
      refine bn (fun i : Nat => mkA [(2, .ref 0 0), (3, .ref 1 0), (5, vi i)] [(0, (39, rkF ⟨z, t, l, v, bb⟩)), (1, (39, rkF ⟨z', t', l', v', bb⟩))] 2 (fun _ => .top)) (fun i => i ≤ v.length ∧ v.take i = v'.take i) (fun i => v.length - i) 0 [] [0, 1] ?_ ⟨Nat.zero_le _, rfl⟩ ?_
      ·exact kE
      ·rintro i ⟨hi, he⟩
       rcases Nat.lt_or_ge i v.length with hlt | hge
       ·have hg := lN v i hlt
        have hg2 := lN v' i (by omega)
        have hx := zI ([] : List (List Nat)) hlt (by omega) he
        have o1 := hA i
        have o2 := hB i
        have hne : v.getD i [] ≠ v'.getD i [] → v ≠ v' := fun h h2 => h (by rw [h2])
        generalize v.getD i [] = x at *
        generalize v'.getD i [] = y at *
        have hxl := Cc x
        have hyl := Cc y
        by_cases q5 : x.length = y.length
        ·refine wS (aI @hal (aI @hbl (aI @hg (aI @hg2 (aI @hxl @hyl))))) trivial ?_
         refine bn (fun j : Nat => mkA [(2, .ref 0 0), (3, .ref 1 0), (5, vi i), (6, vi j)] [(0, (39, rkF ⟨z, t, l, v, bb⟩)), (1, (39, rkF ⟨z', t', l', v', bb⟩))] 2 (fun _ => .top)) (fun j => j ≤ x.length ∧ x.take j = y.take j) (fun j => x.length - j) 0 [] [0, 1] ?_ ⟨Nat.zero_le _, rfl⟩ ?_
         ·exact kE
         ·rintro j ⟨hj, he2⟩
          rcases Nat.lt_or_ge j x.length with hlt2 | hge2
          ·have hh := jX x j hlt2
           have hh2 := jX y j (by omega)
           have hx2 := zI ([] : List Nat) hlt2 (by omega) he2
           have p1 := ny o1.1 j
           have p2 := ny o2.1 j
           have hne2 : x.getD j [] ≠ y.getD j [] → x ≠ y := fun h h2 => h (by rw [h2])
           generalize x.getD j [] = k at *
           generalize y.getD j [] = k' at *
           by_cases q6 : k = k'
           ·subst q6
            refine wS (aI @hal (aI @hbl (aI @hg (aI @hg2 (aI @hxl (aI @hyl (aI @hh (aI @hh2 (aI @zJ (aI @Bool.not_true @Bool.not_false)))))))))) trivial ?_
            exact bE (j + 1) [] [0, 1] ⟨hlt2, hx2 rfl⟩
           ·have q7 : decide (sB k = sB k') = false := by rw [jw p1 p2]; exact decide_eq_false q6
            rw [← hD, decide_eq_false (fun h => hne (hne2 q6) h.2.2.2.2)]
            exact wR (aI @hal (aI @hbl (aI @hg (aI @hg2 (aI @hxl (aI @hyl (aI @hh (aI @hh2 (aI @q7 (aI @Bool.not_true @Bool.not_false)))))))))) trivial ah
          ·have : j = x.length := by omega
           subst this
           have hxy := Fp q5 he2
           refine wS (aI @hal (aI @hbl (aI @hg (aI @hg2 (aI @hxl @hyl))))) trivial ?_
           exact bE (i + 1) [] [0, 1] ⟨hlt, hx hxy⟩
        ·rw [← hD, decide_eq_false (fun h => hne (fun h2 => q5 (by rw [h2])) h.2.2.2.2)]
         exact wR (aI @hal (aI @hbl (aI @hg (aI @hg2 (aI @hxl @hyl))))) trivial ah
       ·have : i = v.length := by omega
        subst this
        rw [← hD, decide_eq_true ⟨q0, q1, q2, rfl, Fp q4 he⟩]
        exact wR (aI @hal @hbl) trivial ah
     ·rw [← hD, decide_eq_false (fun h => q4 (by rw [h.2.2.2.2]))]
      subst q3
      refine gI oW Tryz.func58 Tryz.results58 ?_
      exact wR (aI @N8 (aI @hal (aI @hbl (aI @Bool.not_true (aI @Bool.not_false (aI @Bool.and_true (aI @Bool.true_and (aI @Bool.false_and @Bool.and_false)))))))) trivial ah
    ·rw [← hD, decide_eq_false (fun h => q3 h.2.2.2.1)]
     have hq := aeG q3
     have hq2 := N9 q3
     refine gI oW Tryz.func58 Tryz.results58 ?_
     exact wR (aI @hq (aI @hq2 (aI @hal (aI @hbl (aI @Bool.not_true (aI @Bool.not_false (aI @Bool.and_true (aI @Bool.true_and (aI @Bool.false_and @Bool.and_false))))))))) trivial ah
   ·rw [← hD, decide_eq_false (fun h => q2 h.2.2.1)]
    refine gI oW Tryz.func58 Tryz.results58 ?_
    exact wR (aI @hal (aI @hbl (aI @Bool.not_true (aI @Bool.not_false (aI @Bool.and_true (aI @Bool.true_and (aI @Bool.false_and @Bool.and_false))))))) trivial ah
  ·rw [← hD, decide_eq_false (fun h => q1 h.2.1)]
   refine gI oW Tryz.func58 Tryz.results58 ?_
   exact wR (aI @hal (aI @hbl (aI @Bool.not_true (aI @Bool.not_false (aI @Bool.and_true (aI @Bool.true_and (aI @Bool.false_and @Bool.and_false))))))) trivial ah
 ·rw [← hD, decide_eq_false (fun h => q0 h.1)]
  refine gI oW Tryz.func58 Tryz.results58 ?_
  exact wR (aI @hal (aI @hbl (aI @Bool.not_true (aI @Bool.not_false (aI @Bool.and_true (aI @Bool.true_and (aI @Bool.false_and @Bool.and_false))))))) trivial ah
end Go.Proofs.YtaoejnjkmfkbeaaGreat
