/-
  What DecodeUint reads is how the number is written; what Unframe makes of octets.
-/
import Derived.Test.YtkgebocldjhflaaPgT6
namespace Go.Proofs.Ytkgebocldjhflaa
open Go Go.Pg
set_option maxRecDepth 10000
set_option linter.unusedSimpArgs false

/-! ### Numbers written and read -/
theorem acc_be : ∀ (k n : Nat), acc (be k n) = n % 256 ^ k := by
  intro k
  induction k with
  | zero => intro n; simp [be, acc, Nat.mod_one]
  | succ k ih =>
    intro n
    rw [be, acc_snoc, ih, Nat.pow_succ, Nat.mul_comm (256 ^ k) 256, Nat.mod_mul]
    omega
theorem be_acc : ∀ (n : Nat) (l : List Nat), l.length = n → oct l → be n (acc l) = l := by
  intro n
  induction n with
  | zero => intro l h _; simp at h; subst h; rfl
  | succ n ih =>
    intro l h ho
    rcases List.eq_nil_or_concat l with rfl | ⟨L, b, rfl⟩
    · simp at h
    · have h2 := ho b (by simp)
      rw [List.concat_eq_append, acc_snoc, be, show (acc L * 256 + b) / 256 = acc L by omega, show (acc L * 256 + b) % 256 = b by omega,
        ih L (by simp at h; exact h) (fun x hx => ho x (by simp [hx]))]
theorem acc_cons (c : Nat) (l : List Nat) : acc (c :: l) = c * 256 ^ l.length + acc l := by
  have key : ∀ (l : List Nat) (x : Nat), l.foldl (fun x c => x * 256 + c) x = x * 256 ^ l.length + acc l := by
    intro l
    induction l with
    | nil => intro x; simp [acc]
    | cons y l ih =>
      intro x
      simp only [List.foldl_cons, acc, List.length_cons]
      have e : (x * 256 + y) * 256 ^ l.length = x * (256 ^ l.length * 256) + y * 256 ^ l.length := by rw [Nat.add_mul, Nat.mul_assoc, Nat.mul_comm 256]
      rw [ih (x * 256 + y), ih (0 * 256 + y), Nat.pow_succ, e, Nat.zero_mul, Nat.zero_add, Nat.add_assoc]
  have := key l c
  simpa [acc] using this
theorem dg_eq {x k : Nat} (h1 : 256 ^ k ≤ x) (h2 : x < 256 ^ (k + 1)) (h8 : x < 256 ^ 8) : dg 8 x = k + 1 := by
  have hp : 0 < 256 ^ k := Nat.pow_pos (by omega)
  have a := dg_cmp (n := x) (k := k + 1) h8 (by omega)
  have b := dg_cmp (n := x) (k := k) h8 (by omega)
  have c : 0 < x / 256 ^ k := Nat.div_pos h1 hp
  have d : ¬ 0 < x / 256 ^ (k + 1) := by rw [Nat.div_eq_of_lt h2]; omega
  have := b.1 c
  have : ¬ k + 1 < dg 8 x := fun h => d (a.2 h)
  omega
/-- What is read was written so. -/
theorem dec_enc {m : List Nat} {x u : Nat} (ho : oct m) (h : decN m = (x, u, 0)) : m.take u = enc x ∧ 1 ≤ u ∧ u ≤ m.length ∧ u ≤ 9 ∧ x < 256 ^ 8 := by
  unfold decN at h
  split at h
  · simp at h
  rename_i h0
  have hc := getD_lt ho 0
  have hg : m.getD 0 0 = m[0]'(by omega) := by simp [List.getD, show 0 < m.length by omega]
  split at h
  · rename_i h1
    simp only [Prod.mk.injEq] at h
    obtain ⟨rfl, rfl, _⟩ := h
    refine ⟨?_, by omega, by omega, by omega, by omega⟩
    rw [enc, if_pos h1, hg]
    cases m with
    | nil => simp at h0
    | cons a m => rfl
  rename_i h1
  split at h
  · simp at h
  rename_i h2
  split at h
  · simp at h
  rename_i h3
  simp only [Prod.mk.injEq] at h
  obtain ⟨hx, hu, _⟩ := h
  obtain ⟨k, hk⟩ : ∃ k, m.getD 0 0 = k + 248 := ⟨m.getD 0 0 - 248, by omega⟩
  rw [hk] at hx hu h2 h3
  rw [show k + 248 - 246 = k + 2 by omega] at hx hu h2 h3
  have hlen := mid_len (l := m) (i := k + 2) (by omega)
  have hoct := mid_oct ho (k + 2)
  have hlt := accm_lt (l := m) (i := k + 2) ho (by omega)
  rw [hx] at hlt h3
  have hb := be_acc _ _ hlen hoct
  rw [hx] at hb
  have e1 : k + 2 - 1 = k + 1 := by omega
  rw [e1] at hlt hb
  -- the first octet of the number is not nought
  have hge : 256 ^ k ≤ x := by
    match hm : m, hlen, hx with
    | a :: b :: r, hlen, hx =>
      have e2 : mid (a :: b :: r) (k + 2) = b :: r.take k := rfl
      rw [e2] at hx hlen
      rw [acc_cons] at hx
      have hrl : (r.take k).length = k := by simpa using hlen
      rw [hrl] at hx
      have hbz : b ≠ 0 := by
        intro hz
        apply h3
        left
        rw [hm]; simp [List.getD, hz]
      have : 1 * 256 ^ k ≤ b * 256 ^ k := Nat.mul_le_mul_right _ (by omega)
      omega
    | [a], hlen, _ => rw [hm] at h2; simp at h2
    | [], _, _ => exact absurd (by rw [hm]; rfl) ‹¬ m.length = 0›
  have h8 : x < 256 ^ 8 := by omega
  have hd := dg_eq hge hlt h8
  refine ⟨?_, by omega, by omega, by omega, h8⟩
  rw [enc, if_neg (by omega), hd, hb, ← hu]
  cases m with
  | nil => simp at h0
  | cons a m =>
    have : a = k + 248 := by simpa [List.getD] using hk
    subst this
    simp only [mid, List.take_succ_cons, List.drop_succ_cons, List.drop_zero]
    congr 1
    omega

theorem decN_le (m : List Nat) (ho : oct m) : (decN m).1 ≤ 4611686018427387904 ∧ (decN m).2.1 ≤ 255 := by
  unfold decN
  have := getD_lt ho 0
  split
  · dsimp only; omega
  split
  · dsimp only; omega
  split
  · dsimp only; omega
  split
  · dsimp only; omega
  · rename_i h; simp only [not_or] at h; dsimp only; omega

/-! ### Frames read -/
def bad (e : Nat) : V := .tup [.c (.int .u8 0), .c (.slice none 0 0), .c (.int .i64 0), .c (.int .i64 e)]
/-- The four octets behind 'e'. -/
def ft (l : List Nat) (e : Nat) : List Nat := (l.take (e + 4)).drop e
def unV (l : List Nat) : V :=
  if l.length = 0 then bad 3 else
  if (decN (l.drop 1)).2.2 ≠ 0 then bad (decN (l.drop 1)).2.2 else
  if 1048576 < (decN (l.drop 1)).1 then bad 2 else
  if l.length < 1 + (decN (l.drop 1)).2.1 + (decN (l.drop 1)).1 + 4 then bad 3 else
  if acc (ft l (1 + (decN (l.drop 1)).2.1 + (decN (l.drop 1)).1)) ≠ chk (l.take (1 + (decN (l.drop 1)).2.1 + (decN (l.drop 1)).1)) then bad 4 else
  .tup [.c (.int .u8 (l.getD 0 0 : Nat)), .sl (.own 0 5) 1 (bv ((l.take (1 + (decN (l.drop 1)).2.1 + (decN (l.drop 1)).1)).drop (1 + (decN (l.drop 1)).2.1))),
    .c (.int .i64 (1 + (decN (l.drop 1)).2.1 + (decN (l.drop 1)).1 + 4 : Nat)), .c (.int .i64 0)]
theorem ft_len {l : List Nat} {e : Nat} (h : e + 4 ≤ l.length) : (ft l e).length = 4 := by simp [ft]; omega
theorem ft_oct {l : List Nat} (h : oct l) (e : Nat) : oct (ft l e) := fun x hx => h x (List.mem_of_mem_take (List.mem_of_mem_drop hx))
theorem take_oct {l : List Nat} (h : oct l) (e : Nat) : oct (l.take e) := fun x hx => h x (List.mem_of_mem_take hx)
theorem drop_oct {l : List Nat} (h : oct l) (e : Nat) : oct (l.drop e) := fun x hx => h x (List.mem_of_mem_drop hx)
theorem acc_take {s : List Nat} {i : Nat} (h : i < s.length) : acc (s.take i) * 256 + s.getD i 0 = acc (s.take (i + 1)) := by
  rw [List.take_succ_eq_append_getElem h, acc_snoc]
  simp [List.getD, h]
theorem or_acc32 (x c : Nat) (hx : x < 16777216) (hc : c < 256) : bits .or .u32 (IntKind.u32.wrap ((x : Int) * 2 ^ min (Int.toNat 8) IntKind.u32.bits)) (c : Int) = ((x * 256 + c : Nat) : Int) := by
  have e : (2 : Int) ^ min (Int.toNat 8) IntKind.u32.bits = 256 := rfl
  rw [e, u32w _ (by omega)]
  rw [bits_join .u32 32 (by decide) (fun n h0 h1 => u32w n ⟨h0, by omega⟩) 8 _ _ (by omega) (by omega) (by omega) (by omega) (by omega) (by omega)]
  omega
theorem bs0 (s : St) : buildSliceV Try.prog s 22 0 [] = some (.sl (.own s.nid 5) 1 (bv []), { s with nid := s.nid + 1 }) := by
  simp [buildSliceV, el22, ta5, ze5, setAll, bv]
theorem ne0T {n : Nat} (h : n ≠ 0) : (((n : Nat) : Int) != 0) = true := by simpa using h
theorem ne0F {n : Nat} (h : n = 0) : (((n : Nat) : Int) != 0) = false := by subst h; rfl
end Go.Proofs.Ytkgebocldjhflaa
