/-
  Texts of this claim, merged: PgNP. Each bears its own remark.
-/
import Derived.Test.YtkgebocldjhflaaDoorB5
import Derived.Test.YtkgebocldjhflaaDoorC0
import Derived.Shelf.Strings.Split
import Derived.Shelf.Strings.Cut
import Derived.Shelf.Strings.Prefix
set_option linter.unusedVariables false
set_option linter.unusedSimpArgs false
set_option linter.unusedSectionVars false
section
/-
  Names: strings.Cut, Split, TrimSuffix by the shelf's contracts, at a separator of one octet.
-/
namespace Go.Proofs.YtkgebocldjhflaaDoor
open Go Go.Pg
set_option maxRecDepth 100000
set_option linter.unusedSimpArgs false
set_option linter.unusedVariables false

def lays42_ren : Go.Shelf.Ren := ⟨fun | 145 => 42 | 220 => 51 | 219 => 58 | 217 => 48 | 225 => 67 | 224 => 68 | 267 => 69 | 266 => 56 | 314 => 78 | n => n, fun | 9 => 9 | 4 => 4 | 59 => 57 | 3 => 3 | 5 => 5 | 46 => 36 | 146 => 85 | 51 => 81 | n => n, fun | 1 => 0 | n => n⟩
theorem lays42 : Go.Proofs.Lays.n145 Tryd.prog lays42_ren := {
  mixed := by kernel_rfl
  f145 := Tryd.func42.trans (congrArg some (by kernel_rfl))
  f217 := Tryd.func48.trans (congrArg some (by kernel_rfl))
  f219 := Tryd.func58.trans (congrArg some (by kernel_rfl))
  f220 := Tryd.func51.trans (congrArg some (by kernel_rfl))
  f224 := Tryd.func68.trans (congrArg some (by kernel_rfl))
  f225 := Tryd.func67.trans (congrArg some (by kernel_rfl))
  f266 := Tryd.func56.trans (congrArg some (by kernel_rfl))
  f267 := Tryd.func69.trans (congrArg some (by kernel_rfl))
  f314 := Tryd.func78.trans (congrArg some (by kernel_rfl))
  t3 := Tryd.underlying3
  a3 := Tryd.isAgg3
  z3 := Tryd.sizeOf3
  v3 := Tryd.zeroValue3
  t4 := Tryd.underlying4
  a4 := Tryd.isAgg4
  z4 := Tryd.sizeOf4
  v4 := Tryd.zeroValue4
  t5 := Tryd.underlying5
  a5 := Tryd.isAgg5
  z5 := Tryd.sizeOf5
  v5 := Tryd.zeroValue5
  t9 := Tryd.underlying9
  a9 := Tryd.isAgg9
  z9 := Tryd.sizeOf9
  v9 := Tryd.zeroValue9
  t46 := Tryd.underlying36
  a46 := Tryd.isAgg36
  z46 := Tryd.sizeOf36
  v46 := Tryd.zeroValue36
  t51 := Tryd.underlying81
  a51 := Tryd.isAgg81
  z51 := Tryd.sizeOf81
  v51 := Tryd.zeroValue81
  t59 := Tryd.underlying57
  a59 := Tryd.isAgg57
  z59 := Tryd.sizeOf57
  v59 := Tryd.zeroValue57
  t146 := Tryd.underlying85
  a146 := Tryd.isAgg85
  z146 := Tryd.sizeOf85
  v146 := Tryd.zeroValue85
  g1 := by kernel_rfl }
def lays43_ren : Go.Shelf.Ren := ⟨fun | 146 => 43 | 221 => 52 | 268 => 59 | 138 => 60 | 143 => 61 | 195 => 70 | 197 => 71 | 218 => 72 | 219 => 58 | 260 => 79 | 217 => 48 | 225 => 67 | 224 => 68 | 267 => 69 | 266 => 56 | 314 => 78 | n => n, fun | 9 => 9 | 31 => 35 | 3 => 3 | 4 => 4 | 0 => 0 | 105 => 77 | 21 => 21 | 5 => 5 | 46 => 36 | 119 => 88 | 139 => 91 | 138 => 90 | 146 => 85 | 51 => 81 | n => n, fun | 1 => 0 | 3 => 2 | 4 => 3 | n => n⟩
theorem lays43 : Go.Proofs.Lays.n146 Tryd.prog lays43_ren := {
  mixed := by kernel_rfl
  f138 := Tryd.func60.trans (congrArg some (by kernel_rfl))
  f143 := Tryd.func61.trans (congrArg some (by kernel_rfl))
  f146 := Tryd.func43.trans (congrArg some (by kernel_rfl))
  f195 := Tryd.func70.trans (congrArg some (by kernel_rfl))
  f197 := Tryd.func71.trans (congrArg some (by kernel_rfl))
  f217 := Tryd.func48.trans (congrArg some (by kernel_rfl))
  f218 := Tryd.func72.trans (congrArg some (by kernel_rfl))
  f219 := Tryd.func58.trans (congrArg some (by kernel_rfl))
  f221 := Tryd.func52.trans (congrArg some (by kernel_rfl))
  f224 := Tryd.func68.trans (congrArg some (by kernel_rfl))
  f225 := Tryd.func67.trans (congrArg some (by kernel_rfl))
  f260 := Tryd.func79.trans (congrArg some (by kernel_rfl))
  f266 := Tryd.func56.trans (congrArg some (by kernel_rfl))
  f267 := Tryd.func69.trans (congrArg some (by kernel_rfl))
  f268 := Tryd.func59.trans (congrArg some (by kernel_rfl))
  f314 := Tryd.func78.trans (congrArg some (by kernel_rfl))
  t0 := Tryd.underlying0
  a0 := Tryd.isAgg0
  z0 := Tryd.sizeOf0
  v0 := Tryd.zeroValue0
  t3 := Tryd.underlying3
  a3 := Tryd.isAgg3
  z3 := Tryd.sizeOf3
  v3 := Tryd.zeroValue3
  t4 := Tryd.underlying4
  a4 := Tryd.isAgg4
  z4 := Tryd.sizeOf4
  v4 := Tryd.zeroValue4
  t5 := Tryd.underlying5
  a5 := Tryd.isAgg5
  z5 := Tryd.sizeOf5
  v5 := Tryd.zeroValue5
  t9 := Tryd.underlying9
  a9 := Tryd.isAgg9
  z9 := Tryd.sizeOf9
  v9 := Tryd.zeroValue9
  t21 := Tryd.underlying21
  a21 := Tryd.isAgg21
  z21 := Tryd.sizeOf21
  v21 := Tryd.zeroValue21
  t31 := Tryd.underlying35
  a31 := Tryd.isAgg35
  z31 := Tryd.sizeOf35
  v31 := Tryd.zeroValue35
  t46 := Tryd.underlying36
  a46 := Tryd.isAgg36
  z46 := Tryd.sizeOf36
  v46 := Tryd.zeroValue36
  t51 := Tryd.underlying81
  a51 := Tryd.isAgg81
  z51 := Tryd.sizeOf81
  v51 := Tryd.zeroValue81
  t105 := Tryd.underlying77
  a105 := Tryd.isAgg77
  z105 := Tryd.sizeOf77
  v105 := Tryd.zeroValue77
  t119 := Tryd.underlying88
  a119 := Tryd.isAgg88
  z119 := Tryd.sizeOf88
  t138 := Tryd.underlying90
  a138 := Tryd.isAgg90
  z138 := Tryd.sizeOf90
  v138 := Tryd.zeroValue90
  t139 := Tryd.underlying91
  a139 := Tryd.isAgg91
  z139 := Tryd.sizeOf91
  v139 := Tryd.zeroValue91
  t146 := Tryd.underlying85
  a146 := Tryd.isAgg85
  z146 := Tryd.sizeOf85
  v146 := Tryd.zeroValue85
  g1 := by kernel_rfl
  g3 := by kernel_rfl
  g4 := by kernel_rfl }
def lays44_ren : Go.Shelf.Ren := ⟨fun | 102 => 44 | 209 => 53 | 207 => 62 | n => n, fun | 9 => 9 | 4 => 4 | 3 => 3 | n => n, fun | n => n⟩
theorem lays44 : Go.Proofs.Lays.n102 Tryd.prog lays44_ren := {
  mixed := by kernel_rfl
  f102 := Tryd.func44.trans (congrArg some (by kernel_rfl))
  f207 := Tryd.func62.trans (congrArg some (by kernel_rfl))
  f209 := Tryd.func53.trans (congrArg some (by kernel_rfl))
  t3 := Tryd.underlying3
  a3 := Tryd.isAgg3
  z3 := Tryd.sizeOf3
  v3 := Tryd.zeroValue3
  t4 := Tryd.underlying4
  a4 := Tryd.isAgg4
  z4 := Tryd.sizeOf4
  v4 := Tryd.zeroValue4
  t9 := Tryd.underlying9
  a9 := Tryd.isAgg9
  z9 := Tryd.sizeOf9
  v9 := Tryd.zeroValue9 }
theorem good44 (l : List Nat) (c : Nat) (ho : oct l) (hc : c < 256) (hl : l.length ≤ 140737488355328) : Pg.Good Tryd.prog 44 [.c (.string (sB l)), .c (.string (sB [c]))] (.c (.string (sB (trm c l)))) := by
  refine ⟨by kernel_rfl, fun A w cargs hT hA hargs => ?_⟩
  obtain ⟨_, _, rfl, rfl, _, _, rfl, rfl, rfl⟩ := hargs
  refine (Any.strings_TrimSuffix lays44 (sB l) (sB [c]) w (by rw [sB_size]; omega)).mono ?_
  rintro e w' ⟨rfl, rfl⟩
  exact ⟨_, ⟨A, fun _ => none, fun _ => none⟩, rfl, by rw [trim_sB l c ho hc]; rfl, Kp.refl _ _ _, ⟨fun g h => .inl h, fun _ _ h => (by cases h), fun _ _ _ h => (by cases h)⟩⟩
theorem good42 (l : List Nat) (c : Nat) (ho : oct l) (hc : c < 256) (hl : l.length ≤ 4294967280) : Pg.Good Tryd.prog 42 [.c (.string (sB l)), .c (.string (sB [c]))]
    (.tup [.c (.string (sB (bef c l))), .c (.string ⟨(Lib.cut (sB l).data.toList (sB [c]).data.toList).2.1.toArray⟩), .c (.bool (Lib.cut (sB l).data.toList (sB [c]).data.toList).2.2)]) := by
  refine ⟨by kernel_rfl, fun A w cargs hT hA hargs => ?_⟩
  obtain ⟨_, _, rfl, rfl, _, _, rfl, rfl, rfl⟩ := hargs
  obtain ⟨m, hm⟩ := hT.2
  refine (Any.strings_Cut lays42 (sB l) (sB [c]) m w (by rw [sB_size]; omega) hm).mono ?_
  rintro e w' ⟨rfl, k, rfl⟩
  exact ⟨_, ⟨A, fun _ => none, fun _ => none⟩, rfl, ⟨_, rfl, _, _, rfl, by rw [cut_sB l c ho hc]; rfl, _, _, rfl, rfl, _, _, rfl, rfl, rfl⟩, ⟨rfl, rfl, rfl, Nat.le_refl _, fun _ _ _ => rfl⟩, ⟨fun g h => .inl h, fun _ _ h => (by cases h), fun _ _ _ h => (by cases h)⟩⟩
theorem repE_sv {L : Lay} {w : World} (l : List (List Nat)) : RepE L w 1 (sv l) (l.map fun x => Value.string (sB x)) := by
  induction l with
  | nil => rfl
  | cons a l ih => exact ⟨.string (sB a), _, by simp [Value.cells], rfl, ⟨rfl, rfl⟩, rfl, ih⟩
theorem good43 (l : List Nat) (c : Nat) (ho : oct l) (hc : c < 256) (hl : l.length ≤ 4294967280) : Pg.Good Tryd.prog 43 [.c (.string (sB l)), .c (.string (sB [c]))] (.sl (.own 0 9) 1 (sv (spl c l))) := by
  refine ⟨by kernel_rfl, fun A w cargs hT hA hargs => ?_⟩
  obtain ⟨_, _, rfl, rfl, _, _, rfl, rfl, rfl⟩ := hargs
  obtain ⟨m, hm⟩ := hT.2
  have hn := Lib.splitB_all (sB [c]) (by rw [sB_size]; simp) 0 _ (sB l) rfl
  have hs := split_sB l c ho hc
  have hk : Lib.countB (sB l) (sB [c]) + 1 = (spl c l).length := by rw [← hn, hs, List.length_map]
  have hlen := spl_len c l
  refine (Any.strings_Split lays43 (by kernel_rfl) (sB l) (sB [c]) m w (by rw [sB_size]; omega) hm (by rw [sB_size]; simp)).mono ?_
  rintro e w' ⟨rfl, rfl⟩
  refine ⟨_, ⟨A, fun j => if j = 0 then some w.heap.size else none, fun _ => none⟩, rfl, ⟨some ⟨w.heap.size, 0, none⟩, (spl c l).length, (spl c l).map fun x => Value.string (sB x), by rw [hk, sv_len], repE_sv _, ?_⟩, Kp.alloc (Kp.refl _ _ _) (Nat.le_refl _) _, ⟨fun g h => .inl h, fun j g h => ?_, fun i j g h h' => ?_⟩⟩
  · refine .inr ⟨w.heap.size, _, rfl, rfl, heap_alloc_new w _, by rw [sv_len]; exact Nat.le_refl _, by unfold maxLen; omega, ?_, ?_⟩
    · rw [hs]; simp
    · rw [hs, sv_len, Nat.mul_one]
      simp only [List.map_map, Function.comp_def]
      exact List.take_of_length_le (by simp)
  · simp only at h
    split at h
    · simp only [Option.some.injEq] at h
      subst h
      exact ⟨Nat.le_refl _, by simp, fun h => by have := hA _ h; omega⟩
    · cases h
  · simp only at h h'
    split at h
    · split at h'
      · omega
      · cases h'
    · cases h
end Go.Proofs.YtkgebocldjhflaaDoor
end
