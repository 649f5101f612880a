/- Layer 11, plainly: the rings that a thread touches, sorted and each once. No condition. -/
import Derived.Test.YthoejimgdhfmiaaChkR
import Derived.Lib.SlicesCompact
namespace Go.Proofs.Ythoejimgdhfmiaa.H
open Go.RowKit Go.Proofs.Ythoejimgdhfmiaa.PCheckTells Go.Proofs.YthoejimgdhfmiaaW.PrintWords Go.Proofs.YthoejimgdhfmiaaW.PrintLast Go.Proofs.YthoejimgdhfmiaaW.PrintMore
set_option linter.unusedVariables false
set_option linter.unusedSimpArgs false

/-- an instruction that is reached, and names a ring -/
def hit (l : List S48) (out : List Bool) (j : Nat) : Bool := out.getD j false && (decide (18 ≤ (l.getD j z48).f0) && decide ((l.getD j z48).f0 ≤ 20))
/-- what comes of the program's loop -/
def rawC (l : List S48) (out : List Bool) (k : Nat) : List Int := ((List.range k).filter (hit l out)).map fun j => (l.getD j z48).f3
theorem rawC_succ (l : List S48) (out : List Bool) (k : Nat) : rawC l out (k + 1) = rawC l out k ++ (if hit l out k = true then [(l.getD k z48).f3] else []) := by
  unfold rawC
  rw [List.range_succ, List.filter_append, List.map_append]
  congr 1
  by_cases h : hit l out k = true <;> simp [h]
theorem rawC_len (l : List S48) (out : List Bool) (k : Nat) : (rawC l out k).length ≤ k := by
  unfold rawC
  rw [List.length_map]
  exact Nat.le_trans (List.length_filter_le _ _) (by simp)
theorem mem_rawC {l : List S48} {out : List Bool} {k : Nat} {x : Int} : x ∈ rawC l out k ↔ ∃ j, j < k ∧ hit l out j = true ∧ (l.getD j z48).f3 = x := by
  unfold rawC
  rw [List.mem_map]
  refine ⟨fun ⟨j, h1, h2⟩ => ?_, fun ⟨j, h1, h2, h3⟩ => ⟨j, List.mem_filter.2 ⟨List.mem_range.2 h1, h2⟩, h3⟩⟩
  obtain ⟨h1, h3⟩ := List.mem_filter.1 h1
  exact ⟨j, List.mem_range.1 h1, h3, h2⟩
/-- ring r is touched -/
def has (l : List S48) (out : List Bool) (r : Nat) : Bool := (List.range l.length).any fun j => hit l out j && decide ((l.getD j z48).f3 = (r : Int))
/-- the document's -/
def ownC (l : List S48) (out : List Bool) (k : Nat) : List Int := ((List.range k).filter (has l out)).map fun (r : Nat) => (r : Int)
theorem ownC_succ (l : List S48) (out : List Bool) (k : Nat) : ownC l out (k + 1) = ownC l out k ++ (if has l out k = true then [(k : Int)] else []) := by
  unfold ownC
  rw [List.range_succ, List.filter_append, List.map_append]
  congr 1
  by_cases h : has l out k = true <;> simp [h]
theorem ownC_len (l : List S48) (out : List Bool) (k : Nat) : (ownC l out k).length ≤ k := by
  unfold ownC
  rw [List.length_map]
  exact Nat.le_trans (List.length_filter_le _ _) (by simp)
theorem has_iff {l : List S48} {out : List Bool} {r : Nat} : has l out r = true ↔ ∃ j, j < l.length ∧ hit l out j = true ∧ (l.getD j z48).f3 = (r : Int) := by
  unfold has
  rw [List.any_eq_true]
  refine ⟨fun ⟨j, h1, h2⟩ => ?_, fun ⟨j, h1, h2, h3⟩ => ⟨j, List.mem_range.2 h1, by rw [h2, decide_eq_true h3]; rfl⟩⟩
  rw [Bool.and_eq_true, decide_eq_true_eq] at h2
  exact ⟨j, List.mem_range.1 h1, h2.1, h2.2⟩
theorem mem_ownC {l : List S48} {out : List Bool} {k : Nat} {x : Int} : x ∈ ownC l out k ↔ ∃ r, r < k ∧ has l out r = true ∧ (r : Int) = x := by
  unfold ownC
  rw [List.mem_map]
  refine ⟨fun ⟨j, h1, h2⟩ => ?_, fun ⟨j, h1, h2, h3⟩ => ⟨j, List.mem_filter.2 ⟨List.mem_range.2 h1, h2⟩, h3⟩⟩
  obtain ⟨h1, h3⟩ := List.mem_filter.1 h1
  exact ⟨j, List.mem_range.1 h1, h3, h2⟩
theorem ownC_lt (l : List S48) (out : List Bool) : ∀ k, (ownC l out k).Pairwise (· < ·)
  | 0 => List.Pairwise.nil
  | k + 1 => by
    rw [ownC_succ]
    by_cases h : has l out k = true
    · rw [if_pos h]
      refine List.pairwise_append.2 ⟨ownC_lt l out k, List.pairwise_singleton _ _, fun x hx y hy => ?_⟩
      obtain ⟨r, h1, -, h3⟩ := mem_ownC.1 hx
      rw [List.mem_singleton.1 hy]; omega
    · rw [if_neg h, List.append_nil]; exact ownC_lt l out k
/-- Two lists that rise and hold the same are one. -/
theorem rise_ext : ∀ (a b : List Int), a.Pairwise (· < ·) → b.Pairwise (· < ·) → (∀ x, x ∈ a ↔ x ∈ b) → a = b
  | [], [], _, _, _ => rfl
  | [], y :: b, _, _, h => absurd ((h y).2 (List.mem_cons_self)) (by simp)
  | x :: a, [], _, _, h => absurd ((h x).1 (List.mem_cons_self)) (by simp)
  | x :: a, y :: b, ha, hb, h => by
    obtain ⟨ha1, ha2⟩ := List.pairwise_cons.1 ha
    obtain ⟨hb1, hb2⟩ := List.pairwise_cons.1 hb
    have e : x = y := by
      rcases List.mem_cons.1 ((h x).1 List.mem_cons_self) with e | h1
      · exact e
      · rcases List.mem_cons.1 ((h y).2 List.mem_cons_self) with e | h2
        · exact e.symm
        · have := hb1 x h1; have := ha1 y h2; omega
    subst e
    rw [rise_ext a b ha2 hb2 fun z => ⟨fun hz => ?_, fun hz => ?_⟩]
    · rcases List.mem_cons.1 ((h z).1 (List.mem_cons_of_mem _ hz)) with e | h1
      · subst e; have := ha1 z hz; omega
      · exact h1
    · rcases List.mem_cons.1 ((h z).2 (List.mem_cons_of_mem _ hz)) with e | h1
      · subst e; have := hb1 z hz; omega
      · exact h1
theorem compact_run (d : Array Int) (hs : ∀ i j, i ≤ j → j < d.size → d[i]! ≤ d[j]!) : ∀ m, m ≤ d.size → (Lib.compactUpTo d m).Pairwise (· < ·) ∧ (∀ x, x ∈ Lib.compactUpTo d m ↔ ∃ j, j < m ∧ d[j]! = x)
  | 0, _ => ⟨by unfold Lib.compactUpTo; exact List.Pairwise.nil, fun x => ⟨fun h => (by unfold Lib.compactUpTo at h; cases h), fun ⟨j, h, _⟩ => (by omega)⟩⟩
  | m + 1, hm => by
    obtain ⟨h1, h2⟩ := compact_run d hs m (by omega)
    rw [Lib.compactUpTo_succ]
    by_cases hk : Lib.keeps d m = true
    · rw [if_pos hk]
      have hk2 : m = 0 ∨ d[m]! ≠ d[m - 1]! := by unfold Lib.keeps at hk; exact of_decide_eq_true hk
      refine ⟨List.pairwise_append.2 ⟨h1, List.pairwise_singleton _ _, fun x hx y hy => ?_⟩, fun x => ?_⟩
      · rw [List.mem_singleton.1 hy]
        obtain ⟨j, hj, e⟩ := (h2 x).1 hx
        have q1 := hs j (m - 1) (by omega) (by omega)
        have q2 := hs (m - 1) m (by omega) (by omega)
        have q3 := hk2.resolve_left (by omega)
        omega
      · rw [List.mem_append, h2, List.mem_singleton]
        refine ⟨fun h => ?_, fun ⟨j, hj, e⟩ => ?_⟩
        · rcases h with ⟨j, hj, e⟩ | e
          · exact ⟨j, by omega, e⟩
          · exact ⟨m, by omega, e.symm⟩
        · by_cases hjm : j = m
          · subst hjm; exact Or.inr e.symm
          · exact Or.inl ⟨j, by omega, e⟩
    · rw [if_neg hk, List.append_nil]
      have hk2 : ¬ (m = 0 ∨ d[m]! ≠ d[m - 1]!) := fun h => hk (by unfold Lib.keeps; exact decide_eq_true h)
      have hm0 : m ≠ 0 := fun h => hk2 (Or.inl h)
      have he : d[m]! = d[m - 1]! := Classical.byContradiction fun h => hk2 (Or.inr h)
      refine ⟨h1, fun x => ?_⟩
      rw [h2]
      refine ⟨fun ⟨j, hj, e⟩ => ⟨j, by omega, e⟩, fun ⟨j, hj, e⟩ => ?_⟩
      by_cases hjm : j = m
      · subst hjm; exact ⟨j - 1, by omega, by rw [← he]; exact e⟩
      · exact ⟨j, by omega, e⟩
theorem get_toArray (s : List Int) (i : Nat) (h : i < s.length) : s.toArray[i]! = s[i] := by
  rw [getElem!_pos s.toArray i (by simpa using h)]
  simp
/-- Sorted, and each once. -/
theorem sortc (zs : List Int) : (Lib.compact (zs.mergeSort fun x y => decide (x ≤ y))).Pairwise (· < ·) ∧ ∀ x, x ∈ Lib.compact (zs.mergeSort fun x y => decide (x ≤ y)) ↔ x ∈ zs := by
  have hp : (zs.mergeSort fun x y => decide (x ≤ y)).Pairwise fun a b => (fun x y : Int => decide (x ≤ y)) a b = true :=
    List.pairwise_mergeSort (fun a b c h1 h2 => by simp at h1 h2 ⊢; omega) (fun a b => by simp; omega) zs
  have hm : ∀ x, x ∈ zs.mergeSort (fun x y => decide (x ≤ y)) ↔ x ∈ zs := fun x => List.mem_mergeSort
  generalize zs.mergeSort (fun x y => decide (x ≤ y)) = s at hp hm
  have hs : ∀ i j, i ≤ j → j < s.toArray.size → s.toArray[i]! ≤ s.toArray[j]! := fun i j hij hj => by
    have hj' : j < s.length := by simpa using hj
    rw [get_toArray s i (by omega), get_toArray s j hj']
    by_cases e : i = j
    · subst e; omega
    · have := List.pairwise_iff_getElem.1 hp i j (by omega) hj' (by omega)
      simpa using this
  obtain ⟨h1, h2⟩ := compact_run s.toArray hs s.length (by simp)
  refine ⟨h1, fun x => ?_⟩
  unfold Lib.compact
  rw [h2, ← hm]
  refine ⟨fun ⟨j, hj, e⟩ => ?_, fun h => ?_⟩
  · rw [get_toArray s j hj] at e; rw [← e]; exact List.getElem_mem _
  · obtain ⟨j, hj, e⟩ := List.mem_iff_getElem.1 h
    exact ⟨j, hj, by rw [get_toArray s j hj]; exact e⟩
theorem touch_eq {l : List S48} {out : List Bool} (h : ∀ j, j < l.length → 18 ≤ (l.getD j z48).f0 → (l.getD j z48).f0 ≤ 20 → 0 ≤ (l.getD j z48).f3 ∧ (l.getD j z48).f3 < 8) :
    Lib.compact ((rawC l out l.length).mergeSort fun x y => decide (x ≤ y)) = ownC l out 8 := by
  obtain ⟨h1, h2⟩ := sortc (rawC l out l.length)
  refine rise_ext _ _ h1 (ownC_lt l out 8) fun x => ?_
  rw [h2, mem_rawC, mem_ownC]
  refine ⟨fun ⟨j, hj, hh, e⟩ => ?_, fun ⟨r, hr, hh, e⟩ => ?_⟩
  · have hh2 := hh
    unfold hit at hh2
    rw [Bool.and_eq_true, Bool.and_eq_true, decide_eq_true_eq, decide_eq_true_eq] at hh2
    obtain ⟨q1, q2⟩ := h j hj hh2.2.1 hh2.2.2
    exact ⟨(l.getD j z48).f3.toNat, by omega, has_iff.2 ⟨j, hj, hh, by omega⟩, by omega⟩
  · obtain ⟨j, hj, hh, e2⟩ := has_iff.1 hh
    exact ⟨j, hj, hh, by omega⟩
/-- A thread that is right names rings that there are. -/
theorem okC {R : List S55} {l : List S48} (h : okL R l) {j : Nat} (hj : j < l.length) (h1 : 18 ≤ (l.getD j z48).f0) (h2 : (l.getD j z48).f0 ≤ 20) : 0 ≤ (l.getD j z48).f3 ∧ (l.getD j z48).f3 < R.length := by
  have hx := h.2 (j : Int) (by omega) (by omega)
  have e : rd_T48 l (j : Int) = l.getD j z48 := by unfold rd_T48; rw [Int.toNat_natCast]
  rw [e] at hx
  unfold insE at hx
  by_cases hr : rightB (l.getD j z48) = true
  · rw [if_pos hr] at hx
    refine ⟨right_c hr, ?_⟩
    rw [if_neg (by omega)] at hx
    by_cases h3 : (18 ≤ (l.getD j z48).f0 ∧ (l.getD j z48).f0 ≤ 20) ∧ (l.getD j z48).f3 ≥ (R.length : Int)
    · rw [if_pos h3] at hx; cases hx
    · omega
  · rw [if_neg hr] at hx; cases hx
/-- The reached places alone tell what is touched. -/
theorem bools_ext {a b : List Bool} (hl : a.length = b.length) (h : ∀ i : Nat, a.getD i false = true ↔ b.getD i false = true) : a = b := by
  refine List.ext_getElem hl fun i h1 h2 => ?_
  have := h i
  rw [List.getD_eq_getElem?_getD, List.getElem?_eq_getElem h1, List.getD_eq_getElem?_getD, List.getElem?_eq_getElem h2] at this
  simpa using Bool.eq_iff_iff.2 this
end Go.Proofs.Ythoejimgdhfmiaa.H
