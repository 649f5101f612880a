/- Layer 11, plainly: what a right program's instructions are; which places are reached. No condition. -/
import Derived.Test.YthoejimgdhfmiaaChkB
import Derived.Test.YthoejimgdhfmiaaPCheckTellsx4
namespace Go.Proofs.Ythoejimgdhfmiaa.H
open Go.RowKit Go.Proofs.Ythoejimgdhfmiaa.PCheckTells Go.Proofs.YthoejimgdhfmiaaW.PrintWords Go.Proofs.YthoejimgdhfmiaaW.PrintLast Go.Proofs.YthoejimgdhfmiaaW.PrintMore
set_option linter.unusedVariables false
set_option linter.unusedSimpArgs false

/-- a thread of which nothing is wrong -/
def okL (R : List S55) (l : List S48) : Prop := l.length ≤ 256 ∧ ∀ i : Int, 0 ≤ i → i < l.length → insE R (rd_T48 l i) l.length = 0
theorem okAll (R : List S55) (T : List (List S48)) (hT : T.length ≤ 100) : ∀ k,
    (∀ (t a b : Int), 0 ≤ t → check_Check.l1 k T T.length t R T = some (a, b, 0) → ∀ j : Int, t ≤ j → j < T.length → okL R (rd_L4 T j)) ∧
    (∀ (t i a b : Int) (l : List S48), 0 ≤ t → t < T.length → l.length ≤ 256 → check_Check.l2 k t l T T.length t l l.length i R T = some (a, b, 0) → 0 ≤ i →
      (∀ j : Int, i ≤ j → j < l.length → insE R (rd_T48 l j) l.length = 0) ∧ ∀ j : Int, t + 1 ≤ j → j < T.length → okL R (rd_L4 T j))
  | 0 => ⟨fun t a b _ h => by simp [check_Check.l1] at h, fun t i a b l _ _ _ h => by simp [check_Check.l2] at h⟩
  | k + 1 => by
    obtain ⟨ih1, ih2⟩ := okAll R T hT k
    refine ⟨fun t a b h0 h j hj hj2 => ?_, fun t i a b l h0 h1 hl h hi => ?_⟩
    · have e : check_Check.l1 (k + 1) T T.length t R T = if t < (T.length : Int) then (if 0 ≤ t then (if t < (T.length : Int) then (if ((rd_L4 T t).length : Int) > 256 then (some (t, 256, 4)) else (check_Check.l2 k t (rd_L4 T t) T T.length t (rd_L4 T t) ((rd_L4 T t).length : Int) 0 R T)) else (none)) else (none)) else (some (0, 0, 0)) := rfl
      rw [e] at h
      by_cases h2 : t < (T.length : Int)
      · rw [if_pos h2, if_pos h0, if_pos h2] at h
        by_cases h3 : ((rd_L4 T t).length : Int) > 256
        · rw [if_pos h3] at h; cases h
        · rw [if_neg h3] at h
          obtain ⟨q1, q2⟩ := ih2 t 0 a b _ h0 h2 (by omega) h (Int.le_refl 0)
          by_cases hjt : j = t
          · subst hjt; exact ⟨by omega, q1⟩
          · exact q2 j (by omega) hj2
      · omega
    · have e : check_Check.l2 (k + 1) t l T T.length t l l.length i R T = if i < (l.length : Int) then (if 0 ≤ i then (if i < (l.length : Int) then ((check_instr.f k R T ((rd_T48 l i).f0) ((rd_T48 l i).f1) ((rd_T48 l i).f2) ((rd_T48 l i).f3) ((rd_T48 l i).f4) ((rd_T48 l i).f5) (l.length : Int)).bind fun t126 => (if t126 = 0 then (check_Check.l2 k t l T T.length t l l.length (wrap64 (i + 1)) R T) else (some (t, i, t126)))) else (none)) else (none)) else (check_Check.l1 k T T.length (wrap64 (t + 1)) R T) := rfl
      rw [e] at h
      by_cases h2 : i < (l.length : Int)
      · rw [if_pos h2, if_pos hi, if_pos h2] at h
        cases hx : check_instr.f k R T ((rd_T48 l i).f0) ((rd_T48 l i).f1) ((rd_T48 l i).f2) ((rd_T48 l i).f3) ((rd_T48 l i).f4) ((rd_T48 l i).f5) (l.length : Int) with
        | none => rw [hx] at h; cases h
        | some e3 =>
          have h4 := at_rounds (g := fun k => check_instr.f k R T ((rd_T48 l i).f0) ((rd_T48 l i).f1) ((rd_T48 l i).f2) ((rd_T48 l i).f3) ((rd_T48 l i).f4) ((rd_T48 l i).f5) (l.length : Int)) (fun k => check_instr.mono _ _ _ _ _ _ _ _ _ k) (show k ≤ k + 6 by omega) hx
          have h6 : e3 = insE R (rd_T48 l i) (l.length : Int) := Option.some.inj (h4.symm.trans (cInstr_eq k R T (rd_T48 l i) (l.length : Int)))
          rw [hx] at h
          simp only [Option.bind_some] at h
          by_cases h7 : e3 = 0
          · rw [if_pos h7, w64 hi (by omega)] at h
            obtain ⟨q1, q2⟩ := ih2 t (i + 1) a b l h0 h1 hl h (by omega)
            refine ⟨fun j hj hj2 => ?_, q2⟩
            by_cases hji : j = i
            · subst hji; rw [← h6]; exact h7
            · exact q1 j (by omega) hj2
          · rw [if_neg h7] at h
            exfalso
            injection h with h
            injection h with _ h
            injection h with _ h
            exact h7 h
      · rw [if_neg h2, w64 h0 (by omega)] at h
        exact ⟨fun j hj hj2 => by omega, ih1 (t + 1) a b (by omega) h⟩
theorem okAll0 (R : List S55) (T : List (List S48)) (hT : T.length ≤ 100) (hR : R.length ≤ 100) : ∀ k (i a b : Int), 0 ≤ i → check_Check.l0 k R R.length i R T = some (a, b, 0) → ∀ j : Int, 0 ≤ j → j < T.length → okL R (rd_L4 T j)
  | 0, i, a, b, _, h => by simp [check_Check.l0] at h
  | k + 1, i, a, b, h0, h => by
    have e : check_Check.l0 (k + 1) R R.length i R T = if i < (R.length : Int) then (if 0 ≤ i then (if i < (R.length : Int) then ((check_ring.f ((rd_T55 R i).f0) ((rd_T55 R i).f1) ((rd_T55 R i).f2)).bind fun t122 => (if t122 = true then (check_Check.l0 k R R.length (wrap64 (i + 1)) R T) else (some ((-1), i, 7)))) else (none)) else (none)) else (check_Check.l1 k T T.length 0 R T) := rfl
    rw [e] at h
    by_cases h1 : i < (R.length : Int)
    · rw [if_pos h1, if_pos h0, if_pos h1] at h
      obtain ⟨c, hc⟩ := ring_some ((rd_T55 R i).f0) ((rd_T55 R i).f1) ((rd_T55 R i).f2)
      rw [hc] at h
      simp only [Option.bind_some] at h
      cases c with
      | true => rw [if_pos rfl, w64 h0 (by omega)] at h; exact okAll0 R T hT hR k _ a b (by omega) h
      | false => rw [if_neg (by decide)] at h; cases h
    · rw [if_neg h1] at h
      exact (okAll R T hT k).1 0 a b (Int.le_refl 0) h
/-- Of a right program each thread is right. -/
theorem okF {R : List S55} {T : List (List S48)} {k : Nat} {a b0 : Int} (h : check_Check.f k R T = some (a, b0, 0)) : (1 ≤ T.length ∧ T.length ≤ 8 ∧ R.length ≤ 8) ∧ ∀ j : Int, 0 ≤ j → j < T.length → okL R (rd_L4 T j) := by
  have j : ∀ b, (b = false → R.length ≤ 8) → T.length ≤ 8 → check_Check.j0 k b R T = some (a, b0, 0) → R.length ≤ 8 ∧ ∀ j : Int, 0 ≤ j → j < T.length → okL R (rd_L4 T j) := fun b hR hT8 hb => by
    cases k with
    | zero => simp [check_Check.j0] at hb
    | succ k =>
      have e : check_Check.j0 (k + 1) b R T = if b = true then (some (0, 0, 1)) else (check_Check.l0 k R (R.length : Int) 0 R T) := rfl
      rw [e] at hb
      cases b with
      | true => cases hb
      | false =>
        rw [if_neg (by decide)] at hb
        exact ⟨hR rfl, okAll0 R T (by omega) (by have := hR rfl; omega) k 0 a b0 (Int.le_refl 0) hb⟩
  unfold check_Check.f at h
  by_cases h1 : (T.length : Int) = 0
  · exfalso
    rw [if_pos h1] at h
    have := j _ (fun h => by cases h) (by omega) h
    cases k with
    | zero => simp [check_Check.j0] at h
    | succ k => rw [show check_Check.j0 (k + 1) true R T = some (0, 0, 1) from rfl] at h; cases h
  · rw [if_neg h1] at h
    by_cases h2 : (T.length : Int) > 8
    · exfalso
      rw [if_pos h2] at h
      cases k with
      | zero => simp [check_Check.j0] at h
      | succ k => rw [show check_Check.j0 (k + 1) true R T = some (0, 0, 1) from rfl] at h; cases h
    · rw [if_neg h2] at h
      obtain ⟨q1, q2⟩ := j _ (fun h => by have := of_decide_eq_false h; omega) (by omega) h
      exact ⟨⟨by omega, by omega, q1⟩, q2⟩
/-- the places to which ways go -/
def nx (l : List S48) (i : Nat) : List Nat :=
  if i = l.length ∨ (l.getD i z48).f0 = 25 then [] else if (l.getD i z48).f0 = 15 then [(l.getD i z48).f5.toNat] else if 15 ≤ (l.getD i z48).f0 ∧ (l.getD i z48).f0 ≤ 17 then [(l.getD i z48).f5.toNat, i + 1] else [i + 1]
/-- Jumps of a thread go to its places. -/
def okJ (l : List S48) : Prop := l.length ≤ 256 ∧ ∀ i, i < l.length → 15 ≤ (l.getD i z48).f0 → (l.getD i z48).f0 ≤ 17 → 0 ≤ (l.getD i z48).f5 ∧ (l.getD i z48).f5 ≤ l.length
theorem okJ_of {R : List S55} {l : List S48} (h : okL R l) (hw : ∀ x ∈ l, wf48 x) : okJ l := by
  refine ⟨h.1, fun i hi h1 h2 => ?_⟩
  have hx := h.2 (i : Int) (by omega) (by omega)
  have hm : rd_T48 l (i : Int) ∈ l := rd_mem48 (by omega) (by omega)
  have hw := (hw _ hm).2.2.2.2.1
  have e : rd_T48 l (i : Int) = l.getD i z48 := by unfold rd_T48; rw [Int.toNat_natCast]
  rw [e] at hx hw
  refine ⟨hw, ?_⟩
  unfold insE at hx
  by_cases hr : rightB (l.getD i z48) = true
  · rw [if_pos hr] at hx
    by_cases h3 : (15 ≤ (l.getD i z48).f0 ∧ (l.getD i z48).f0 ≤ 17) ∧ (l.getD i z48).f5 > IntKind.u64.wrap (l.length : Int)
    · rw [if_pos h3] at hx; cases hx
    · have : IntKind.u64.wrap (l.length : Int) = l.length := by rw [IntKind.wrap_u64]; have := h.1; omega
      rw [this] at h3
      omega
  · rw [if_neg hr] at hx; cases hx
theorem nx_le {l : List S48} (hl : okJ l) {i j : Nat} (hi : i ≤ l.length) (hj : j ∈ nx l i) : j ≤ l.length := by
  unfold nx at hj
  by_cases h1 : i = l.length ∨ (l.getD i z48).f0 = 25
  · rw [if_pos h1] at hj; cases hj
  · rw [if_neg h1] at hj
    have h1' : i ≠ l.length := fun h => h1 (Or.inl h)
    by_cases h2 : (l.getD i z48).f0 = 15
    · rw [if_pos h2] at hj
      have := hl.2 i (by omega) (by omega) (by omega)
      have := List.mem_singleton.1 hj
      omega
    · rw [if_neg h2] at hj
      by_cases h3 : 15 ≤ (l.getD i z48).f0 ∧ (l.getD i z48).f0 ≤ 17
      · rw [if_pos h3] at hj
        have := hl.2 i (by omega) h3.1 h3.2
        rcases List.mem_cons.1 hj with h | h
        · omega
        · have := List.mem_singleton.1 h; omega
      · rw [if_neg h3] at hj
        have := List.mem_singleton.1 hj
        omega
theorem nx_len (l : List S48) (i : Nat) : (nx l i).length ≤ 2 := by
  unfold nx
  split
  · simp
  · split
    · simp
    · split <;> simp
def ints (l : List Nat) : List Int := l.map fun (x : Nat) => (x : Int)
theorem cNext_eq {l : List S48} (hl : okJ l) (k : Nat) {i : Nat} (hi : i ≤ l.length) : check_next.f (k + 1) l (i : Int) = some (ints (nx l i)) := by
  have e : rd_T48 l (i : Int) = l.getD i z48 := by unfold rd_T48; rw [Int.toNat_natCast]
  have hlen := hl.1
  unfold check_next.f nx
  rw [e]
  by_cases h1 : i = l.length
  · rw [if_pos (by omega), if_pos (Or.inl h1)]
    simp only [check_next.j0]
    rfl
  · rw [if_neg (by omega), if_pos (by omega), if_pos (by omega)]
    simp only [check_next.j0]
    rw [e]
    by_cases h2 : (l.getD i z48).f0 = 25
    · rw [if_pos (by rw [h2]; rfl), if_pos (Or.inr h2)]; rfl
    · rw [if_neg (by simpa using h2), if_pos (by omega), if_pos (by omega), if_neg (show ¬ (i = l.length ∨ (l.getD i z48).f0 = 25) from fun h => h.elim h1 h2)]
      by_cases h3 : (l.getD i z48).f0 = 15
      · have := hl.2 i (by omega) (by omega) (by omega)
        rw [if_pos h3, if_pos h3, show wrap64 (l.getD i z48).f5 = (l.getD i z48).f5 from by unfold wrap64; omega]
        unfold ints
        simp only [List.map_cons, List.map_nil]
        rw [Int.toNat_of_nonneg this.1]
      · rw [if_neg h3, if_neg h3, jumps_eq]
        simp only [Option.bind_some]
        rw [w64 (by omega) (by omega)]
        by_cases h4 : 15 ≤ (l.getD i z48).f0 ∧ (l.getD i z48).f0 ≤ 17
        · have := hl.2 i (by omega) h4.1 h4.2
          rw [if_pos h4, decide_eq_true (show (l.getD i z48).f0 ≥ 15 from h4.1), decide_eq_true h4.2, if_pos (show (true && true) = true from rfl), show wrap64 (l.getD i z48).f5 = (l.getD i z48).f5 from by unfold wrap64; omega]
          unfold ints
          simp only [List.map_cons, List.map_nil]
          rw [Int.toNat_of_nonneg this.1]
          rfl
        · rw [if_neg h4, if_neg (show ¬ (decide ((l.getD i z48).f0 ≥ 15) && decide ((l.getD i z48).f0 ≤ 17)) = true from fun h => h4 (by rw [Bool.and_eq_true, decide_eq_true_eq, decide_eq_true_eq] at h; exact h))]
          rfl
/-- a place is reached -/
inductive Rch (l : List S48) : Nat → Prop
  | zero : Rch l 0
  | step {i j : Nat} : Rch l i → j ∈ nx l i → Rch l j
theorem Rch.le {l : List S48} (hl : okJ l) {i : Nat} (h : Rch l i) : i ≤ l.length := by
  induction h with
  | zero => omega
  | step _ hj ih => exact nx_le hl ih hj
/-- what the walk keeps -/
structure DInv (l : List S48) (inn : List Bool) (todo : List Nat) : Prop where
  len : inn.length = l.length + 1
  sound : ∀ i, inn.getD i false = true → Rch l i
  soundT : ∀ i ∈ todo, Rch l i
  zero : inn.getD 0 false = true ∨ 0 ∈ todo
  closed : ∀ i, inn.getD i false = true → ∀ j ∈ nx l i, inn.getD j false = true ∨ j ∈ todo
def unseen (inn : List Bool) : Nat := inn.countP (fun b => !b)
theorem unseen_set {inn : List Bool} {i : Nat} (hi : i < inn.length) (h : inn.getD i false = false) : unseen (inn.set i true) + 1 = unseen inn := by
  unfold unseen
  rw [List.countP_set hi]
  have e : inn[i] = false := by rw [List.getD_eq_getElem?_getD, List.getElem?_eq_getElem hi] at h; exact h
  have : 0 < inn.countP (fun b => !b) := List.countP_pos_iff.2 ⟨inn[i], List.getElem_mem hi, by rw [e]; rfl⟩
  rw [e]
  simp
  omega
theorem getD_set {inn : List Bool} {i j : Nat} (hi : i < inn.length) : (inn.set i true).getD j false = if j = i then true else inn.getD j false := by
  rw [List.getD_eq_getElem?_getD, List.getElem?_set, List.getD_eq_getElem?_getD]
  by_cases h : j = i
  · subst h; simp [hi]
  · rw [if_neg h, if_neg (fun e => h e.symm)]
theorem DInv.pop {l : List S48} {inn : List Bool} {todo : List Nat} {a : Nat} (h : DInv l inn (todo ++ [a])) (ha : inn.getD a false = true) : DInv l inn todo := by
  have hm : ∀ j, j ∈ todo ++ [a] → inn.getD j false = true ∨ j ∈ todo := fun j hj => by
    rcases List.mem_append.1 hj with q | q
    · exact Or.inr q
    · rw [List.mem_singleton.1 q]; exact Or.inl ha
  exact ⟨h.len, h.sound, fun i hi => h.soundT i (List.mem_append.2 (Or.inl hi)), h.zero.elim Or.inl (hm 0), fun i hi j hj => (h.closed i hi j hj).elim Or.inl (hm j)⟩
theorem DInv.mark {l : List S48} (hl : okJ l) {inn : List Bool} {todo : List Nat} {a : Nat} (h : DInv l inn (todo ++ [a])) (hal : a < inn.length) : DInv l (inn.set a true) (todo ++ nx l a) := by
  have hra : Rch l a := h.soundT a (List.mem_append.2 (Or.inr (List.mem_singleton.2 rfl)))
  have hm : ∀ j, inn.getD j false = true ∨ j ∈ todo ++ [a] → (inn.set a true).getD j false = true ∨ j ∈ todo ++ nx l a := fun j hj => by
    rw [getD_set hal]
    by_cases hja : j = a
    · exact Or.inl (if_pos hja)
    · rw [if_neg hja]
      rcases hj with q | q
      · exact Or.inl q
      · rcases List.mem_append.1 q with q | q
        · exact Or.inr (List.mem_append.2 (Or.inl q))
        · exact absurd (List.mem_singleton.1 q) hja
  refine ⟨by rw [List.length_set]; exact h.len, fun i hi => ?_, fun i hi => ?_, hm 0 h.zero, fun i hi j hj => ?_⟩
  · rw [getD_set hal] at hi
    by_cases hia : i = a
    · subst hia; exact hra
    · rw [if_neg hia] at hi; exact h.sound i hi
  · rcases List.mem_append.1 hi with q | q
    · exact h.soundT i (List.mem_append.2 (Or.inl q))
    · exact hra.step q
  · rw [getD_set hal] at hi
    by_cases hia : i = a
    · subst hia; exact Or.inr (List.mem_append.2 (Or.inr hj))
    · rw [if_neg hia] at hi; exact hm j (h.closed i hi j hj)
theorem DInv.done {l : List S48} {inn : List Bool} (h : DInv l inn []) (i : Nat) : inn.getD i false = true ↔ Rch l i := by
  refine ⟨h.sound i, fun hr => ?_⟩
  induction hr with
  | zero => exact h.zero.elim id (fun q => by cases q)
  | step _ hj ih => exact (h.closed _ ih _ hj).elim id (fun q => by cases q)
theorem rl_e (k : Nat) (l : List S48) (inn : List Bool) (t : List Int) : check_reach.l0 (k + 1) l inn t = if (t.length : Int) > 0 then (if 0 ≤ (wrap64 ((t.length : Int) - 1)) then (if (wrap64 ((t.length : Int) - 1)) < (t.length : Int) then (if (wrap64 ((t.length : Int) - 1)) ≤ (t.length : Int) then ((some (t.take ((wrap64 ((t.length : Int) - 1)) : Int).toNat : List Int)).bind fun y155 => (if 0 ≤ (rd t (wrap64 ((t.length : Int) - 1))) then (if (rd t (wrap64 ((t.length : Int) - 1))) < (inn.length : Int) then (if (rdOf false inn (rd t (wrap64 ((t.length : Int) - 1))) = true) then (check_reach.l0 k l inn y155) else ((check_next.f k l (rd t (wrap64 ((t.length : Int) - 1)))).bind fun t160 => (if y155.length + t160.length < 17592186044416 then (check_reach.l0 k l (inn.set ((rd t (wrap64 ((t.length : Int) - 1))) : Int).toNat true) (y155 ++ t160)) else (none)))) else (none)) else (none))) else (none)) else (none)) else (none)) else (some inn) := rfl
theorem reach_run {l : List S48} (hl : okJ l) : ∀ (n : Nat) (inn : List Bool) (todo : List Nat), 3 * unseen inn + todo.length ≤ n → n ≤ 10000 → DInv l inn todo →
    ∃ k out, check_reach.l0 k l inn (ints todo) = some out ∧ DInv l out [] := by
  intro n
  induction n with
  | zero =>
    intro inn todo hn hb h
    have e : todo = [] := List.eq_nil_of_length_eq_zero (by omega)
    subst e
    exact ⟨1, inn, rfl, h⟩
  | succ n ih =>
    intro inn todo hn hb h
    rcases List.eq_nil_or_concat todo with e | ⟨t, a, e⟩
    · subst e; exact ⟨1, inn, rfl, h⟩
    · rw [List.concat_eq_append] at e
      subst e
      have hlen : (ints (t ++ [a])).length = t.length + 1 := by unfold ints; simp
      have hn' : 3 * unseen inn + t.length ≤ n := by rw [List.length_append] at hn; simp at hn; omega
      have hw : wrap64 (((ints (t ++ [a])).length : Int) - 1) = t.length := by rw [hlen]; unfold wrap64; omega
      have hrd : rd (ints (t ++ [a])) (t.length : Int) = (a : Int) := by unfold rd ints; rw [Int.toNat_natCast]; simp
      have htk : (ints (t ++ [a])).take t.length = ints t := by unfold ints; simp
      have hal : a < inn.length := by
        have := (h.soundT a (List.mem_append.2 (Or.inr (List.mem_singleton.2 rfl)))).le hl
        rw [h.len]; omega
      have hrf : rdOf false inn (a : Int) = inn.getD a false := by unfold rdOf; rw [Int.toNat_natCast]
      by_cases ha : inn.getD a false = true
      · obtain ⟨k, out, hk, hd⟩ := ih inn t hn' (by omega) (h.pop ha)
        refine ⟨k + 1, out, ?_, hd⟩
        rw [rl_e, hw, hrd, if_pos (by rw [hlen]; omega), if_pos (by omega), if_pos (by rw [hlen]; omega), if_pos (by rw [hlen]; omega)]
        simp only [Option.bind_some]
        rw [if_pos (by omega), if_pos (by omega), hrf, if_pos ha, Int.toNat_natCast, htk]
        exact hk
      · have ha' : inn.getD a false = false := by simpa using ha
        have hu := unseen_set hal ha'
        have hx := nx_len l a
        obtain ⟨k, out, hk, hd⟩ := ih (inn.set a true) (t ++ nx l a) (by rw [List.length_append]; omega) (by omega) (h.mark hl hal)
        refine ⟨k + 1 + 1, out, ?_, hd⟩
        rw [rl_e, hw, hrd, if_pos (by rw [hlen]; omega), if_pos (by omega), if_pos (by rw [hlen]; omega), if_pos (by rw [hlen]; omega)]
        simp only [Option.bind_some]
        rw [if_pos (by omega), if_pos (by omega), hrf, if_neg ha, cNext_eq hl k (by rw [h.len] at hal; omega), Int.toNat_natCast, htk, Int.toNat_natCast]
        simp only [Option.bind_some]
        have e2 : ints t ++ ints (nx l a) = ints (t ++ nx l a) := by unfold ints; simp
        rw [if_pos (by unfold ints; simp; omega), e2]
        exact at_rounds (g := fun k => check_reach.l0 k l (inn.set a true) (ints (t ++ nx l a))) (fun k => check_reach.mono_l k _ _ _) (show k ≤ k + 1 by omega) hk
/-- The reached places. -/
theorem reachF {l : List S48} (hl : okJ l) : ∃ k out, check_reach.f k l = some out ∧ out.length = l.length + 1 ∧ ∀ i : Nat, out.getD i false = true ↔ Rch l i := by
  have hlen := hl.1
  have h0 : DInv l (List.replicate (l.length + 1) false) [0] := by
    refine ⟨by simp, fun i hi => ?_, fun i hi => by rw [List.mem_singleton.1 hi]; exact Rch.zero, Or.inr (List.mem_singleton.2 rfl), fun i hi => ?_⟩ <;>
    · rw [List.getD_eq_getElem?_getD, List.getElem?_replicate] at hi
      split at hi <;> cases hi
  obtain ⟨k, out, hk, hd⟩ := reach_run hl (3 * unseen (List.replicate (l.length + 1) false) + 1) _ [0] (by simp) (by
    have : unseen (List.replicate (l.length + 1) false) ≤ (List.replicate (l.length + 1) false).length := List.countP_le_length
    rw [List.length_replicate] at this; omega) h0
  refine ⟨k, out, ?_, hd.len, hd.done⟩
  unfold check_reach.f
  have hw : wrap64 ((l.length : Int) + 1) = (l.length + 1 : Nat) := by unfold wrap64; omega
  rw [hw, if_pos (by omega), Int.toNat_natCast, if_pos (by omega)]
  exact hk
/-- a halt, or the end -/
def stops (l : List S48) (j : Nat) : Prop := j = l.length ∨ (l.getD j z48).f0 = 25
theorem ends_run {l : List S48} (hl : l.length ≤ 256) {inn : List Bool} (hn : inn.length = l.length + 1) : ∀ (d i : Nat), i ≤ inn.length → inn.length - i = d →
    ∃ k b, check_Ends.l0 k l inn (inn.length : Int) (i : Int) = some (b, 0) ∧ (b = true ↔ ∃ j, i ≤ j ∧ j ≤ l.length ∧ inn.getD j false = true ∧ stops l j)
  | 0, i, h0, hd => ⟨1, false, by rw [show check_Ends.l0 1 l inn (inn.length : Int) (i : Int) = if (i : Int) < (inn.length : Int) then _ else some (false, 0) from rfl, if_neg (by omega)], ⟨fun h => (by cases h), fun ⟨j, h1, h2, _⟩ => by omega⟩⟩
  | d + 1, i, h0, hd => by
    have hi : i < inn.length := by omega
    obtain ⟨k, b, hk, hb⟩ := ends_run hl hn d (i + 1) (by omega) (by omega)
    have hk' : check_Ends.l0 k l inn (inn.length : Int) (wrap64 ((i : Int) + 1)) = some (b, 0) := by
      rw [w64 (by omega) (by omega)]; exact hk
    have e : check_Ends.l0 (k + 1) l inn (inn.length : Int) (i : Int) = (if (i : Int) < (inn.length : Int) then (if 0 ≤ (i : Int) then (if (i : Int) < (inn.length : Int) then (if rdOf false inn (i : Int) = true then (if (i : Int) = (l.length : Int) then (some (true, 0)) else (if (i : Int) < (l.length : Int) then (if ((rd_T48 l (i : Int)).f0) = 25 then (some (true, 0)) else (check_Ends.l0 k l inn (inn.length : Int) (wrap64 ((i : Int) + 1)))) else (none))) else (check_Ends.l0 k l inn (inn.length : Int) (wrap64 ((i : Int) + 1)))) else (none)) else (none)) else (some (false, 0))) := rfl
    have hrf : rdOf false inn (i : Int) = inn.getD i false := by unfold rdOf; rw [Int.toNat_natCast]
    have hrd : rd_T48 l (i : Int) = l.getD i z48 := by unfold rd_T48; rw [Int.toNat_natCast]
    have no : ¬ (inn.getD i false = true ∧ stops l i) → (b = true ↔ ∃ j, i ≤ j ∧ j ≤ l.length ∧ inn.getD j false = true ∧ stops l j) := fun hno => by
      rw [hb]
      refine ⟨fun ⟨j, h1, h2⟩ => ⟨j, by omega, h2⟩, fun ⟨j, h1, h2⟩ => ⟨j, ?_, h2⟩⟩
      by_cases hj : j = i
      · subst hj; exact absurd h2.2 hno
      · omega
    rw [hrf, hrd] at e
    rw [if_pos (by omega), if_pos (by omega), if_pos (by omega), hk'] at e
    by_cases h1 : inn.getD i false = true
    · rw [if_pos h1] at e
      by_cases h2 : i = l.length
      · rw [if_pos (by omega)] at e
        exact ⟨k + 1, true, e, fun _ => ⟨i, Nat.le_refl _, by omega, h1, Or.inl h2⟩, fun _ => rfl⟩
      · rw [if_neg (by omega), if_pos (by omega)] at e
        by_cases h3 : (l.getD i z48).f0 = 25
        · rw [if_pos h3] at e
          exact ⟨k + 1, true, e, fun _ => ⟨i, Nat.le_refl _, by omega, h1, Or.inr h3⟩, fun _ => rfl⟩
        · rw [if_neg h3] at e
          exact ⟨k + 1, b, e, no (fun h => h.2.elim h2 h3)⟩
    · rw [if_neg h1] at e
      exact ⟨k + 1, b, e, no (fun h => h1 h.1)⟩
/-- What is asked of a right program's thread. -/
theorem askedF {R : List S55} {T : List (List S48)} {k : Nat} {a b : Int} (h : check_Check.f k R T = some (a, b, 0)) {t : Int} (h0 : 0 ≤ t) (h1 : t < T.length) : ∃ k', check_asked.f k' R T t = some 0 := by
  refine ⟨k + 1, ?_⟩
  unfold check_asked.f
  have hr : check_Right.f (k + 1) R T = some true := by
    have h2 := at_rounds (g := fun k => check_Check.f k R T) (fun k => check_Check.mono _ _ k) (show k ≤ k + 1 by omega) h
    unfold check_Right.f
    rw [show check_Check.f (k + 1) R T = some (a, b, 0) from h2]
    rfl
  rw [hr]
  simp only [Option.bind_some]
  rw [if_pos trivial, if_neg (by omega), if_neg (by omega)]
/-- Reach and Ends of a right program's thread. -/
theorem tellF {R : List S55} {T : List (List S48)} {k : Nat} {a b : Int} (h : check_Check.f k R T = some (a, b, 0)) (hT : wfT T) {t : Int} (h0 : 0 ≤ t) (h1 : t < T.length) :
    ∃ k' out en, check_Reach.f k' R T t = some (out, 0) ∧ check_Ends.f k' R T t = some (en, 0) ∧ out.length = (rd_L4 T t).length + 1 ∧ (∀ i : Nat, out.getD i false = true ↔ Rch (rd_L4 T t) i) ∧ (en = true ↔ ∃ j, j ≤ (rd_L4 T t).length ∧ Rch (rd_L4 T t) j ∧ stops (rd_L4 T t) j) := by
  obtain ⟨k1, ha⟩ := askedF h h0 h1
  have hJ := okJ_of ((okF h).2 t h0 h1) (hT _ (rd_memL h0 h1))
  obtain ⟨k2, out, hk2, hlen, hin⟩ := reachF hJ
  obtain ⟨k3, en, hk3, hen⟩ := ends_run hJ.1 hlen out.length 0 (by omega) rfl
  have a' := at_rounds (g := fun k => check_asked.f k R T t) (fun k => check_asked.mono _ _ _ k) (show k1 ≤ k1 + k2 + k3 by omega) ha
  have r' := at_rounds (g := fun k => check_reach.f k (rd_L4 T t)) (fun k => check_reach.mono _ k) (show k2 ≤ k1 + k2 + k3 by omega) hk2
  have e' := at_rounds (g := fun k => check_Ends.l0 k (rd_L4 T t) out (out.length : Int) ((0 : Nat) : Int)) (fun k => check_Ends.mono_l k _ _ _ _) (show k3 ≤ k1 + k2 + k3 by omega) hk3
  replace a' : check_asked.f (k1 + k2 + k3) R T t = some 0 := a'
  replace r' : check_reach.f (k1 + k2 + k3) (rd_L4 T t) = some out := r'
  refine ⟨k1 + k2 + k3, out, en, ?_, ?_, hlen, hin, ?_⟩
  · unfold check_Reach.f
    rw [a']
    simp only [Option.bind_some]
    rw [if_pos trivial, if_pos h0, if_pos h1, r']
    rfl
  · unfold check_Ends.f
    rw [a']
    simp only [Option.bind_some]
    rw [if_pos trivial, if_pos h0, if_pos h1, r']
    exact e'
  · rw [hen]
    exact ⟨fun ⟨j, _, q1, q2, q3⟩ => ⟨j, q1, (hin j).1 q2, q3⟩, fun ⟨j, q1, q2, q3⟩ => ⟨j, Nat.zero_le _, q1, (hin j).2 q2, q3⟩⟩
end Go.Proofs.Ythoejimgdhfmiaa.H
