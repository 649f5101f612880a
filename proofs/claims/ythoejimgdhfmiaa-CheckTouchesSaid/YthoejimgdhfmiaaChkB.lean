/- Layer 11, plainly: the program's and the reference's answers about a program are one; Few and Copy. No condition. -/
import Derived.Test.YthoejimgdhfmiaaChkA
namespace Go.Proofs.Ythoejimgdhfmiaa.H
open Go.RowKit Go.Proofs.Ythoejimgdhfmiaa.PCheckTells Go.Proofs.YthoejimgdhfmiaaW.PrintWords Go.Proofs.YthoejimgdhfmiaaW.PrintLast Go.Proofs.YthoejimgdhfmiaaW.PrintMore
set_option linter.unusedVariables false
set_option linter.unusedSimpArgs false

/-- what is wrong with an instruction -/
def insE (R : List S55) (x : S48) (n : Int) : Int :=
  if rightB x = true then (if (15 ≤ x.f0 ∧ x.f0 ≤ 17) ∧ x.f5 > IntKind.u64.wrap n then 5 else if (18 ≤ x.f0 ∧ x.f0 ≤ 20) ∧ x.f3 ≥ (R.length : Int) then 7 else if x.f0 = 19 ∧ x.f5 ≥ IntKind.u64.wrap (rd_T55 R x.f3).f2 then 7 else 0) else 6
theorem right_c {x : S48} (h : rightB x = true) : 0 ≤ x.f3 := by
  unfold rightB at h
  simp only [Bool.and_eq_true, decide_eq_true_eq] at h
  exact h.2.2.2.2.2.1
theorem jumps_eq (x : S48) : code_Jumps.f x.f0 x.f1 x.f2 x.f3 x.f4 x.f5 = some (decide (x.f0 ≥ 15) && decide (x.f0 ≤ 17)) := by unfold code_Jumps.f; rw [ifs]
theorem rings_eq (op : Int) : check_rings.f op = some (decide (18 ≤ op ∧ op ≤ 20)) := by
  unfold check_rings.f
  by_cases h1 : op = 18
  · subst h1; rfl
  · rw [if_neg h1]
    by_cases h2 : op = 19
    · subst h2; rfl
    · rw [if_neg h2]
      by_cases h3 : op = 20
      · subst h3; rfl
      · rw [decide_eq_false (by omega)]; simpa using h3
theorem j1_eq (k : Nat) (R : List S55) (T : List (List S48)) (x : S48) (hc : 0 ≤ x.f3) (b : Bool) (hb : b = decide ((18 ≤ x.f0 ∧ x.f0 ≤ 20) ∧ x.f3 ≥ (R.length : Int))) :
    check_instr.j1 (k + 1) b R T x.f0 x.f1 x.f2 x.f3 x.f4 x.f5 = some (if (18 ≤ x.f0 ∧ x.f0 ≤ 20) ∧ x.f3 ≥ (R.length : Int) then 7 else if x.f0 = 19 ∧ x.f5 ≥ IntKind.u64.wrap (rd_T55 R x.f3).f2 then 7 else 0) := by
  simp only [check_instr.j1]
  by_cases h1 : (18 ≤ x.f0 ∧ x.f0 ≤ 20) ∧ x.f3 ≥ (R.length : Int)
  · rw [hb, decide_eq_true h1, if_pos rfl, if_pos h1]
  · rw [hb, decide_eq_false h1, if_neg (by decide), if_neg h1]
    by_cases h2 : x.f0 = 19
    · rw [if_pos h2, if_pos hc, if_pos (by omega)]
      by_cases h3 : x.f5 ≥ IntKind.u64.wrap (rd_T55 R x.f3).f2
      · rw [if_pos h3, if_pos ⟨h2, h3⟩]
      · rw [if_neg h3, if_neg (fun h => h3 h.2)]
    · rw [if_neg h2, if_neg (fun h => h2 h.1)]
theorem j0_eq (k : Nat) (R : List S55) (T : List (List S48)) (x : S48) (n : Int) (hr : rightB x = true) (b : Bool) (hb : b = decide ((15 ≤ x.f0 ∧ x.f0 ≤ 17) ∧ x.f5 > IntKind.u64.wrap n)) :
    check_instr.j0 (k + 2) b R T x.f0 x.f1 x.f2 x.f3 x.f4 x.f5 = some (insE R x n) := by
  have e : check_instr.j0 (k + 2) b R T x.f0 x.f1 x.f2 x.f3 x.f4 x.f5 = if b = true then some 5 else (check_rings.f x.f0).bind fun t117 => if t117 = true then check_instr.j1 (k + 1) (decide (x.f3 ≥ (R.length : Int))) R T x.f0 x.f1 x.f2 x.f3 x.f4 x.f5 else check_instr.j1 (k + 1) false R T x.f0 x.f1 x.f2 x.f3 x.f4 x.f5 := rfl
  rw [e, rings_eq]
  simp only [Option.bind_some]
  unfold insE
  rw [if_pos hr]
  by_cases h1 : (15 ≤ x.f0 ∧ x.f0 ≤ 17) ∧ x.f5 > IntKind.u64.wrap n
  · rw [hb, decide_eq_true h1, if_pos rfl, if_pos h1]
  · rw [hb, decide_eq_false h1, if_neg (by decide), if_neg h1]
    by_cases h2 : 18 ≤ x.f0 ∧ x.f0 ≤ 20
    · rw [decide_eq_true h2, if_pos rfl, j1_eq k R T x (right_c hr) _ (by by_cases h3 : x.f3 ≥ (R.length : Int) <;> simp [h2, h3])]
    · rw [decide_eq_false h2, if_neg (by decide), j1_eq k R T x (right_c hr) _ (by rw [decide_eq_false (fun h => h2 h.1)])]
theorem cInstr_eq (k : Nat) (R : List S55) (T : List (List S48)) (x : S48) (n : Int) : check_instr.f (k + 6) R T x.f0 x.f1 x.f2 x.f3 x.f4 x.f5 n = some (insE R x n) := by
  unfold check_instr.f
  rw [cRight_eq (k + 2) x, jumps_eq]
  simp only [Option.bind_some]
  by_cases hr : rightB x = true
  · rw [if_pos hr]
    by_cases h1 : 15 ≤ x.f0 ∧ x.f0 ≤ 17
    · rw [decide_eq_true (show x.f0 ≥ 15 from h1.1), decide_eq_true h1.2, if_pos (show (true && true) = true from rfl)]
      exact j0_eq (k + 4) R T x n hr _ (by by_cases h3 : x.f5 > IntKind.u64.wrap n <;> simp [h1, h3])
    · rw [if_neg (by simp; omega)]
      exact j0_eq (k + 4) R T x n hr _ (by rw [decide_eq_false (fun h => h1 h.1)])
  · rw [if_neg hr]
    unfold insE
    rw [if_neg hr]
theorem rInstr_eq (k : Nat) (R : List S55) (T : List (List S48)) (x : S48) (n : Int) (hr : rightB x = true) : rondeauref11_instr.f (k + 2) R T x.f0 x.f1 x.f2 x.f3 x.f4 x.f5 n = some (insE R x n) := by
  have hc := right_c hr
  have tail : (if x.f0 = 19 then (if 0 ≤ x.f3 then (if x.f3 < (R.length : Int) then (if x.f5 ≥ (IntKind.u64.wrap ((rd_T55 R x.f3).f2)) then (some 7) else (some 0)) else (none : Option Int)) else (none)) else (some 0)) = if ¬ (x.f0 = 19 ∧ x.f3 ≥ (R.length : Int)) then some (if x.f0 = 19 ∧ x.f5 ≥ IntKind.u64.wrap (rd_T55 R x.f3).f2 then 7 else 0) else none := by
    by_cases h2 : x.f0 = 19
    · rw [if_pos h2, if_pos hc]
      by_cases h4 : x.f3 < (R.length : Int)
      · rw [if_pos h4, if_pos (fun h => by omega)]
        by_cases h3 : x.f5 ≥ IntKind.u64.wrap (rd_T55 R x.f3).f2
        · rw [if_pos h3, if_pos ⟨h2, h3⟩]
        · rw [if_neg h3, if_neg (fun h => h3 h.2)]
      · rw [if_neg h4, if_neg (fun h => h ⟨h2, by omega⟩)]
    · rw [if_neg h2, if_pos (fun h => h2 h.1), if_neg (fun h => h2 h.1)]
  have j0 : ∀ b : Bool, b = decide ((15 ≤ x.f0 ∧ x.f0 ≤ 17) ∧ x.f5 > IntKind.u64.wrap n) → rondeauref11_instr.j0 (k + 2) b R T x.f0 x.f1 x.f2 x.f3 x.f4 x.f5 = some (insE R x n) := fun b hb => by
    simp only [rondeauref11_instr.j0]
    rw [tail]
    unfold insE
    rw [if_pos hr]
    by_cases h1 : (15 ≤ x.f0 ∧ x.f0 ≤ 17) ∧ x.f5 > IntKind.u64.wrap n
    · rw [hb, decide_eq_true h1, if_pos rfl, if_pos h1]
    · rw [hb, decide_eq_false h1, if_neg (by decide), if_neg h1]
      by_cases h2 : 18 ≤ x.f0 ∧ x.f0 ≤ 20
      · rw [if_pos (show x.f0 ≥ 18 from h2.1), if_pos h2.2]
        by_cases h3 : x.f3 ≥ (R.length : Int)
        · rw [if_pos h3, if_pos ⟨h2, h3⟩]
        · have hn : ¬ (x.f0 = 19 ∧ x.f3 ≥ (R.length : Int)) := fun h => h3 h.2
          have hm : ¬ ((18 ≤ x.f0 ∧ x.f0 ≤ 20) ∧ x.f3 ≥ (R.length : Int)) := fun h => h3 h.2
          rw [if_neg h3, if_pos hn, if_neg hm]
      · have hn : ¬ (x.f0 = 19 ∧ x.f3 ≥ (R.length : Int)) := fun h => by omega
        have hm : ¬ ((18 ≤ x.f0 ∧ x.f0 ≤ 20) ∧ x.f3 ≥ (R.length : Int)) := fun h => h2 h.1
        rw [if_pos hn, if_neg hm]
        by_cases h4 : x.f0 ≥ 18
        · rw [if_pos h4, if_neg (by omega)]
        · rw [if_neg h4]
  unfold rondeauref11_instr.f
  by_cases h1 : x.f0 ≥ 15
  · rw [if_pos h1]
    by_cases h2 : x.f0 ≤ 17
    · rw [if_pos h2]; exact j0 _ (by by_cases h3 : x.f5 > IntKind.u64.wrap n <;> simp [h1, h2, h3])
    · rw [if_neg h2]; exact j0 _ (by rw [decide_eq_false (fun h => h2 h.1.2)])
  · rw [if_neg h1]; exact j0 _ (by rw [decide_eq_false (fun h => h1 h.1.1)])
theorem ring_eq (a b c : Int) : rondeauref11_ring.f a b c = check_ring.f a b c := by
  unfold rondeauref11_ring.f check_ring.f
  by_cases h1 : b ≥ 1
  · rw [if_pos h1, if_neg (show ¬ b < 1 by omega)]
    by_cases h2 : b ≤ 64
    · rw [if_pos h2, if_neg (show ¬ b > 64 by omega)]
    · rw [if_neg h2, if_pos (show b > 64 by omega)]
  · rw [if_neg h1, if_pos (show b < 1 by omega)]
theorem ring_some (a b c : Int) : ∃ r, check_ring.f a b c = some r := by
  unfold check_ring.f
  by_cases h1 : b < 1 <;> by_cases h2 : b > 64 <;> by_cases h3 : a = 1 <;> by_cases h4 : c = 1 <;> by_cases h5 : a = 2 <;> by_cases h6 : c ≥ 1 <;> simp [h1, h2, h3, h4, h5, h6]
def wfT (T : List (List S48)) : Prop := ∀ l ∈ T, ∀ x ∈ l, wf48 x
theorem rd_mem48 {l : List S48} {i : Int} (h0 : 0 ≤ i) (h1 : i < l.length) : rd_T48 l i ∈ l := by
  unfold rd_T48
  rw [List.getD_eq_getElem?_getD, List.getElem?_eq_getElem (show i.toNat < l.length by omega)]
  exact List.getElem_mem _
theorem rd_memL {T : List (List S48)} {i : Int} (h0 : 0 ≤ i) (h1 : i < T.length) : rd_L4 T i ∈ T := by
  unfold rd_L4
  rw [List.getD_eq_getElem?_getD, List.getElem?_eq_getElem (show i.toNat < T.length by omega)]
  exact List.getElem_mem _
/-- What the program tells the reference tells. -/
theorem sim (R : List S55) (T : List (List S48)) (hT : wfT T) : ∀ k,
    (∀ t y, check_Check.l1 k T T.length t R T = some y → rondeauref11_Check.l1 (k + 12) t R T = some y) ∧
    (∀ t l i y, l ∈ T → check_Check.l2 k t l T T.length t l l.length i R T = some y → rondeauref11_Check.l2 (k + 12) t l i R T = some y)
  | 0 => ⟨fun t y h => by simp [check_Check.l1] at h, fun t l i y _ h => by simp [check_Check.l2] at h⟩
  | k + 1 => by
    obtain ⟨ih1, ih2⟩ := sim R T hT k
    refine ⟨fun t y h => ?_, fun t l i y hl h => ?_⟩
    · have e : check_Check.l1 (k + 1) T T.length t R T = if t < (T.length : Int) then (if 0 ≤ t then (if t < (T.length : Int) then (if ((rd_L4 T t).length : Int) > 256 then (some (t, 256, 4)) else (check_Check.l2 k t (rd_L4 T t) T T.length t (rd_L4 T t) ((rd_L4 T t).length : Int) 0 R T)) else (none)) else (none)) else (some (0, 0, 0)) := rfl
      have e2 : rondeauref11_Check.l1 (k + 1 + 12) t R T = if t < (T.length : Int) then (if 0 ≤ t then (if ((rd_L4 T t).length : Int) > 256 then (some (t, 256, 4)) else (rondeauref11_Check.l2 (k + 12) t (rd_L4 T t) 0 R T)) else (none)) else (some (0, 0, 0)) := rfl
      rw [e] at h
      rw [e2]
      by_cases h1 : t < (T.length : Int)
      · rw [if_pos h1] at h ⊢
        by_cases h2 : 0 ≤ t
        · rw [if_pos h2] at h ⊢
          rw [if_pos h1] at h
          by_cases h3 : ((rd_L4 T t).length : Int) > 256
          · rw [if_pos h3] at h ⊢; exact h
          · rw [if_neg h3] at h ⊢; exact ih2 t _ 0 y (rd_memL h2 h1) h
        · rw [if_neg h2] at h; cases h
      · rw [if_neg h1] at h ⊢; exact h
    · have e : check_Check.l2 (k + 1) t l T T.length t l l.length i R T = if i < (l.length : Int) then (if 0 ≤ i then (if i < (l.length : Int) then ((check_instr.f k R T ((rd_T48 l i).f0) ((rd_T48 l i).f1) ((rd_T48 l i).f2) ((rd_T48 l i).f3) ((rd_T48 l i).f4) ((rd_T48 l i).f5) (l.length : Int)).bind fun t126 => (if t126 = 0 then (check_Check.l2 k t l T T.length t l l.length (wrap64 (i + 1)) R T) else (some (t, i, t126)))) else (none)) else (none)) else (check_Check.l1 k T T.length (wrap64 (t + 1)) R T) := rfl
      have e2 : rondeauref11_Check.l2 (k + 1 + 12) t l i R T = if i < (l.length : Int) then (if 0 ≤ i then ((rondeauref09_Right.f (k + 12) ((rd_T48 l i).f0) ((rd_T48 l i).f1) ((rd_T48 l i).f2) ((rd_T48 l i).f3) ((rd_T48 l i).f4) ((rd_T48 l i).f5)).bind fun t422 => (if t422 = true then ((rondeauref11_instr.f (k + 12) R T ((rd_T48 l i).f0) ((rd_T48 l i).f1) ((rd_T48 l i).f2) ((rd_T48 l i).f3) ((rd_T48 l i).f4) ((rd_T48 l i).f5) (l.length : Int)).bind fun t424 => (if t424 = 0 then (rondeauref11_Check.l2 (k + 12) t l (wrap64 (i + 1)) R T) else (some (t, i, t424)))) else (if (6 : Int) = 0 then (rondeauref11_Check.l2 (k + 12) t l (wrap64 (i + 1)) R T) else (some (t, i, 6))))) else (none)) else (rondeauref11_Check.l1 (k + 12) (wrap64 (t + 1)) R T) := rfl
      rw [e] at h
      rw [e2]
      by_cases h1 : i < (l.length : Int)
      · rw [if_pos h1] at h ⊢
        by_cases h2 : 0 ≤ i
        · rw [if_pos h2] at h ⊢
          rw [if_pos h1] at h
          have hx := hT l hl _ (rd_mem48 h2 h1)
          rw [rRight_eq (k + 5) _ hx]
          simp only [Option.bind_some]
          cases hi : check_instr.f k R T ((rd_T48 l i).f0) ((rd_T48 l i).f1) ((rd_T48 l i).f2) ((rd_T48 l i).f3) ((rd_T48 l i).f4) ((rd_T48 l i).f5) (l.length : Int) with
          | none => rw [hi] at h; cases h
          | some e3 =>
            have h4 := at_rounds (g := fun k => check_instr.f k R T ((rd_T48 l i).f0) ((rd_T48 l i).f1) ((rd_T48 l i).f2) ((rd_T48 l i).f3) ((rd_T48 l i).f4) ((rd_T48 l i).f5) (l.length : Int)) (fun k => check_instr.mono _ _ _ _ _ _ _ _ _ k) (show k ≤ k + 6 by omega) hi
            have h5 := cInstr_eq k R T (rd_T48 l i) (l.length : Int)
            have h6 : e3 = insE R (rd_T48 l i) (l.length : Int) := Option.some.inj (h4.symm.trans h5)
            rw [hi] at h
            simp only [Option.bind_some] at h
            by_cases hr : rightB (rd_T48 l i) = true
            · rw [if_pos hr, rInstr_eq (k + 10) R T _ _ hr]
              simp only [Option.bind_some]
              rw [← h6]
              by_cases h7 : e3 = 0
              · rw [if_pos h7] at h ⊢; exact ih2 t l _ y hl h
              · rw [if_neg h7] at h ⊢; exact h
            · have h8 : e3 = 6 := by rw [h6]; unfold insE; rw [if_neg hr]
              rw [if_neg hr, if_neg (by decide)]
              rw [if_neg (by rw [h8]; decide), h8] at h
              exact h
        · rw [if_neg h2] at h; cases h
      · rw [if_neg h1] at h ⊢; exact ih1 _ y h
theorem sim0 (R : List S55) (T : List (List S48)) (hT : wfT T) : ∀ k i y, check_Check.l0 k R R.length i R T = some y → rondeauref11_Check.l0 (k + 12) i R T = some y
  | 0, i, y => fun h => by simp [check_Check.l0] at h
  | k + 1, i, y => fun h => by
    have e : check_Check.l0 (k + 1) R R.length i R T = if i < (R.length : Int) then (if 0 ≤ i then (if i < (R.length : Int) then ((check_ring.f ((rd_T55 R i).f0) ((rd_T55 R i).f1) ((rd_T55 R i).f2)).bind fun t122 => (if t122 = true then (check_Check.l0 k R R.length (wrap64 (i + 1)) R T) else (some ((-1), i, 7)))) else (none)) else (none)) else (check_Check.l1 k T T.length 0 R T) := rfl
    have e2 : rondeauref11_Check.l0 (k + 1 + 12) i R T = if i < (R.length : Int) then (if 0 ≤ i then ((rondeauref11_ring.f ((rd_T55 R i).f0) ((rd_T55 R i).f1) ((rd_T55 R i).f2)).bind fun t419 => (if t419 = true then (rondeauref11_Check.l0 (k + 12) (wrap64 (i + 1)) R T) else (some ((-1), i, 7)))) else (none)) else (rondeauref11_Check.l1 (k + 12) 0 R T) := rfl
    rw [e] at h
    rw [e2]
    by_cases h1 : i < (R.length : Int)
    · rw [if_pos h1] at h ⊢
      by_cases h2 : 0 ≤ i
      · rw [if_pos h2] at h ⊢
        rw [if_pos h1] at h
        rw [ring_eq]
        obtain ⟨b, hb⟩ := ring_some ((rd_T55 R i).f0) ((rd_T55 R i).f1) ((rd_T55 R i).f2)
        rw [hb] at h ⊢
        simp only [Option.bind_some] at h ⊢
        cases b with
        | true => rw [if_pos rfl] at h ⊢; exact sim0 R T hT k _ y h
        | false => rw [if_neg (by decide)] at h ⊢; exact h
      · rw [if_neg h2] at h; cases h
    · rw [if_neg h1] at h ⊢; exact (sim R T hT k).1 0 y h
theorem simF (R : List S55) (T : List (List S48)) (hT : wfT T) (k : Nat) (y : Int × Int × Int) (h : check_Check.f k R T = some y) : rondeauref11_Check.f (k + 12) R T = some y := by
  have j : ∀ b, check_Check.j0 k b R T = some y → rondeauref11_Check.j0 (k + 12) b R T = some y := fun b hb => by
    cases k with
    | zero => simp [check_Check.j0] at hb
    | succ k =>
      have e : check_Check.j0 (k + 1) b R T = if b = true then (some (0, 0, 1)) else (check_Check.l0 k R (R.length : Int) 0 R T) := rfl
      have e2 : rondeauref11_Check.j0 (k + 1 + 12) b R T = if b = true then (some (0, 0, 1)) else (rondeauref11_Check.l0 (k + 12) 0 R T) := rfl
      rw [e] at hb
      rw [e2]
      cases b with
      | true => exact hb
      | false => rw [if_neg (by decide)] at hb ⊢; exact sim0 R T hT k 0 y hb
  unfold check_Check.f at h
  unfold rondeauref11_Check.f
  by_cases h1 : (T.length : Int) = 0
  · rw [if_pos h1] at h ⊢; exact j _ h
  · rw [if_neg h1] at h ⊢
    by_cases h2 : (T.length : Int) > 8
    · rw [if_pos h2] at h ⊢; exact j _ h
    · rw [if_neg h2] at h ⊢; exact j _ h
/-- It comes to an end. -/
theorem w64 {i : Int} (h0 : 0 ≤ i) (h1 : i < 1000000) : wrap64 (i + 1) = i + 1 := by unfold wrap64; omega
theorem end2 (R : List S55) (T : List (List S48)) (t : Int) (l : List S48) (hll : l.length ≤ 256) (ht0 : 0 ≤ t) (ht1 : t < 1000) (H : ∃ k y, check_Check.l1 k T T.length (t + 1) R T = some y) : ∀ (d : Nat) (i : Int), 0 ≤ i → i ≤ l.length → (l.length : Int) - i = d → ∃ k y, check_Check.l2 k t l T T.length t l l.length i R T = some y := by
  intro d
  induction d with
  | zero =>
    intro i h0 h1 hd
    obtain ⟨k, y, hk⟩ := H
    refine ⟨k + 1, y, ?_⟩
    simp only [check_Check.l2]
    rw [if_neg (by omega), w64 ht0 (by omega)]
    exact hk
  | succ d ih =>
    intro i h0 h1 hd
    obtain ⟨k, y, hk⟩ := ih (i + 1) (by omega) (by omega) (by omega)
    have hk2 := at_rounds (g := fun k => check_Check.l2 k t l T T.length t l l.length (i + 1) R T) (fun k => (check_Check.mono_l k).2.2.2 _ _ _ _ _ _ _ _ _ _) (show k ≤ k + 6 by omega) hk
    have e : check_Check.l2 (k + 6 + 1) t l T T.length t l l.length i R T = if i < (l.length : Int) then (if 0 ≤ i then (if i < (l.length : Int) then ((check_instr.f (k + 6) R T ((rd_T48 l i).f0) ((rd_T48 l i).f1) ((rd_T48 l i).f2) ((rd_T48 l i).f3) ((rd_T48 l i).f4) ((rd_T48 l i).f5) (l.length : Int)).bind fun t126 => (if t126 = 0 then (check_Check.l2 (k + 6) t l T T.length t l l.length (wrap64 (i + 1)) R T) else (some (t, i, t126)))) else (none)) else (none)) else (check_Check.l1 (k + 6) T T.length (wrap64 (t + 1)) R T) := rfl
    rw [if_pos (by omega), if_pos h0, if_pos (by omega), cInstr_eq k R T (rd_T48 l i), w64 h0 (by omega)] at e
    simp only [Option.bind_some] at e
    by_cases h3 : insE R (rd_T48 l i) (l.length : Int) = 0
    · rw [if_pos h3] at e
      exact ⟨k + 6 + 1, y, e.trans hk2⟩
    · rw [if_neg h3] at e
      exact ⟨k + 6 + 1, _, e⟩
theorem end1 (R : List S55) (T : List (List S48)) (hT : T.length ≤ 100) : ∀ (d : Nat) (t : Int), 0 ≤ t → t ≤ T.length → (T.length : Int) - t = d → ∃ k y, check_Check.l1 k T T.length t R T = some y := by
  intro d
  induction d with
  | zero =>
    intro t h0 h1 hd
    exact ⟨1, (0, 0, 0), by simp only [check_Check.l1]; rw [if_neg (by omega)]⟩
  | succ d ih =>
    intro t h0 h1 hd
    have H := ih (t + 1) (by omega) (by omega) (by omega)
    by_cases h3 : ((rd_L4 T t).length : Int) > 256
    · exact ⟨1, (t, 256, 4), by simp only [check_Check.l1]; rw [if_pos (by omega), if_pos h0, if_pos (by omega), if_pos h3]⟩
    · obtain ⟨k, y, hk⟩ := end2 R T t (rd_L4 T t) (by omega) h0 (by omega) H (rd_L4 T t).length 0 (Int.le_refl _) (by omega) (by omega)
      refine ⟨k + 1, y, ?_⟩
      have e : check_Check.l1 (k + 1) T T.length t R T = if t < (T.length : Int) then (if 0 ≤ t then (if t < (T.length : Int) then (if ((rd_L4 T t).length : Int) > 256 then (some (t, 256, 4)) else (check_Check.l2 k t (rd_L4 T t) T T.length t (rd_L4 T t) ((rd_L4 T t).length : Int) 0 R T)) else (none)) else (none)) else (some (0, 0, 0)) := rfl
      rw [e, if_pos (by omega), if_pos h0, if_pos (by omega), if_neg h3]
      exact hk
theorem end0 (R : List S55) (T : List (List S48)) (hT : T.length ≤ 100) (hR : R.length ≤ 100) : ∀ (d : Nat) (i : Int), 0 ≤ i → i ≤ R.length → (R.length : Int) - i = d → ∃ k y, check_Check.l0 k R R.length i R T = some y := by
  intro d
  induction d with
  | zero =>
    intro i h0 h1 hd
    obtain ⟨k, y, hk⟩ := end1 R T hT T.length 0 (Int.le_refl _) (by omega) (by omega)
    exact ⟨k + 1, y, by simp only [check_Check.l0]; rw [if_neg (by omega)]; exact hk⟩
  | succ d ih =>
    intro i h0 h1 hd
    obtain ⟨k, y, hk⟩ := ih (i + 1) (by omega) (by omega) (by omega)
    obtain ⟨b, hb⟩ := ring_some ((rd_T55 R i).f0) ((rd_T55 R i).f1) ((rd_T55 R i).f2)
    have e : check_Check.l0 (k + 1) R R.length i R T = if i < (R.length : Int) then (if 0 ≤ i then (if i < (R.length : Int) then ((check_ring.f ((rd_T55 R i).f0) ((rd_T55 R i).f1) ((rd_T55 R i).f2)).bind fun t122 => (if t122 = true then (check_Check.l0 k R R.length (wrap64 (i + 1)) R T) else (some ((-1), i, 7)))) else (none)) else (none)) else (check_Check.l1 k T T.length 0 R T) := rfl
    rw [if_pos (by omega), if_pos h0, if_pos (by omega), hb, w64 h0 (by omega)] at e
    simp only [Option.bind_some] at e
    cases b with
    | true => rw [if_pos rfl] at e; exact ⟨k + 1, y, e.trans hk⟩
    | false => rw [if_neg (by decide)] at e; exact ⟨k + 1, _, e⟩
theorem endF (R : List S55) (T : List (List S48)) (hT : T.length ≤ 100) (hR : R.length ≤ 100) : ∃ k y, check_Check.f k R T = some y := by
  obtain ⟨k, y, hk⟩ := end0 R T hT hR R.length 0 (Int.le_refl _) (by omega) (by omega)
  have j : ∀ b, ∃ k y, check_Check.j0 k b R T = some y := fun b => by
    cases b with
    | true => exact ⟨1, (0, 0, 1), rfl⟩
    | false => exact ⟨k + 1, y, hk⟩
  by_cases h1 : (T.length : Int) = 0
  · obtain ⟨k, y, hk⟩ := j true
    exact ⟨k, y, by unfold check_Check.f; rw [if_pos h1]; exact hk⟩
  · by_cases h2 : (T.length : Int) > 8
    · obtain ⟨k, y, hk⟩ := j true
      exact ⟨k, y, by unfold check_Check.f; rw [if_neg h1, if_pos h2]; exact hk⟩
    · obtain ⟨k, y, hk⟩ := j (decide ((R.length : Int) > 8))
      exact ⟨k, y, by unfold check_Check.f; rw [if_neg h1, if_neg h2]; exact hk⟩
/-- Few -/
theorem few0 (R : List S55) (T : List (List S48)) (hT : T.length ≤ 10) (m : Int) (hm : 0 ≤ m ∧ m ≤ 1000) : ∀ (d : Nat) (i n : Int), 0 ≤ i → i ≤ T.length → (T.length : Int) - i = d → 0 ≤ n → n ≤ i * m → ∃ k b, rondeauref09_Few.l0 k m n i R T = some b ∧ (b = true → ∀ j : Int, i ≤ j → j < T.length → ((rd_L4 T j).length : Int) ≤ m) := by
  intro d
  induction d with
  | zero =>
    intro i n h0 h1 hd hn0 hn1
    exact ⟨1, decide (n ≤ m), by simp only [rondeauref09_Few.l0]; rw [if_neg (by omega)], fun _ j h2 h3 => by omega⟩
  | succ d ih =>
    intro i n h0 h1 hd hn0 hn1
    by_cases h3 : ((rd_L4 T i).length : Int) > m
    · exact ⟨1, false, by simp only [rondeauref09_Few.l0]; rw [if_pos (by omega), if_pos h0, if_pos h3], fun h => by cases h⟩
    · have hmi : i * m ≤ 10 * m := Int.mul_le_mul_of_nonneg_right (by omega) hm.1
      obtain ⟨k, b, hk, hb⟩ := ih (i + 1) (n + ((rd_L4 T i).length : Int)) (by omega) (by omega) (by omega) (by omega) (by rw [Int.add_mul]; omega)
      refine ⟨k + 1, b, ?_, fun h j h4 h5 => ?_⟩
      · simp only [rondeauref09_Few.l0]
        rw [if_pos (by omega), if_pos h0, if_neg h3, w64 h0 (by omega), show wrap64 (n + ((rd_L4 T i).length : Int)) = n + ((rd_L4 T i).length : Int) from by unfold wrap64; omega]
        exact hk
      · by_cases e : j = i
        · subst e; omega
        · exact hb h j (by omega) h5
theorem fewF (R : List S55) (T : List (List S48)) (m : Int) (hm : 0 ≤ m ∧ m ≤ 1000) : ∃ k b, rondeauref09_Few.f k R T m = some b ∧ (b = true → R.length ≤ 10 ∧ T.length ≤ 10 ∧ ∀ j : Int, 0 ≤ j → j < T.length → ((rd_L4 T j).length : Int) ≤ m) := by
  by_cases h1 : (R.length : Int) > 10
  · exact ⟨1, false, by unfold rondeauref09_Few.f; rw [if_pos h1]; rfl, fun h => by cases h⟩
  · by_cases h2 : (T.length : Int) > 10
    · exact ⟨1, false, by unfold rondeauref09_Few.f; rw [if_neg h1, decide_eq_true h2]; rfl, fun h => by cases h⟩
    · obtain ⟨k, b, hk, hb⟩ := few0 R T (by omega) m hm T.length 0 0 (Int.le_refl _) (by omega) (by omega) (Int.le_refl _) (by omega)
      refine ⟨k + 1, b, ?_, fun h => ⟨by omega, by omega, hb h⟩⟩
      unfold rondeauref09_Few.f
      rw [if_neg h1, decide_eq_false h2]
      simp only [rondeauref09_Few.j0]
      rw [if_neg (by decide)]
      exact hk
/-- Copy -/
theorem copy0 (R : List S55) (T : List (List S48)) (hT : T.length ≤ 10) (hl : ∀ j : Int, 0 ≤ j → j < T.length → ((rd_L4 T j).length : Int) ≤ 1000) : ∀ (d : Nat) (i : Nat), i ≤ T.length → T.length - i = d → ∃ k, rondeauref09_Copy.l0 k i R T R (T.take i) = some (R, T) := by
  intro d
  induction d with
  | zero =>
    intro i h1 hd
    refine ⟨1, ?_⟩
    simp only [rondeauref09_Copy.l0]
    rw [if_neg (by omega), List.take_of_length_le (by omega)]
  | succ d ih =>
    intro i h1 hd
    obtain ⟨k, hk⟩ := ih (i + 1) (by omega) (by omega)
    refine ⟨k + 1, ?_⟩
    simp only [rondeauref09_Copy.l0, Option.bind_some, List.nil_append, List.length_nil]
    have h2 := hl i (by omega) (by omega)
    rw [if_pos (by omega), if_pos (by omega), if_pos (by omega), if_pos (by rw [List.length_take]; omega), w64 (by omega) (by omega)]
    have e : T.take i ++ [rd_L4 T i] = T.take (i + 1) := by
      rw [List.take_succ_eq_append_getElem (show i < T.length by omega)]
      congr 2
      unfold rd_L4
      rw [Int.toNat_natCast, List.getD_eq_getElem?_getD, List.getElem?_eq_getElem (show i < T.length by omega)]
      rfl
    rw [e]
    have : ((i : Int) + 1) = ((i + 1 : Nat) : Int) := by omega
    rw [this]
    exact hk
theorem copyF (R : List S55) (T : List (List S48)) (hR : R.length ≤ 10) (hT : T.length ≤ 10) (hl : ∀ j : Int, 0 ≤ j → j < T.length → ((rd_L4 T j).length : Int) ≤ 1000) : ∃ k, rondeauref09_Copy.f k R T = some (R, T) := by
  obtain ⟨k, hk⟩ := copy0 R T hT hl T.length 0 (by omega) (by omega)
  refine ⟨k, ?_⟩
  unfold rondeauref09_Copy.f
  simp only [Option.bind_some, List.nil_append, List.length_nil]
  rw [if_pos (by omega)]
  exact hk
end Go.Proofs.Ythoejimgdhfmiaa.H
