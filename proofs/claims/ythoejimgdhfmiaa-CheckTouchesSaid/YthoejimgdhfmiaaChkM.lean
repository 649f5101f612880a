/- Layer 11, plainly: a right program with one thread more. No condition. -/
import Derived.Test.YthoejimgdhfmiaaChkB
namespace Go.Proofs.Ythoejimgdhfmiaa.H
open Go.RowKit Go.Proofs.Ythoejimgdhfmiaa.PCheckTells Go.Proofs.YthoejimgdhfmiaaW.PrintWords Go.Proofs.YthoejimgdhfmiaaW.PrintLast Go.Proofs.YthoejimgdhfmiaaW.PrintMore
set_option linter.unusedVariables false
set_option linter.unusedSimpArgs false
section
variable (R : List S55) (T T' : List (List S48))
theorem l1_e (k : Nat) (t : Int) : check_Check.l1 (k + 1) T T.length t R T = if t < (T.length : Int) then (if 0 ≤ t then (if t < (T.length : Int) then (if ((rd_L4 T t).length : Int) > 256 then (some (t, 256, 4)) else (check_Check.l2 k t (rd_L4 T t) T T.length t (rd_L4 T t) ((rd_L4 T t).length : Int) 0 R T)) else (none)) else (none)) else (some (0, 0, 0)) := rfl
theorem l2_e (k : Nat) (t : Int) (l : List S48) (i : Int) : check_Check.l2 (k + 1) t l T T.length t l l.length i R T = if i < (l.length : Int) then (if 0 ≤ i then (if i < (l.length : Int) then ((check_instr.f k R T ((rd_T48 l i).f0) ((rd_T48 l i).f1) ((rd_T48 l i).f2) ((rd_T48 l i).f3) ((rd_T48 l i).f4) ((rd_T48 l i).f5) (l.length : Int)).bind fun t126 => (if t126 = 0 then (check_Check.l2 k t l T T.length t l l.length (wrap64 (i + 1)) R T) else (some (t, i, t126)))) else (none)) else (none)) else (check_Check.l1 k T T.length (wrap64 (t + 1)) R T) := rfl
theorem l2_more {k k' : Nat} (h : k ≤ k') {t : Int} {l : List S48} {i : Int} {y : Int × Int × Int} (hk : check_Check.l2 k t l T T.length t l l.length i R T = some y) : check_Check.l2 k' t l T T.length t l l.length i R T = some y :=
  at_rounds (g := fun k => check_Check.l2 k t l T T.length t l l.length i R T) (fun k => (check_Check.mono_l k).2.2.2 _ _ _ _ _ _ _ _ _ _) h hk
theorem instr_e {k : Nat} {x : S48} {n e : Int} (h : check_instr.f k R T x.f0 x.f1 x.f2 x.f3 x.f4 x.f5 n = some e) : e = insE R x n :=
  Option.some.inj ((at_rounds (g := fun k => check_instr.f k R T x.f0 x.f1 x.f2 x.f3 x.f4 x.f5 n) (fun k => check_instr.mono _ _ _ _ _ _ _ _ _ k) (show k ≤ k + 6 by omega) h).symm.trans (cInstr_eq k R T x n))
/-- Behind threads that are right the program's answer is what stands behind. -/
theorem beh (hl : ∀ t : Int, 0 ≤ t → t < T.length → rd_L4 T' t = rd_L4 T t) (hn : T.length ≤ T'.length) (hsz : T.length ≤ 100) (hth : ∀ t : Int, 0 ≤ t → t < T.length → (rd_L4 T t).length ≤ 300) (y : Int × Int × Int) (H : ∃ k', check_Check.l1 k' T' T'.length T.length R T' = some y) : ∀ k,
    (∀ (t a b : Int), 0 ≤ t → t ≤ T.length → check_Check.l1 k T T.length t R T = some (a, b, 0) → ∃ k'', check_Check.l1 k'' T' T'.length t R T' = some y) ∧
    (∀ (t i a b : Int), 0 ≤ t → t < T.length → check_Check.l2 k t (rd_L4 T t) T T.length t (rd_L4 T t) (rd_L4 T t).length i R T = some (a, b, 0) → ∃ k'', check_Check.l2 k'' t (rd_L4 T t) T' T'.length t (rd_L4 T t) (rd_L4 T t).length i R T' = some y)
  | 0 => ⟨fun t a b _ _ h => by simp [check_Check.l1] at h, fun t i a b _ _ h => by simp [check_Check.l2] at h⟩
  | k + 1 => by
    obtain ⟨ih1, ih2⟩ := beh hl hn hsz hth y H k
    refine ⟨fun t a b h0 h1 h => ?_, fun t i a b h0 h1 h => ?_⟩
    · rw [l1_e] at h
      by_cases h2 : t < (T.length : Int)
      · rw [if_pos h2, if_pos h0, if_pos h2] at h
        by_cases h3 : ((rd_L4 T t).length : Int) > 256
        · rw [if_pos h3] at h; cases h
        · rw [if_neg h3] at h
          obtain ⟨k2, hk2⟩ := ih2 t 0 a b h0 h2 h
          refine ⟨k2 + 1, ?_⟩
          rw [l1_e, if_pos (by omega), if_pos h0, if_pos (by omega), hl t h0 h2, if_neg h3]
          exact hk2
      · have e : t = T.length := by omega
        subst e; exact H
    · rw [l2_e] at h
      by_cases h2 : i < ((rd_L4 T t).length : Int)
      · rw [if_pos h2] at h
        by_cases h3 : 0 ≤ i
        · rw [if_pos h3, if_pos h2] at h
          cases hi : check_instr.f k R T ((rd_T48 (rd_L4 T t) i).f0) ((rd_T48 (rd_L4 T t) i).f1) ((rd_T48 (rd_L4 T t) i).f2) ((rd_T48 (rd_L4 T t) i).f3) ((rd_T48 (rd_L4 T t) i).f4) ((rd_T48 (rd_L4 T t) i).f5) ((rd_L4 T t).length : Int) with
          | none => rw [hi] at h; cases h
          | some e =>
            have he := instr_e R T hi
            rw [hi] at h
            simp only [Option.bind_some] at h
            by_cases h4 : e = 0
            · rw [if_pos h4] at h
              obtain ⟨k2, hk2⟩ := ih2 t _ a b h0 h1 h
              refine ⟨k2 + 6 + 1, ?_⟩
              rw [l2_e, if_pos h2, if_pos h3, if_pos h2, cInstr_eq k2 R T' _ _]
              simp only [Option.bind_some]
              rw [← he, if_pos h4]
              exact l2_more R T' (by omega) hk2
            · rw [if_neg h4] at h
              exfalso
              injection h with h
              injection h with _ h
              injection h with _ h
              exact h4 h
        · rw [if_neg h3] at h; cases h
      · rw [if_neg h2] at h
        obtain ⟨k2, hk2⟩ := ih1 (t + 1) a b (by omega) (by omega) (by rw [w64 h0 (by omega)] at h; exact h)
        refine ⟨k2 + 1, ?_⟩
        rw [l2_e, if_neg h2, w64 h0 (by omega)]
        exact hk2
theorem beh0 (T2 : List (List S48)) (hR : R.length ≤ 100) (y : Int × Int × Int) (H : ∃ k', check_Check.l1 k' T2 T2.length 0 R T2 = some y) : ∀ k i a b, 0 ≤ i → check_Check.l0 k R R.length i R T = some (a, b, 0) → (∃ k', check_Check.l1 k' T T.length 0 R T = some (a, b, 0)) ∧ ∃ k'', check_Check.l0 k'' R R.length i R T2 = some y
  | 0, i, a, b, _, h => by simp [check_Check.l0] at h
  | k + 1, i, a, b, h0, h => by
    have e : ∀ (k : Nat) (T : List (List S48)), check_Check.l0 (k + 1) R R.length i R T = if i < (R.length : Int) then (if 0 ≤ i then (if i < (R.length : Int) then ((check_ring.f ((rd_T55 R i).f0) ((rd_T55 R i).f1) ((rd_T55 R i).f2)).bind fun t122 => (if t122 = true then (check_Check.l0 k R R.length (wrap64 (i + 1)) R T) else (some ((-1), i, 7)))) else (none)) else (none)) else (check_Check.l1 k T T.length 0 R T) := fun _ _ => rfl
    rw [e] at h
    by_cases h1 : i < (R.length : Int)
    · rw [if_pos h1, if_pos h0, if_pos h1] at h
      obtain ⟨r, hr⟩ := ring_some ((rd_T55 R i).f0) ((rd_T55 R i).f1) ((rd_T55 R i).f2)
      rw [hr] at h
      simp only [Option.bind_some] at h
      cases r with
      | false => rw [if_neg (by decide)] at h; cases h
      | true =>
        rw [if_pos rfl] at h
        obtain ⟨g1, k2, hk2⟩ := beh0 T2 hR y H k (wrap64 (i + 1)) a b (by rw [w64 h0 (by omega)]; omega) h
        refine ⟨g1, k2 + 1, ?_⟩
        rw [e, if_pos h1, if_pos h0, if_pos h1, hr]
        simp only [Option.bind_some]
        rw [if_pos trivial]
        exact hk2
    · rw [if_neg h1] at h
      obtain ⟨k', hk'⟩ := H
      exact ⟨⟨k, h⟩, k' + 1, by rw [e, if_neg h1]; exact hk'⟩
/-- The last thread: what is wrong with it is told wherever it stands. -/
theorem last2 (M : List S48) (hM : M.length ≤ 256) (Ta Tb : List (List S48)) (ta tb : Int) (ha0 : 0 ≤ ta) (hb0 : 0 ≤ tb) (ha : ta + 1 = Ta.length) (hb : tb + 1 = Tb.length) (hsa : Ta.length ≤ 100) (hsb : Tb.length ≤ 100) : ∀ (d : Nat) (i : Int), 0 ≤ i → i ≤ M.length → (M.length : Int) - i = d →
    ∃ k at_ e, check_Check.l2 k ta M Ta Ta.length ta M M.length i R Ta = some (if e = 0 then (0, 0, 0) else (ta, at_, e)) ∧ check_Check.l2 k tb M Tb Tb.length tb M M.length i R Tb = some (if e = 0 then (0, 0, 0) else (tb, at_, e)) := by
  intro d
  induction d with
  | zero =>
    intro i h0 h1 hd
    refine ⟨2, 0, 0, ?_, ?_⟩
    · rw [l2_e, if_neg (by omega), l1_e, w64 ha0 (by omega), if_neg (by omega)]; rfl
    · rw [l2_e, if_neg (by omega), l1_e, w64 hb0 (by omega), if_neg (by omega)]; rfl
  | succ d ih =>
    intro i h0 h1 hd
    obtain ⟨k, at_, e, q1, q2⟩ := ih (i + 1) (by omega) (by omega) (by omega)
    by_cases he : insE R (rd_T48 M i) (M.length : Int) = 0
    · refine ⟨k + 6 + 1, at_, e, ?_, ?_⟩
      · rw [l2_e, if_pos (by omega), if_pos h0, if_pos (by omega), cInstr_eq k R Ta _ _]
        simp only [Option.bind_some]
        rw [if_pos he, w64 h0 (by omega)]
        exact l2_more R Ta (by omega) q1
      · rw [l2_e, if_pos (by omega), if_pos h0, if_pos (by omega), cInstr_eq k R Tb _ _]
        simp only [Option.bind_some]
        rw [if_pos he, w64 h0 (by omega)]
        exact l2_more R Tb (by omega) q2
    · refine ⟨k + 6 + 1, i, insE R (rd_T48 M i) (M.length : Int), ?_, ?_⟩
      · rw [l2_e, if_pos (by omega), if_pos h0, if_pos (by omega), cInstr_eq k R Ta _ _]
        simp only [Option.bind_some]
        rw [if_neg he, if_neg he]
      · rw [l2_e, if_pos (by omega), if_pos h0, if_pos (by omega), cInstr_eq k R Tb _ _]
        simp only [Option.bind_some]
        rw [if_neg he, if_neg he]
theorem last1 (M : List S48) (Ta Tb : List (List S48)) (ta tb : Int) (ha0 : 0 ≤ ta) (hb0 : 0 ≤ tb) (ha : ta + 1 = Ta.length) (hb : tb + 1 = Tb.length) (hsa : Ta.length ≤ 100) (hsb : Tb.length ≤ 100) (hra : rd_L4 Ta ta = M) (hrb : rd_L4 Tb tb = M) :
    ∃ k at_ e, check_Check.l1 k Ta Ta.length ta R Ta = some (if e = 0 then (0, 0, 0) else (ta, at_, e)) ∧ check_Check.l1 k Tb Tb.length tb R Tb = some (if e = 0 then (0, 0, 0) else (tb, at_, e)) := by
  by_cases h3 : (M.length : Int) > 256
  · refine ⟨1, 256, 4, ?_, ?_⟩
    · rw [l1_e, if_pos (by omega), if_pos ha0, if_pos (by omega), hra, if_pos h3]; rfl
    · rw [l1_e, if_pos (by omega), if_pos hb0, if_pos (by omega), hrb, if_pos h3]; rfl
  · obtain ⟨k, at_, e, q1, q2⟩ := last2 R M (by omega) Ta Tb ta tb ha0 hb0 ha hb hsa hsb M.length 0 (Int.le_refl _) (by omega) (by omega)
    refine ⟨k + 1, at_, e, ?_, ?_⟩
    · rw [l1_e, if_pos (by omega), if_pos ha0, if_pos (by omega), hra, if_neg h3]; exact q1
    · rw [l1_e, if_pos (by omega), if_pos hb0, if_pos (by omega), hrb, if_neg h3]; exact q2
theorem rd_app (M : List S48) (t : Int) (h0 : 0 ≤ t) (h1 : t < T.length) : rd_L4 (T ++ [M]) t = rd_L4 T t := by
  unfold rd_L4
  have h : t.toNat < T.length := by omega
  simp [List.getD, List.getElem?_append_left h]
theorem rd_new (M : List S48) : rd_L4 (T ++ [M]) T.length = M := by unfold rd_L4; simp [List.getD]
/-- A right program with one thread more. -/
theorem more_eq (M : List S48) (hT7 : T.length ≤ 7) (hth : ∀ t : Int, 0 ≤ t → t < T.length → (rd_L4 T t).length ≤ 300) (k : Nat) (a b : Int) (h : check_Check.f k R T = some (a, b, 0)) :
    ∃ k at_ e, check_Check.f k R (T ++ [M]) = some (if e = 0 then (0, 0, 0) else ((T.length : Int), at_, e)) ∧ check_Check.f k R [M] = some (if e = 0 then (0, 0, 0) else (0, at_, e)) := by
  have hR : R.length ≤ 8 ∧ 0 < T.length ∧ ∃ k, check_Check.l0 k R R.length 0 R T = some (a, b, 0) := by
    unfold check_Check.f at h
    have j1 : ∀ c, check_Check.j0 k true R T = some (a, b, c) → c = 1 := fun c hc => by
      cases k with
      | zero => simp [check_Check.j0] at hc
      | succ k =>
        have e : check_Check.j0 (k + 1) true R T = some (0, 0, 1) := rfl
        rw [e] at hc
        injection hc with hc
        injection hc with _ hc
        injection hc with _ hc
        exact hc.symm
    by_cases h1 : (T.length : Int) = 0
    · rw [if_pos h1] at h; have := j1 _ h; omega
    · rw [if_neg h1] at h
      rw [if_neg (by omega)] at h
      by_cases h3 : (R.length : Int) > 8
      · rw [decide_eq_true h3] at h; have := j1 _ h; omega
      · rw [decide_eq_false h3] at h
        refine ⟨by omega, by omega, ?_⟩
        cases k with
        | zero => simp [check_Check.j0] at h
        | succ k =>
          have e : check_Check.j0 (k + 1) false R T = check_Check.l0 k R (R.length : Int) 0 R T := rfl
          rw [e] at h
          exact ⟨k, h⟩
  obtain ⟨hR8, hT0, k0, h0⟩ := hR
  have hlen : (T ++ [M]).length = T.length + 1 := by simp
  obtain ⟨kl, at_, e, q1, q2⟩ := last1 R M (T ++ [M]) [M] T.length 0 (by omega) (Int.le_refl _) (by rw [hlen]; omega) rfl (by rw [hlen]; omega) (by simp) (rd_new T M) rfl
  -- the single thread
  obtain ⟨⟨k1, h1⟩, ks, hs⟩ := beh0 R T [M] (by omega) _ ⟨kl, q2⟩ k0 0 a b (Int.le_refl _) h0
  -- all threads
  obtain ⟨kb, hb⟩ := (beh R T (T ++ [M]) (fun t g0 g1 => rd_app T M t g0 g1) (by rw [hlen]; omega) (by omega) hth _ ⟨kl, q1⟩ k1).1 0 a b (Int.le_refl _) (by omega) h1
  obtain ⟨-, kq, hq⟩ := beh0 R T (T ++ [M]) (by omega) _ ⟨kb, hb⟩ k0 0 a b (Int.le_refl _) h0
  have fin : ∀ (k k' : Nat) (T2 : List (List S48)) (y : Int × Int × Int), 0 < T2.length → T2.length ≤ 8 → k ≤ k' → check_Check.l0 k R R.length 0 R T2 = some y → check_Check.f (k' + 1) R T2 = some y := fun k k' T2 y g1 g2 g3 hk => by
    unfold check_Check.f
    rw [if_neg (by omega), if_neg (by omega), decide_eq_false (by omega)]
    have e : check_Check.j0 (k' + 1) false R T2 = check_Check.l0 k' R (R.length : Int) 0 R T2 := rfl
    rw [e]
    exact at_rounds (g := fun k => check_Check.l0 k R R.length 0 R T2) (fun k => (check_Check.mono_l k).2.1 _ _ _ _ _) g3 hk
  refine ⟨kq + ks + 1, at_, e, fin kq _ _ _ (by rw [hlen]; omega) (by rw [hlen]; omega) (by omega) hq, fin ks _ _ _ (by simp) (by simp) (by omega) hs⟩
end
end Go.Proofs.Ythoejimgdhfmiaa.H
