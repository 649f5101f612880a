/- Layer 13: ring's Load, whatever it is asked. No condition. -/
import Derived.Test.YtmejnhfggmmefaaRgG
namespace Go.Proofs.Ytmejnhfggmmefaa.H
open Go.RowKit
set_option linter.unusedVariables false
set_option linter.unusedSimpArgs false
variable {w : World}

def rLoadsB (k c R T : Int) (H : List Int) (M : List Sl) : Bool :=
  rMay k c R && (loadB c R M && (((H.length : Int) == R) && (decide (T < 4611686018427387904) && (headsB T c H && placesB T c H M))))
def RLoadPost (w : World) (k c R T : Int) (H : List Int) (cl : Bool) (M : List Sl) (e : Ending) (w' : World) : Prop :=
  (rLoadsB k c R T H M = true ∧ ∃ B, e = .returned (.tuple #[.pointer (some ⟨B.g, 0, none⟩), .int .i64 0]) ∧ RingIn w' B ⟨T, H, cl, M⟩ ∧ (∀ i, B.own i → w.heap.size ≤ i) ∧ Kp no w w') ∨
  (rLoadsB k c R T H M = false ∧ e = .returned (.tuple #[.pointer none, .int .i64 (if rMay k c R then 3 else 1)]) ∧ Kp no w w')
theorem rd_form0 {w : World} {v : Value} {n : Nat} {xs : List Value} (h : Rd w v n xs) : ∃ A c, v = .slice A n c := by
  obtain ⟨A, c, rfl, _⟩ := h; exact ⟨_, _, rfl⟩
theorem RLoad_any (k c R : Int) {v1 v2 : Value} (T : Int) (cl : Bool) (H : List Int) (M : List Sl) (hwf : ∀ x ∈ M, 0 ≤ x.st ∧ x.st < 18446744073709551616)
    (hH : Rd w v1 H.length (u64s H)) (hHw : ∀ x ∈ H, 0 ≤ x ∧ x < 18446744073709551616) (hM : Rd w v2 M.length (slCells M)) (hT0 : 0 ≤ T) :
    Calls Try.prog 56 #[.agg #[.int .i64 k, .int .i64 c, .int .i64 R], .agg #[.int .u64 T, v1, .bool cl, v2]] w (RLoadPost w k c R T H cl M) := by
  obtain ⟨A1, c1, rfl⟩ := rd_form0 hH
  obtain ⟨A2, c2, rfl⟩ := rd_form0 hM
  cases hm : rMay k c R with
  | false =>
    refine (RLoad_may k c R hm (.bool false) (.bool false) (.bool false) (.bool false) A1 A2 H.length c1 M.length c2 T cl).mono ?_
    rintro e w' ⟨rfl, hK⟩
    exact .inr ⟨by unfold rLoadsB; rw [hm]; rfl, by rw [hm]; rfl, hK⟩
  | true =>
    have h1 : mayB c R = true := by unfold rMay at hm; rw [Bool.and_eq_true] at hm; exact hm.1
    have h3 : 1 ≤ c ∧ c ≤ 64 ∧ 1 ≤ R ∧ R ≤ 8 := of_decide_eq_true h1
    obtain ⟨p, rfl⟩ := Int.eq_ofNat_of_zero_le (show 0 ≤ c by omega)
    obtain ⟨q, rfl⟩ := Int.eq_ofNat_of_zero_le (show 0 ≤ R by omega)
    by_cases hbad : loadB p q M = false ∨ H.length ≠ q ∨ ¬ T < 4611686018427387904
    · refine (RLoad_form k p q hm A1 H.length c1 T cl M hwf hM hbad).mono ?_
      rintro e w' ⟨rfl, hK⟩
      refine .inr ⟨?_, by rw [hm]; rfl, hK⟩
      unfold rLoadsB
      rcases hbad with h | h | h
      · rw [h]; simp
      · rw [show ((H.length : Int) == (q : Int)) = false from by simp; omega]; simp
      · rw [decide_eq_false h]; simp
    · have hl : loadB p q M = true := by
        cases h : loadB p q M with
        | true => rfl
        | false => exact absurd (.inl h) hbad
      have hq : H.length = q := Classical.byContradiction fun h => hbad (.inr (.inl h))
      have hT : T < 4611686018427387904 := Classical.byContradiction fun h => hbad (.inr (.inr h))
      have hML : M.length = p := by
        have h2 := hl
        unfold loadB at h2
        rw [Bool.and_eq_true] at h2
        have h5 := beq_iff_eq.1 h2.1
        omega
      obtain ⟨ab, ao, c', he, _, _, hcells⟩ := hM.form (by rw [slCells_len]; omega)
      injection he with he1 he2 he3
      subst he1 he3
      refine (RLoad_main k p q hm ab ao T cl H M hwf hH hHw hM hcells hl hq hT0 hT).mono ?_
      rintro e w' (⟨a1, a2, B, rfl, hR, hn, hK⟩ | ⟨a1, rfl, hK⟩)
      · refine .inl ⟨?_, B, rfl, hR, hn, hK⟩
        unfold rLoadsB
        rw [hm, hl, hq, decide_eq_true hT, a1, a2]; simp
      · refine .inr ⟨?_, by rw [hm]; rfl, hK⟩
        unfold rLoadsB
        rw [a1]; simp
end Go.Proofs.Ytmejnhfggmmefaa.H
