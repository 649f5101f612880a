/- Layer 11: the reference's Next; a row of bools of one's own. No condition. -/
import Derived.Test.YthoejimgdhfmiaaChkN
import Derived.Test.YthoejimgdhfmiaaChkR
import Derived.Laws.MakeOwn
namespace Go.Proofs.Ythoejimgdhfmiaa.H
open Go.RowKit Go.Proofs.Ythoejimgdhfmiaa.PCheckTells Go.Proofs.YthoejimgdhfmiaaW.PrintWords Go.Proofs.YthoejimgdhfmiaaW.PrintLast Go.Proofs.YthoejimgdhfmiaaW.PrintMore
set_option linter.unusedVariables false
set_option linter.unusedSimpArgs false
variable {w : World}

/-- the two places, -1: none -/
def nxA (l : List S48) (i : Nat) : Int := if i = l.length ∨ (l.getD i z48).f0 = 25 then -1 else if (l.getD i z48).f0 = 15 ∨ (l.getD i z48).f0 = 16 ∨ (l.getD i z48).f0 = 17 then (l.getD i z48).f5 else (i : Int) + 1
def nxB (l : List S48) (i : Nat) : Int := if i = l.length ∨ (l.getD i z48).f0 = 25 then -1 else if (l.getD i z48).f0 = 16 ∨ (l.getD i z48).f0 = 17 then (i : Int) + 1 else -1
theorem nx_AB {l : List S48} (hl : okJ l) {i : Nat} (hi : i ≤ l.length) (j : Nat) : j ∈ nx l i ↔ (j : Int) = nxA l i ∨ (j : Int) = nxB l i := by
  unfold nx nxA nxB
  by_cases h1 : i = l.length ∨ (l.getD i z48).f0 = 25
  · rw [if_pos h1, if_pos h1, if_pos h1]
    exact ⟨fun h => (by cases h), fun h => (by omega)⟩
  · have h1' : ¬ i = l.length := fun e => h1 (Or.inl e)
    have h1'' : ¬ (l.getD i z48).f0 = 25 := fun e => h1 (Or.inr e)
    rw [if_neg h1, if_neg h1, if_neg h1]
    have hj := hl.2 i (by omega)
    generalize l.getD i z48 = x at hj h1''
    by_cases h2 : x.f0 = 15
    · have := hj (by omega) (by omega)
      rw [if_pos h2, if_pos (Or.inl h2), if_neg (by omega)]
      simp only [List.mem_singleton]
      omega
    · rw [if_neg h2]
      by_cases h3 : 15 ≤ x.f0 ∧ x.f0 ≤ 17
      · have := hj (by omega) (by omega)
        rw [if_pos h3, if_pos (by omega), if_pos (by omega)]
        simp only [List.mem_cons, List.not_mem_nil, or_false]
        omega
      · rw [if_neg h3, if_neg (by omega), if_neg (by omega)]
        simp only [List.mem_singleton]
        omega
theorem nxA_le {l : List S48} (hl : okJ l) {i : Nat} (hi : i ≤ l.length) : -1 ≤ nxA l i ∧ nxA l i ≤ l.length := by
  unfold nxA
  by_cases h1 : i = l.length ∨ (l.getD i z48).f0 = 25
  · rw [if_pos h1]; omega
  · have h1' : ¬ i = l.length := fun e => h1 (Or.inl e)
    rw [if_neg h1]
    have hj := hl.2 i (by omega)
    generalize l.getD i z48 = x at hj
    by_cases h2 : x.f0 = 15 ∨ x.f0 = 16 ∨ x.f0 = 17
    · have := hj (by omega) (by omega)
      rw [if_pos h2]; omega
    · rw [if_neg h2]; omega
theorem nxB_le {l : List S48} {i : Nat} (hi : i ≤ l.length) : -1 ≤ nxB l i ∧ nxB l i ≤ l.length := by
  unfold nxB
  by_cases h1 : i = l.length ∨ (l.getD i z48).f0 = 25
  · rw [if_pos h1]; omega
  · have h1' : ¬ i = l.length := fun e => h1 (Or.inl e)
    rw [if_neg h1]
    split <;> omega
set_option maxRecDepth 100000 in
set_option maxHeartbeats 6400000 in
theorem Next_any {A : Option Addr} {c : Nat} {l : List S48} {i : Nat} (hC : Kd.C k48 w A l.length l) (hJ : okJ l) (hi : i ≤ l.length) :
    Calls Try.prog 21 #[.slice A l.length c, .int .i64 (i : Int)] w fun e w' => e = .returned (.tuple #[.int .i64 (nxA l i), .int .i64 (nxB l i)]) ∧ QD w w' := by
  have hlen : l.length ≤ 256 := hJ.1
  have hnn : (0 : Int) ≤ (i : Int) := by omega
  by_cases h1 : i = l.length
  · have hx : nxA l i = -1 := by unfold nxA; rw [if_pos (Or.inl h1)]
    have hy : nxB l i = -1 := by unfold nxB; rw [if_pos (Or.inl h1)]
    rw [hx, hy]
    subst h1
    clear hC hJ hi hx hy
    go_enter Try.func21, Try.ntmps21
    go_wp2_with fail
    go_ret2
    exact ⟨rfl, QD.refl _⟩
  · obtain ⟨b, o, rfl, hfs⟩ := C48_cells hC (by omega)
    obtain ⟨f0, f1, f2, f3, f4, f5⟩ := hfs i (by omega)
    have hj := hJ.2 i (by omega)
    have hlt : (i : Int) < (l.length : Int) := by omega
    have hne : ¬ (i : Int) = (l.length : Int) := by omega
    have hw : wrap64 ((i : Int) + 1) = (i : Int) + 1 := w64 (by omega) (by omega)
    by_cases h25 : (l.getD i z48).f0 = 25
    · have hx : nxA l i = -1 := by unfold nxA; rw [if_pos (Or.inr h25)]
      have hy : nxB l i = -1 := by unfold nxB; rw [if_pos (Or.inr h25)]
      rw [hx, hy]
      rw [h25] at f0
      clear hC hJ hi hx hy hfs hj hw
      go_enter Try.func21, Try.ntmps21
      go_wp2_with fail
      go_ret2
      exact ⟨rfl, QD.refl _⟩
    · have hA : nxA l i = if (l.getD i z48).f0 = 15 ∨ (l.getD i z48).f0 = 16 ∨ (l.getD i z48).f0 = 17 then (l.getD i z48).f5 else (i : Int) + 1 := by unfold nxA; rw [if_neg (fun e => e.elim h1 h25)]
      have hB : nxB l i = if (l.getD i z48).f0 = 16 ∨ (l.getD i z48).f0 = 17 then (i : Int) + 1 else -1 := by unfold nxB; rw [if_neg (fun e => e.elim h1 h25)]
      generalize l.getD i z48 = x at f0 f1 f2 f3 f4 f5 hj hA hB h25
      by_cases h15 : x.f0 = 15
      · rw [if_pos (Or.inl h15)] at hA
        rw [if_neg (by omega)] at hB
        rw [hA, hB]
        have hk := hj (by omega) (by omega)
        have hkw : wrap64 x.f5 = x.f5 := by unfold wrap64; omega
        rw [h15] at f0
        clear hC hJ hi hA hB hfs hj hw h25 hk
        go_enter Try.func21, Try.ntmps21
        go_wp2_with fail
        go_ret2
        exact ⟨(by go_num), QD.refl _⟩
      · by_cases h16 : x.f0 = 16 ∨ x.f0 = 17
        · rw [if_pos (Or.inr h16)] at hA
          rw [if_pos h16] at hB
          rw [hA, hB]
          have hk := hj (by omega) (by omega)
          have hkw : wrap64 x.f5 = x.f5 := by unfold wrap64; omega
          rcases h16 with e | e
          all_goals
            rw [e] at f0
            clear hC hJ hi hA hB hfs hj h25 hk
            go_enter Try.func21, Try.ntmps21
            go_wp2_with fail
            go_ret2
            exact ⟨(by go_num), QD.refl _⟩
        · rw [if_neg (by omega)] at hA
          rw [if_neg h16] at hB
          rw [hA, hB]
          have h6 : (x.f0 == 16) = false := beq_eq_false_iff_ne.2 fun e => h16 (Or.inl e)
          have h7 : (x.f0 == 17) = false := beq_eq_false_iff_ne.2 fun e => h16 (Or.inr e)
          have h8 : (x.f0 == 15) = false := beq_eq_false_iff_ne.2 h15
          have h9 : (x.f0 == 25) = false := beq_eq_false_iff_ne.2 h25
          clear hC hJ hi hA hB hfs hj h16 h15 h25
          go_enter Try.func21, Try.ntmps21
          go_wp2_with fail
          go_ret2
          exact ⟨(by go_num), QD.refl _⟩
end Go.Proofs.Ythoejimgdhfmiaa.H
