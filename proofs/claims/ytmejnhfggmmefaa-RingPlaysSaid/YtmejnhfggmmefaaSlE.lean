/- Layer 12: what slots' right and Load do. No condition. -/
import Derived.Test.YtmejnhfggmmefaaSlD
namespace Go.Proofs.Ytmejnhfggmmefaa.H
open Go.RowKit
set_option linter.unusedVariables false
set_option linter.unusedSimpArgs false
variable {w : World} {g b cap : Nat} {L : List Sl} {R : Nat} {t j : Int}

def rightB (i p r : Int) (x : Sl) : Bool :=
  decide (x.st < 9223372036854775808) && (x.st / 2 % p == i) && (if x.st % 2 = 0 then (x.v == 0) && (x.left == 0) else decide (1 ≤ x.left) && decide (x.left < 2 ^ r.toNat))

set_option maxRecDepth 100000 in
set_option maxHeartbeats 3200000 in
theorem right_any (i p r : Int) (x : Sl) (hi0 : 0 ≤ i) (hi1 : i ≤ 64) (hp0 : 1 ≤ p) (hp1 : p ≤ 64) (hr0 : 0 ≤ r) (hr1 : r ≤ 8) (h0 : 0 ≤ x.st) (h1 : x.st < 18446744073709551616) :
    Calls Try.prog 91 #[.int .i64 i, .int .i64 p, .int .i64 r, .agg #[.int .u64 x.st, .int .u64 x.v, .int .i64 x.left]] w fun e w' => e = .returned (.bool (rightB i p r x)) ∧ Kp no w w' := by
  obtain ⟨s, v, l⟩ := x
  change 0 ≤ s at h0
  change s < _ at h1
  show Calls Try.prog 91 #[.int .i64 i, .int .i64 p, .int .i64 r, .agg #[.int .u64 s, .int .u64 v, .int .i64 l]] w _
  have hwi : IntKind.u64.wrap i = i := by rw [IntKind.wrap_u64]; omega
  have hwp : IntKind.u64.wrap p = p := by rw [IntKind.wrap_u64]; omega
  have hpn : ¬ p = 0 := by omega
  have ht1 : Int.tdiv s 2 = s / 2 := Int.tdiv_eq_ediv_of_nonneg h0
  have ht2 : Int.tmod (s / 2) p = s / 2 % p := Int.tmod_eq_emod_of_nonneg (by omega)
  have ht3 : Int.tmod s 2 = s % 2 := Int.tmod_eq_emod_of_nonneg h0
  have hw2 : IntKind.u64.wrap (s / 2) = s / 2 := by rw [IntKind.wrap_u64]; omega
  by_cases c1 : s < 9223372036854775808
  · have d1 : decide (9223372036854775808 ≤ s) = false := decide_eq_false (by omega)
    by_cases c2 : s / 2 % p = i
    · have d2 : (s / 2 % p != i) = false := by simpa using c2
      by_cases c3 : s % 2 = 0
      · have d3 : (s % 2 == 0) = true := by simpa using c3
        have e : rightB i p r ⟨s, v, l⟩ = ((v == 0) && (l == 0)) := by simp [rightB, c1, c2, c3]
        rw [e]
        clear e c1 c2 c3 h1 hi0 hi1 hp0 hp1
        by_cases c4 : v = 0
        · subst c4
          go_enter Try.func91, Try.ntmps91
          go_wp2
          go_ret
          exact ⟨by simp, by repeat (first | exact Kp.refl _ _ | refine Kp.alloc ?_ _ | refine Kp.drew ?_ | refine Kp.drewN ?_ _)⟩
        · have d4 : (v == 0) = false := by simpa using c4
          clear c4
          go_enter Try.func91, Try.ntmps91
          go_wp2
          go_ret
          exact ⟨by simp [d4], by repeat (first | exact Kp.refl _ _ | refine Kp.alloc ?_ _ | refine Kp.drew ?_ | refine Kp.drewN ?_ _)⟩
      · have d3 : (s % 2 == 0) = false := by simpa using c3
        have e : rightB i p r ⟨s, v, l⟩ = (decide (1 ≤ l) && decide (l < 2 ^ r.toNat)) := by simp [rightB, c1, c2, c3]
        rw [e]
        have hmin : min r.toNat 64 = r.toNat := by omega
        have hwr : IntKind.i64.wrap (2 ^ r.toNat) = 2 ^ r.toNat := by
          have q1 := pow_le8 (R := r.toNat) (by omega); have q2 := pow_pos' r.toNat; rw [IntKind.wrap_i64]; omega
        clear e c1 c2 c3 h1 hi0 hi1 hp0 hp1
        by_cases c4 : 1 ≤ l
        · have d4 : decide (1 ≤ l) = true := decide_eq_true c4
          clear c4
          go_enter Try.func91, Try.ntmps91
          go_wp2
          go_quiet (fail)
          go_wp2
          go_ret
          exact ⟨by simp [d4], by repeat (first | exact Kp.refl _ _ | refine Kp.alloc ?_ _ | refine Kp.drew ?_ | refine Kp.drewN ?_ _)⟩
        · have d4 : decide (1 ≤ l) = false := decide_eq_false c4
          clear c4
          go_enter Try.func91, Try.ntmps91
          go_wp2
          go_quiet (fail)
          go_wp2
          go_ret
          exact ⟨by simp [d4], by repeat (first | exact Kp.refl _ _ | refine Kp.alloc ?_ _ | refine Kp.drew ?_ | refine Kp.drewN ?_ _)⟩
    · have d2 : (s / 2 % p != i) = true := by simpa using c2
      have e : rightB i p r ⟨s, v, l⟩ = false := by simp [rightB, c2]
      rw [e]
      clear e c1 c2 h1 hi0 hi1 hp0 hp1
      go_enter Try.func91, Try.ntmps91
      go_wp2
      go_ret
      exact ⟨rfl, by repeat (first | exact Kp.refl _ _ | refine Kp.alloc ?_ _ | refine Kp.drew ?_ | refine Kp.drewN ?_ _)⟩
  · have d1 : decide (9223372036854775808 ≤ s) = true := decide_eq_true (by omega)
    have e : rightB i p r ⟨s, v, l⟩ = false := by simp [rightB, c1]
    rw [e]
    clear e c1 h1 hi0 hi1 hp0 hp1
    go_enter Try.func91, Try.ntmps91
    go_wp2
    go_ret
    exact ⟨rfl, by repeat (first | exact Kp.refl _ _ | refine Kp.alloc ?_ _ | refine Kp.drew ?_ | refine Kp.drewN ?_ _)⟩
end Go.Proofs.Ytmejnhfggmmefaa.H
