/- Layer 8, AluDivides, the pure part: a quotient times the divisor, and the rest, is the number. No condition. -/
import Derived.Test.YtmpdghokggdnoaaPAluDividesx1
import Derived.Laws.Bits64
namespace Go.Proofs.Ytmpdghokggdnoaa.Pure
open Go.RowKit Go.Proofs.Ytmpdghokggdnoaa.PAluDivides Go.Proofs.YtmpdghokggdnoaaW.PrintWords Go.Proofs.YtmpdghokggdnoaaW.PrintLast

theorem div_awake : rondeaulaw08_awake.f 40 = some true := by decide +kernel
theorem div_wf {a : Int} (h : (Lit.int .u64 a).wf = true) : 0 ≤ a ∧ a < 18446744073709551616 := by
  simp [Lit.wf, IntKind.min, IntKind.max, IntKind.signed, IntKind.bits] at h; omega
theorem div_w {n : Int} (h0 : 0 ≤ n) (h1 : n < 18446744073709551616) : IntKind.u64.wrap n = n := by
  rw [IntKind.wrap_u64]; omega

theorem AluDivides : rondeaulaw08_AluDivides.Pure := by
  intro a b ha hb
  obtain ⟨ha0, ha1⟩ := div_wf ha
  obtain ⟨hb0, hb1⟩ := div_wf hb
  refine ⟨40, ?_⟩
  unfold rondeaulaw08_AluDivides.f rondeaulaw08_do.f alu_Do.f alu_quotient.f alu_rest.f
  simp only [div_awake]
  by_cases h : b = 0
  · subst h; rfl
  · have hp : 0 < b := by omega
    have e1 : Int.tdiv a b = a / b := Int.tdiv_eq_ediv_of_nonneg ha0
    have e2 : Int.tmod a b = a % b := Int.tmod_eq_emod_of_nonneg ha0
    have q0 : 0 ≤ a / b := Int.ediv_nonneg ha0 hb0
    have q1 : a / b ≤ a := Int.ediv_le_self b ha0
    have r0 : 0 ≤ a % b := Int.emod_nonneg a h
    have r1 : a % b < b := Int.emod_lt_of_pos a hp
    have s : a / b * b + a % b = a := by rw [Int.mul_comm]; exact Int.mul_ediv_add_emod a b
    have m0 : 0 ≤ a / b * b := Int.mul_nonneg q0 hb0
    rw [e1, e2, div_w q0 (by omega)]
    simp [h, r1, div_w m0 (by omega), s, div_w ha0 ha1, q1]
end Go.Proofs.Ytmpdghokggdnoaa.Pure
