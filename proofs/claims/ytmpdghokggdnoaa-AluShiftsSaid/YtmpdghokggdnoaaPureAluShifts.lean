/- Layer 8, AluShifts, the pure part: a shift by two numbers, one behind the other, is one by both; to the left and back the lower bits are left. No condition. -/
import Derived.Test.YtmpdghokggdnoaaPAluShiftsx1
import Derived.Laws.Bits64
import Derived.Laws.BitsAllLaws
namespace Go.Proofs.Ytmpdghokggdnoaa.Pure
open Go.RowKit Go.Proofs.Ytmpdghokggdnoaa.PAluShifts Go.Proofs.YtmpdghokggdnoaaW.PrintWords Go.Proofs.YtmpdghokggdnoaaW.PrintLast Go.Proofs.YtmpdghokggdnoaaW.PrintMore

theorem sh_awake : rondeaulaw08_awake.f 40 = some true := by decide +kernel
theorem sh_wf {a : Int} (h : (Lit.int .u64 a).wf = true) : 0 ≤ a ∧ a < 18446744073709551616 := by
  simp [Lit.wf, IntKind.min, IntKind.max, IntKind.signed, IntKind.bits] at h; omega
theorem sh_wf8 {a : Int} (h : (Lit.int .u8 a).wf = true) : 0 ≤ a ∧ a < 256 := by
  simp [Lit.wf, IntKind.min, IntKind.max, IntKind.signed, IntKind.bits] at h; omega
theorem sh_w {n : Int} (h0 : 0 ≤ n) (h1 : n < 18446744073709551616) : IntKind.u64.wrap n = n := by
  rw [IntKind.wrap_u64]; omega
theorem sh_and {x : Int} (h0 : 0 ≤ x) (h1 : x ≤ 63) : Go.bits .and .u64 x 63 = x := by
  rw [u64_and x 63 h0 (by omega) (by decide) (by decide)]
  have : x.toNat &&& (63 : Int).toNat = x.toNat % 2 ^ 6 := Nat.and_two_pow_sub_one_eq_mod x.toNat 6
  rw [this]; omega
theorem sh_l (a : Int) {x : Int} (h0 : 0 ≤ x) (h1 : x ≤ 63) : rondeaulaw08_do.f 11 a x = some (a * 2 ^ x.toNat % 18446744073709551616) := by
  unfold rondeaulaw08_do.f alu_Do.f shl
  have e : min x.toNat IntKind.u64.bits = x.toNat := by simp [IntKind.bits]; omega
  simp [sh_and h0 h1, h0, e, IntKind.wrap_u64]
theorem sh_r (a : Int) {x : Int} (h0 : 0 ≤ x) (h1 : x ≤ 63) : rondeaulaw08_do.f 12 a x = some (a / 2 ^ x.toNat) := by
  unfold rondeaulaw08_do.f alu_Do.f shr
  have e : min x.toNat IntKind.u64.bits = x.toNat := by simp [IntKind.bits]; omega
  simp [sh_and h0 h1, h0, e]
theorem sh_tm {x : Int} (h0 : 0 ≤ x) : IntKind.u64.wrap (Int.tmod x 64) = x % 64 := by
  rw [Int.tmod_eq_emod_of_nonneg h0, sh_w (by omega) (by omega)]

theorem AluShifts : rondeaulaw08_AluShifts.Pure := by
  intro a i j ha hi hj
  obtain ⟨ha0, ha1⟩ := sh_wf ha
  obtain ⟨hi0, _⟩ := sh_wf8 hi
  obtain ⟨hj0, _⟩ := sh_wf8 hj
  refine ⟨40 + 1, ?_⟩
  have hup : rondeaulaw08_awake.f (40 + 1) = some true := rondeaulaw08_awake.mono _ _ sh_awake
  unfold rondeaulaw08_AluShifts.f
  rw [hup, sh_tm hi0, sh_tm hj0]
  generalize hx : i % 64 = x
  generalize hy : j % 64 = y
  have x0 : 0 ≤ x := by omega
  have x1 : x ≤ 63 := by omega
  have y0 : 0 ≤ y := by omega
  have y1 : y ≤ 63 := by omega
  have es : IntKind.u64.wrap (x + y) = x + y := sh_w (by omega) (by omega)
  simp only [Option.bind_some, if_true, es]
  by_cases hs : x + y > 63
  · simp only [rondeaulaw08_AluShifts.j0, decide_eq_true hs, if_true, sh_awake, Option.bind_some]
  · have et : (x + y).toNat = x.toNat + y.toNat := by omega
    have el : a * 2 ^ x.toNat % 18446744073709551616 * 2 ^ y.toNat % 18446744073709551616 = a * 2 ^ (x.toNat + y.toNat) % 18446744073709551616 := by
      rw [Int.pow_add, ← Int.mul_assoc, Int.mul_emod, Int.emod_emod, ← Int.mul_emod]
    have er : a / 2 ^ x.toNat / 2 ^ y.toNat = a / 2 ^ (x.toNat + y.toNat) := by
      rw [Int.pow_add]
      exact Int.ediv_ediv_of_nonneg (Int.le_of_lt (Int.pow_pos (by decide)))
    have em : min x.toNat IntKind.u64.bits = x.toNat := by simp [IntKind.bits]; omega
    simp only [rondeaulaw08_AluShifts.j0, decide_eq_false hs, Bool.false_eq_true, if_false, es]
    rw [sh_l a x0 x1]; simp only [Option.bind_some]
    rw [sh_r _ x0 x1]; simp only [Option.bind_some]
    rw [sh_l _ y0 y1]; simp only [Option.bind_some]
    rw [sh_l a (by omega : 0 ≤ x + y) (by omega)]; simp only [Option.bind_some]
    rw [et, el, if_pos rfl, sh_r a x0 x1]; simp only [Option.bind_some]
    rw [sh_r _ y0 y1]; simp only [Option.bind_some]
    rw [sh_r a (by omega : 0 ≤ x + y) (by omega)]; simp only [Option.bind_some]
    rw [et, er, if_pos rfl, if_pos x0]
    simp [shl, shr, em, IntKind.wrap_u64]
end Go.Proofs.Ytmpdghokggdnoaa.Pure
