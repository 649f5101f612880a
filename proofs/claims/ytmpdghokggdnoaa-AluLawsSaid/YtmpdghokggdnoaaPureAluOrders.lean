/- Layer 8, AluOrders, the pure part: of two numbers just one of less, equal, greater is so; less goes on. No condition. -/
import Derived.Test.YtmpdghokggdnoaaPAluOrdersx1
import Derived.Laws.Bits64
namespace Go.Proofs.Ytmpdghokggdnoaa.Pure
open Go.RowKit Go.Proofs.Ytmpdghokggdnoaa.PAluOrders Go.Proofs.YtmpdghokggdnoaaW.PrintWords Go.Proofs.YtmpdghokggdnoaaW.PrintLast

theorem ord_awake : rondeaulaw08_awake.f 40 = some true := by decide +kernel
theorem ord_lt (a b : Int) : rondeaulaw08_do.f 13 a b = some (if a < b then 1 else 0) := by
  unfold rondeaulaw08_do.f alu_Do.f alu_is.f
  by_cases h : a < b <;> simp [h]
theorem ord_eq (a b : Int) : rondeaulaw08_do.f 14 a b = some (if a = b then 1 else 0) := by
  unfold rondeaulaw08_do.f alu_Do.f alu_is.f
  by_cases h : a = b <;> simp [h]
theorem ord_w1 : IntKind.u64.wrap ((IntKind.u64.wrap (1 + 0)) + 0) = 1 := by decide +kernel
theorem ord_w2 : IntKind.u64.wrap ((IntKind.u64.wrap (0 + 1)) + 0) = 1 := by decide +kernel
theorem ord_w3 : IntKind.u64.wrap ((IntKind.u64.wrap (0 + 0)) + 1) = 1 := by decide +kernel

theorem AluOrders : rondeaulaw08_AluOrders.Pure := by
  intro a b c _ _ _
  refine ⟨40, ?_⟩
  unfold rondeaulaw08_AluOrders.f
  simp only [ord_awake, ord_lt, ord_eq, Option.bind_some]
  rcases Int.lt_trichotomy a b with h | h | h
  · rw [if_pos h, if_neg (by omega : ¬ a = b), if_neg (by omega : ¬ b < a), ord_w1]
    by_cases h2 : b < c
    · rw [if_pos h2, if_pos (by omega : a < c)]; rfl
    · rw [if_neg h2]; rfl
  · rw [if_neg (by omega : ¬ a < b), if_pos h, if_neg (by omega : ¬ b < a), ord_w2]; rfl
  · rw [if_neg (by omega : ¬ a < b), if_neg (by omega : ¬ a = b), if_pos h, ord_w3]; rfl
end Go.Proofs.Ytmpdghokggdnoaa.Pure
