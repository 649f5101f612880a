/- Layer 8, AluDoes, the pure part: whatever the op and the numbers, what comes is the document's, or there is no such op; all ops are told. No condition. -/
import Derived.Test.YtmpdghokggdnoaaPAluDoesx3
import Derived.Laws.Bits64
import Derived.Laws.BitsAllLaws
namespace Go.Proofs.Ytmpdghokggdnoaa.Pure
open Go.RowKit Go.Proofs.Ytmpdghokggdnoaa.PAluDoes Go.Proofs.YtmpdghokggdnoaaW.PrintWords Go.Proofs.YtmpdghokggdnoaaW.PrintLast Go.Proofs.YtmpdghokggdnoaaW.PrintMore
set_option linter.unusedVariables false
set_option linter.unusedSimpArgs false

theorem d_awake : rondeaulaw08_awake.f 40 = some true := by decide +kernel
theorem d_awake_ge (m : Nat) : rondeaulaw08_awake.f (40 + m) = some true := by
  induction m with
  | zero => exact d_awake
  | succ m ih => exact rondeaulaw08_awake.mono _ _ ih
theorem d_ops : alu_Ops.f 40 = some [3, 4, 5, 6, 7, 8, 9, 10, 11, 12, 13, 14] := by decide +kernel
theorem d_ops_ge (m : Nat) : alu_Ops.f (40 + m) = some [3, 4, 5, 6, 7, 8, 9, 10, 11, 12, 13, 14] := by
  induction m with
  | zero => exact d_ops
  | succ m ih => exact alu_Ops.mono _ _ ih
theorem d_wf {a : Int} (h : (Lit.int .u64 a).wf = true) : 0 ≤ a ∧ a < 18446744073709551616 := by
  simp [Lit.wf, IntKind.min, IntKind.max, IntKind.signed, IntKind.bits] at h; omega
theorem d_w {n : Int} (h0 : 0 ≤ n) (h1 : n < 18446744073709551616) : IntKind.u64.wrap n = n := by
  rw [IntKind.wrap_u64]; omega
theorem d_and {x : Int} (h0 : 0 ≤ x) (h1 : x < 18446744073709551616) : Go.bits .and .u64 x 63 = x % 64 := by
  rw [u64_and x 63 h0 (by omega) (by decide) (by decide)]
  have : x.toNat &&& (63 : Int).toNat = x.toNat % 2 ^ 6 := Nat.and_two_pow_sub_one_eq_mod x.toNat 6
  rw [this]; omega

/- The shifts of the reference, step by step. -/
theorem d_shl (b : Int) (hb : 0 ≤ b) (d : Nat) : ∀ (k : Nat) (a i : Int), 0 ≤ i → i ≤ b % 64 → b % 64 - i = d → d < k → 0 ≤ a → a < 18446744073709551616 →
    rondeauref08_Do.l0 k a b i = some (a * 2 ^ d % 18446744073709551616, true) := by
  induction d with
  | zero =>
    intro k a i h0 h1 hd hk ha0 ha1
    obtain ⟨k, rfl⟩ : ∃ m, k = m + 1 := ⟨k - 1, by omega⟩
    simp only [rondeauref08_Do.l0]
    rw [Int.tmod_eq_emod_of_nonneg hb, if_neg (by omega)]
    congr 2; omega
  | succ d ih =>
    intro k a i h0 h1 hd hk ha0 ha1
    obtain ⟨k, rfl⟩ : ∃ m, k = m + 1 := ⟨k - 1, by omega⟩
    simp only [rondeauref08_Do.l0]
    rw [Int.tmod_eq_emod_of_nonneg hb, if_pos (by omega), IntKind.wrap_u64, d_w (n := i + 1) (by omega) (by omega)]
    rw [ih k _ (i + 1) (by omega) (by omega) (by omega) (by omega) (by omega) (by omega)]
    congr 2
    rw [Int.mul_emod, Int.emod_emod, ← Int.mul_emod, Int.pow_succ, Int.mul_comm (2 ^ d) 2, Int.mul_assoc]
theorem d_shr (b : Int) (hb : 0 ≤ b) (d : Nat) : ∀ (k : Nat) (a i : Int), 0 ≤ i → i ≤ b % 64 → b % 64 - i = d → d < k → 0 ≤ a → a < 18446744073709551616 →
    rondeauref08_Do.l1 k a b i = some (a / 2 ^ d, true) := by
  induction d with
  | zero =>
    intro k a i h0 h1 hd hk ha0 ha1
    obtain ⟨k, rfl⟩ : ∃ m, k = m + 1 := ⟨k - 1, by omega⟩
    simp only [rondeauref08_Do.l1]
    rw [Int.tmod_eq_emod_of_nonneg hb, if_neg (by omega)]
    simp
  | succ d ih =>
    intro k a i h0 h1 hd hk ha0 ha1
    obtain ⟨k, rfl⟩ : ∃ m, k = m + 1 := ⟨k - 1, by omega⟩
    simp only [rondeauref08_Do.l1]
    rw [Int.tmod_eq_emod_of_nonneg hb, if_pos (by omega), Int.tdiv_eq_ediv_of_nonneg ha0, d_w (n := a / 2) (by omega) (by omega), d_w (n := i + 1) (by omega) (by omega)]
    rw [ih k _ (i + 1) (by omega) (by omega) (by omega) (by omega) (by omega) (by omega)]
    congr 2
    rw [Int.ediv_ediv_of_nonneg (by decide), Int.pow_succ, Int.mul_comm (2 ^ d) 2]

/- The bits of the reference, one by one. -/
theorem d_par {n : Nat} : Int.tmod (n : Int) 2 = ((n % 2 : Nat) : Int) := by
  rw [Int.tmod_eq_emod_of_nonneg (by omega)]; omega
theorem d_half {n : Nat} (h : n < 18446744073709551616) : IntKind.u64.wrap (Int.tdiv (n : Int) 2) = ((n / 2 : Nat) : Int) := by
  rw [Int.tdiv_eq_ediv_of_nonneg (by omega), d_w (by omega) (by omega)]; omega
theorem d_unit (i : Nat) : IntKind.u64.wrap (((2 ^ i % 18446744073709551616 : Nat) : Int) * 2) = ((2 ^ (i + 1) % 18446744073709551616 : Nat) : Int) := by
  rw [IntKind.wrap_u64, Nat.pow_succ]; omega
theorem d_i {i : Nat} (h : i < 64) : wrap64 ((i : Int) + 1) = ((i + 1 : Nat) : Int) := by unfold wrap64; omega
theorem d_on {C i : Nat} (hC : C < 18446744073709551616) (hi : i < 64) (h : C / 2 ^ i % 2 = 1) :
    IntKind.u64.wrap (((C % 2 ^ i : Nat) : Int) + ((2 ^ i % 18446744073709551616 : Nat) : Int)) = ((C % 2 ^ (i + 1) : Nat) : Int) := by
  have e : C % 2 ^ (i + 1) = C % 2 ^ i + 2 ^ i * (C / 2 ^ i % 2) := by rw [Nat.pow_succ, Nat.mod_mul]
  have p : 2 ^ i % 18446744073709551616 = 2 ^ i := Nat.mod_eq_of_lt (by
    have : 2 ^ i < 2 ^ 64 := Nat.pow_lt_pow_right (by decide) hi
    simpa using this)
  rw [h, Nat.mul_one] at e
  have b : C % 2 ^ (i + 1) ≤ C := Nat.mod_le _ _
  rw [p, ← Int.natCast_add, ← e, d_w (by omega) (by omega)]
theorem d_off {C i : Nat} (h : ¬ C / 2 ^ i % 2 = 1) : ((C % 2 ^ i : Nat) : Int) = ((C % 2 ^ (i + 1) : Nat) : Int) := by
  have e : C % 2 ^ (i + 1) = C % 2 ^ i + 2 ^ i * (C / 2 ^ i % 2) := by rw [Nat.pow_succ, Nat.mod_mul]
  rw [show C / 2 ^ i % 2 = 0 from by omega, Nat.mul_zero] at e
  rw [e, Nat.add_zero]
theorem d_full {C : Nat} (hC : C < 18446744073709551616) : C % 2 ^ 64 = C := Nat.mod_eq_of_lt hC

theorem d_eq8 (k : Nat) (x1 x2 x7 x8 x9 : Int) : rondeauref08_bits.l0 (k + 1) 8 x1 x2 x7 x8 x9 =
    if x9 < 64 then (if IntKind.u64.wrap ((Int.tmod x1 2) + (Int.tmod x2 2)) = 2 then rondeauref08_bits.l0 k 8 (IntKind.u64.wrap (Int.tdiv x1 2)) (IntKind.u64.wrap (Int.tdiv x2 2)) (IntKind.u64.wrap (x7 + x8)) (IntKind.u64.wrap (x8 * 2)) (wrap64 (x9 + 1))
      else rondeauref08_bits.l0 k 8 (IntKind.u64.wrap (Int.tdiv x1 2)) (IntKind.u64.wrap (Int.tdiv x2 2)) x7 (IntKind.u64.wrap (x8 * 2)) (wrap64 (x9 + 1))) else some x7 := by
  simp only [rondeauref08_bits.l0, show ¬ ((8 : Int) = 9) from by decide, show ¬ ((8 : Int) = 10) from by decide, if_true, if_false]
theorem d_eq9 (k : Nat) (x1 x2 x7 x8 x9 : Int) : rondeauref08_bits.l0 (k + 1) 9 x1 x2 x7 x8 x9 =
    if x9 < 64 then (if IntKind.u64.wrap ((Int.tmod x1 2) + (Int.tmod x2 2)) > 0 then rondeauref08_bits.l0 k 9 (IntKind.u64.wrap (Int.tdiv x1 2)) (IntKind.u64.wrap (Int.tdiv x2 2)) (IntKind.u64.wrap (x7 + x8)) (IntKind.u64.wrap (x8 * 2)) (wrap64 (x9 + 1))
      else rondeauref08_bits.l0 k 9 (IntKind.u64.wrap (Int.tdiv x1 2)) (IntKind.u64.wrap (Int.tdiv x2 2)) x7 (IntKind.u64.wrap (x8 * 2)) (wrap64 (x9 + 1))) else some x7 := by
  simp only [rondeauref08_bits.l0, show ¬ ((9 : Int) = 8) from by decide, show ¬ ((9 : Int) = 10) from by decide, if_true, if_false]
theorem d_eq10 (k : Nat) (x1 x2 x7 x8 x9 : Int) : rondeauref08_bits.l0 (k + 1) 10 x1 x2 x7 x8 x9 =
    if x9 < 64 then (if IntKind.u64.wrap ((Int.tmod x1 2) + (Int.tmod x2 2)) = 1 then rondeauref08_bits.l0 k 10 (IntKind.u64.wrap (Int.tdiv x1 2)) (IntKind.u64.wrap (Int.tdiv x2 2)) (IntKind.u64.wrap (x7 + x8)) (IntKind.u64.wrap (x8 * 2)) (wrap64 (x9 + 1))
      else rondeauref08_bits.l0 k 10 (IntKind.u64.wrap (Int.tdiv x1 2)) (IntKind.u64.wrap (Int.tdiv x2 2)) x7 (IntKind.u64.wrap (x8 * 2)) (wrap64 (x9 + 1))) else some x7 := by
  simp only [rondeauref08_bits.l0, show ¬ ((10 : Int) = 9) from by decide, show ¬ ((10 : Int) = 8) from by decide, if_true, if_false]
theorem d_andbit (A B i : Nat) : (A &&& B) / 2 ^ i % 2 = 1 ↔ A / 2 ^ i % 2 + B / 2 ^ i % 2 = 2 := by
  have h : (A &&& B).testBit i = (A.testBit i && B.testBit i) := Nat.testBit_and A B i
  simp only [Nat.testBit_eq_decide_div_mod_eq, ← Bool.decide_and] at h
  rw [decide_eq_decide.1 h]; omega
theorem d_orbit (A B i : Nat) : (A ||| B) / 2 ^ i % 2 = 1 ↔ A / 2 ^ i % 2 + B / 2 ^ i % 2 > 0 := by
  have h : (A ||| B).testBit i = (A.testBit i || B.testBit i) := Nat.testBit_or A B i
  simp only [Nat.testBit_eq_decide_div_mod_eq, ← Bool.decide_or] at h
  rw [decide_eq_decide.1 h]; omega
theorem d_xorbit (A B i : Nat) : (A ^^^ B) / 2 ^ i % 2 = 1 ↔ A / 2 ^ i % 2 + B / 2 ^ i % 2 = 1 := by
  have h : (A ^^^ B).testBit i = (A.testBit i ^^ B.testBit i) := Nat.testBit_xor A B i
  simp only [Nat.testBit_eq_decide_div_mod_eq] at h
  have a2 := Nat.mod_two_eq_zero_or_one (A / 2 ^ i)
  have b2 := Nat.mod_two_eq_zero_or_one (B / 2 ^ i)
  have c2 := Nat.mod_two_eq_zero_or_one ((A ^^^ B) / 2 ^ i)
  rcases a2 with a2 | a2 <;> rcases b2 with b2 | b2 <;> rcases c2 with c2 | c2 <;> simp [a2, b2, c2] at h ⊢
theorem d_sum {A B i : Nat} : IntKind.u64.wrap ((((A / 2 ^ i) % 2 : Nat) : Int) + (((B / 2 ^ i) % 2 : Nat) : Int)) = ((A / 2 ^ i % 2 + B / 2 ^ i % 2 : Nat) : Int) := by
  rw [d_w (by omega) (by omega)]; omega
theorem d_pow2 (A i : Nat) : A / 2 ^ i / 2 = A / 2 ^ (i + 1) := by rw [Nat.div_div_eq_div_mul, Nat.pow_succ]
theorem d_divle {A : Nat} (h : A < 18446744073709551616) (i : Nat) : A / 2 ^ i < 18446744073709551616 := Nat.lt_of_le_of_lt (Nat.div_le_self _ _) h

theorem d_run8 {A B : Nat} (hA : A < 18446744073709551616) (hB : B < 18446744073709551616) (hC : A &&& B < 18446744073709551616) (d : Nat) : ∀ (k i : Nat), i + d = 64 → d < k →
    rondeauref08_bits.l0 k 8 ((A / 2 ^ i : Nat) : Int) ((B / 2 ^ i : Nat) : Int) (((A &&& B) % 2 ^ i : Nat) : Int) ((2 ^ i % 18446744073709551616 : Nat) : Int) (i : Int) = some ((A &&& B : Nat) : Int) := by
  induction d with
  | zero =>
    intro k i hi hk
    obtain ⟨k, rfl⟩ : ∃ m, k = m + 1 := ⟨k - 1, by omega⟩
    obtain rfl : i = 64 := by omega
    rw [d_eq8, if_neg (by omega), d_full hC]
  | succ d ih =>
    intro k i hi hk
    obtain ⟨k, rfl⟩ : ∃ m, k = m + 1 := ⟨k - 1, by omega⟩
    rw [d_eq8, if_pos (by omega), d_par, d_par, d_sum, d_half (d_divle hA i), d_half (d_divle hB i), d_unit, d_i (by omega), d_pow2, d_pow2]
    by_cases h : A / 2 ^ i % 2 + B / 2 ^ i % 2 = 2
    · rw [if_pos (by omega), d_on hC (by omega) ((d_andbit A B i).2 h)]; exact ih k (i + 1) (by omega) (by omega)
    · rw [if_neg (by omega), d_off (fun hh => h ((d_andbit A B i).1 hh))]; exact ih k (i + 1) (by omega) (by omega)
theorem d_run9 {A B : Nat} (hA : A < 18446744073709551616) (hB : B < 18446744073709551616) (hC : A ||| B < 18446744073709551616) (d : Nat) : ∀ (k i : Nat), i + d = 64 → d < k →
    rondeauref08_bits.l0 k 9 ((A / 2 ^ i : Nat) : Int) ((B / 2 ^ i : Nat) : Int) (((A ||| B) % 2 ^ i : Nat) : Int) ((2 ^ i % 18446744073709551616 : Nat) : Int) (i : Int) = some ((A ||| B : Nat) : Int) := by
  induction d with
  | zero =>
    intro k i hi hk
    obtain ⟨k, rfl⟩ : ∃ m, k = m + 1 := ⟨k - 1, by omega⟩
    obtain rfl : i = 64 := by omega
    rw [d_eq9, if_neg (by omega), d_full hC]
  | succ d ih =>
    intro k i hi hk
    obtain ⟨k, rfl⟩ : ∃ m, k = m + 1 := ⟨k - 1, by omega⟩
    rw [d_eq9, if_pos (by omega), d_par, d_par, d_sum, d_half (d_divle hA i), d_half (d_divle hB i), d_unit, d_i (by omega), d_pow2, d_pow2]
    by_cases h : A / 2 ^ i % 2 + B / 2 ^ i % 2 > 0
    · rw [if_pos (by omega), d_on hC (by omega) ((d_orbit A B i).2 h)]; exact ih k (i + 1) (by omega) (by omega)
    · rw [if_neg (by omega), d_off (fun hh => h ((d_orbit A B i).1 hh))]; exact ih k (i + 1) (by omega) (by omega)
theorem d_run10 {A B : Nat} (hA : A < 18446744073709551616) (hB : B < 18446744073709551616) (hC : A ^^^ B < 18446744073709551616) (d : Nat) : ∀ (k i : Nat), i + d = 64 → d < k →
    rondeauref08_bits.l0 k 10 ((A / 2 ^ i : Nat) : Int) ((B / 2 ^ i : Nat) : Int) (((A ^^^ B) % 2 ^ i : Nat) : Int) ((2 ^ i % 18446744073709551616 : Nat) : Int) (i : Int) = some ((A ^^^ B : Nat) : Int) := by
  induction d with
  | zero =>
    intro k i hi hk
    obtain ⟨k, rfl⟩ : ∃ m, k = m + 1 := ⟨k - 1, by omega⟩
    obtain rfl : i = 64 := by omega
    rw [d_eq10, if_neg (by omega), d_full hC]
  | succ d ih =>
    intro k i hi hk
    obtain ⟨k, rfl⟩ : ∃ m, k = m + 1 := ⟨k - 1, by omega⟩
    rw [d_eq10, if_pos (by omega), d_par, d_par, d_sum, d_half (d_divle hA i), d_half (d_divle hB i), d_unit, d_i (by omega), d_pow2, d_pow2]
    by_cases h : A / 2 ^ i % 2 + B / 2 ^ i % 2 = 1
    · rw [if_pos (by omega), d_on hC (by omega) ((d_xorbit A B i).2 h)]; exact ih k (i + 1) (by omega) (by omega)
    · rw [if_neg (by omega), d_off (fun hh => h ((d_xorbit A B i).1 hh))]; exact ih k (i + 1) (by omega) (by omega)

/- What the document's Do tells is what the program's Do tells. -/
theorem d_same (a x y : Int) (hx0 : 0 ≤ x) (hx1 : x < 18446744073709551616) (hy0 : 0 ≤ y) (hy1 : y < 18446744073709551616) :
    ∃ n ok, alu_Do.f a x y = some (n, ok) ∧ rondeauref08_Do.f 100 a x y = some (n, ok) ∧ (ok = decide (3 ≤ a ∧ a ≤ 14)) := by
  obtain ⟨A, rfl⟩ := Int.eq_ofNat_of_zero_le hx0
  obtain ⟨B, rfl⟩ := Int.eq_ofNat_of_zero_le hy0
  have hA : A < 18446744073709551616 := by omega
  have hB : B < 18446744073709551616 := by omega
  unfold alu_Do.f rondeauref08_Do.f
  by_cases h3 : a = 3
  · subst h3; exact ⟨_, _, rfl, rfl, by decide⟩
  by_cases h4 : a = 4
  · subst h4; exact ⟨_, _, rfl, rfl, by decide⟩
  by_cases h5 : a = 5
  · subst h5; exact ⟨_, _, rfl, rfl, by decide⟩
  by_cases h6 : a = 6
  · subst h6
    unfold alu_quotient.f
    by_cases h : (B : Int) = 0
    · simp [h]
    · exact ⟨_, _, by rw [if_neg h]; rfl, by rw [if_neg h]; rfl, by decide⟩
  by_cases h7 : a = 7
  · subst h7
    unfold alu_rest.f
    by_cases h : (B : Int) = 0
    · simp [h]
    · have e1 : Int.tdiv (A : Int) (B : Int) = (A : Int) / B := Int.tdiv_eq_ediv_of_nonneg hx0
      have e2 : Int.tmod (A : Int) (B : Int) = (A : Int) % B := Int.tmod_eq_emod_of_nonneg hx0
      have q0 : 0 ≤ (A : Int) / B := Int.ediv_nonneg hx0 hy0
      have q1 : (A : Int) / B ≤ A := Int.ediv_le_self _ hx0
      have r0 : 0 ≤ (A : Int) % B := Int.emod_nonneg _ h
      have s : (A : Int) / B * B + (A : Int) % B = A := by rw [Int.mul_comm]; exact Int.mul_ediv_add_emod _ _
      have m0 : 0 ≤ (A : Int) / B * B := Int.mul_nonneg q0 hy0
      have e3 : (A : Int) - (A : Int) / B * B = (A : Int) % B := by omega
      have e4 : (A : Int) % B < 18446744073709551616 := by omega
      refine ⟨(A : Int) % B, true, by rw [if_neg h, e2]; rfl, ?_, by decide⟩
      rw [e1, d_w q0 (by omega), d_w m0 (by omega), e3, d_w r0 e4]
      simp only [show ¬ ((7 : Int) = 3) from by decide, show ¬ ((7 : Int) = 4) from by decide, show ¬ ((7 : Int) = 5) from by decide, show ¬ ((7 : Int) = 6) from by decide, if_false, if_true, h]
  by_cases h8 : a = 8
  · subst h8
    have hC : A &&& B < 18446744073709551616 := Nat.lt_of_le_of_lt Nat.and_le_left hA
    have r := d_run8 hA hB hC 64 98 0 (by decide) (by decide)
    simp only [Nat.pow_zero, Nat.div_one, Nat.mod_one, Nat.reduceMod, Int.natCast_zero, Int.natCast_one] at r
    refine ⟨((A &&& B : Nat) : Int), true, by simp [u64_and_nat A B hA hB], ?_, by decide⟩
    simp only [show ¬ ((8 : Int) = 3) from by decide, show ¬ ((8 : Int) = 4) from by decide, show ¬ ((8 : Int) = 5) from by decide, show ¬ ((8 : Int) = 6) from by decide, show ¬ ((8 : Int) = 7) from by decide, if_false, if_true]
    simp only [rondeauref08_Do.j0, rondeauref08_bits.f]
    rw [if_pos (by decide)]
    exact congrArg (fun o => Option.bind o fun t => some (t, true)) (rondeauref08_bits.mono_l _ _ _ _ _ _ _ _ r)
  by_cases h9 : a = 9
  · subst h9
    have hC : A ||| B < 18446744073709551616 := Nat.or_lt_two_pow (n := 64) hA hB
    have r := d_run9 hA hB hC 64 98 0 (by decide) (by decide)
    simp only [Nat.pow_zero, Nat.div_one, Nat.mod_one, Nat.reduceMod, Int.natCast_zero, Int.natCast_one] at r
    refine ⟨((A ||| B : Nat) : Int), true, by simp [u64_or_nat A B hA hB], ?_, by decide⟩
    simp only [show ¬ ((9 : Int) = 3) from by decide, show ¬ ((9 : Int) = 4) from by decide, show ¬ ((9 : Int) = 5) from by decide, show ¬ ((9 : Int) = 6) from by decide, show ¬ ((9 : Int) = 7) from by decide, show ¬ ((9 : Int) = 8) from by decide, if_false, if_true]
    simp only [rondeauref08_Do.j0, rondeauref08_bits.f]
    rw [if_pos (by decide)]
    exact congrArg (fun o => Option.bind o fun t => some (t, true)) (rondeauref08_bits.mono_l _ _ _ _ _ _ _ _ r)
  by_cases h10 : a = 10
  · subst h10
    have hC : A ^^^ B < 18446744073709551616 := Nat.xor_lt_two_pow (n := 64) hA hB
    have r := d_run10 hA hB hC 64 98 0 (by decide) (by decide)
    simp only [Nat.pow_zero, Nat.div_one, Nat.mod_one, Nat.reduceMod, Int.natCast_zero, Int.natCast_one] at r
    refine ⟨((A ^^^ B : Nat) : Int), true, by simp [bits_xor_u64_nat A B hA hB], ?_, by decide⟩
    simp only [show ¬ ((10 : Int) = 3) from by decide, show ¬ ((10 : Int) = 4) from by decide, show ¬ ((10 : Int) = 5) from by decide, show ¬ ((10 : Int) = 6) from by decide, show ¬ ((10 : Int) = 7) from by decide, show ¬ ((10 : Int) = 8) from by decide, show ¬ ((10 : Int) = 9) from by decide, if_false, if_true]
    simp only [rondeauref08_Do.j0, rondeauref08_bits.f]
    rw [if_pos (by decide)]
    exact congrArg (fun o => Option.bind o fun t => some (t, true)) (rondeauref08_bits.mono_l _ _ _ _ _ _ _ _ r)
  rw [if_neg h3, if_neg h4, if_neg h5, if_neg h6, if_neg h7, if_neg h8, if_neg h9, if_neg h10, if_neg h3, if_neg h4, if_neg h5, if_neg h6, if_neg h7, if_neg h8, if_neg h9]
  simp only [rondeauref08_Do.j0, show (a == 10) = false from by simp [h10], Bool.false_eq_true, if_false]
  by_cases h11 : a = 11
  · subst h11
    have e : min ((B : Int) % 64).toNat IntKind.u64.bits = ((B : Int) % 64).toNat := by simp [IntKind.bits]; omega
    have r := d_shl (B : Int) hy0 ((B : Int) % 64).toNat 99 (A : Int) 0 (by omega) (by omega) (by omega) (by omega) hx0 hx1
    simp only [if_true]
    rw [r, d_and hy0 hy1, if_pos (by omega)]
    exact ⟨_, _, rfl, by simp [shl, e, IntKind.wrap_u64], by decide⟩
  by_cases h12 : a = 12
  · subst h12
    have e : min ((B : Int) % 64).toNat IntKind.u64.bits = ((B : Int) % 64).toNat := by simp [IntKind.bits]; omega
    have r := d_shr (B : Int) hy0 ((B : Int) % 64).toNat 99 (A : Int) 0 (by omega) (by omega) (by omega) (by omega) hx0 hx1
    simp only [show ¬ ((12 : Int) = 11) from by decide, if_false, if_true]
    rw [r, d_and hy0 hy1, if_pos (by omega)]
    exact ⟨_, _, rfl, by simp [shr, e], by decide⟩
  by_cases h13 : a = 13
  · subst h13
    unfold alu_is.f
    by_cases h : (A : Int) < B
    · exact ⟨1, true, by simp [h], by simp [h], by decide⟩
    · exact ⟨0, true, by simp [h], by simp [h], by decide⟩
  by_cases h14 : a = 14
  · subst h14
    unfold alu_is.f
    by_cases h : (A : Int) = B
    · exact ⟨1, true, by simp [h], by simp [h], by decide⟩
    · exact ⟨0, true, by simp [h], by simp [h], by decide⟩
  refine ⟨0, false, by simp [h11, h12, h13, h14], by simp [h11, h12, h13, h14], ?_⟩
  rw [eq_comm, decide_eq_false_iff_not]; omega

theorem d_rd (i : Nat) (h : i < 12) : rd ([3, 4, 5, 6, 7, 8, 9, 10, 11, 12, 13, 14] : List Int) (i : Int) = (i : Int) + 3 := by
  have : ∀ i : Fin 12, rd ([3, 4, 5, 6, 7, 8, 9, 10, 11, 12, 13, 14] : List Int) ((i.val : Nat) : Int) = ((i.val : Nat) : Int) + 3 := by decide
  exact this ⟨i, h⟩
theorem d_loop (a n : Int) (ok : Bool) (L : List Int) (hL : L.length = 12) (hr : ∀ i : Nat, i < 12 → rd L (i : Int) = (i : Int) + 3) (hok : ok = decide (3 ≤ a ∧ a ≤ 14)) (d : Nat) : ∀ (i : Nat) (f : Bool), i + d = 12 → f = decide (3 ≤ a ∧ a < (i : Int) + 3) →
    rondeaulaw08_AluDoes.l0 (d + 41) a n ok n ok f L L 12 (i : Int) = some true := by
  induction d with
  | zero =>
    intro i f hi hf
    show rondeaulaw08_AluDoes.l0 (40 + 1) a n ok n ok f L L 12 (i : Int) = some true
    obtain rfl : i = 12 := by omega
    have e : f = ok := by rw [hf, hok]; exact decide_eq_decide.2 (by omega)
    have e2 : alu_Is.f a = some ok := by
      unfold alu_Is.f
      by_cases h : 3 ≤ a
      · rw [if_pos h, hok]; simp [h]
      · rw [if_neg h, hok]; simp [h]
    subst e
    obtain ⟨k, hk⟩ : ∃ k, k = 40 := ⟨_, rfl⟩
    rw [← hk]
    simp only [rondeaulaw08_AluDoes.l0]
    rw [hk, if_neg (by omega), d_awake, e2]
    simp
  | succ d ih =>
    intro i f hi hf
    rw [show d + 1 + 41 = (d + 41) + 1 from by omega]
    obtain ⟨k, hk⟩ : ∃ k, k = d + 41 := ⟨_, rfl⟩
    rw [← hk] at ih ⊢
    simp only [rondeaulaw08_AluDoes.l0]
    have w0 : wrap64 ((i : Int) - 1) = (i : Int) - 1 := by unfold wrap64; omega
    have w1 : wrap64 ((i : Int) + 1) = ((i + 1 : Nat) : Int) := by unfold wrap64; omega
    have r1 := hr i (by omega)
    have key : (if f = true then rondeaulaw08_AluDoes.l0 k a n ok n ok true L L 12 ((i + 1 : Nat) : Int)
        else rondeaulaw08_AluDoes.l0 k a n ok n ok ((i : Int) + 3 == a) L L 12 ((i + 1 : Nat) : Int)) = some true := by
      cases f with
      | true =>
        rw [if_pos rfl]
        have := of_decide_eq_true hf.symm
        exact ih (i + 1) true (by omega) (by rw [eq_comm, decide_eq_true_eq]; omega)
      | false =>
        rw [if_neg (by decide)]
        have := of_decide_eq_false hf.symm
        refine ih (i + 1) _ (by omega) ?_
        rw [Bool.eq_iff_iff, beq_iff_eq, decide_eq_true_eq]; omega
    rw [if_pos (by omega), if_pos (by omega), if_pos (by rw [hL]; omega)]
    simp only [w0, w1, r1]
    by_cases hi0 : (i : Int) > 0
    · have r0 := hr (i - 1) (by omega)
      rw [show ((i - 1 : Nat) : Int) = (i : Int) - 1 from by omega] at r0
      rw [if_pos hi0, if_pos (by omega), if_pos (by rw [hL]; omega)]
      simp only [r0]
      rw [if_neg (by omega)]
      exact key
    · rw [if_neg hi0]; exact key

theorem d_mono (m : Nat) (a n : Int) (ok : Bool) (L : List Int) (h : rondeaulaw08_AluDoes.l0 m a n ok n ok false L L 12 0 = some true) (j : Nat) :
    rondeaulaw08_AluDoes.l0 (m + j) a n ok n ok false L L 12 0 = some true := by
  induction j with
  | zero => exact h
  | succ j ih => exact rondeaulaw08_AluDoes.mono_l (m + j) a n ok n ok false L L 12 0 true ih

theorem AluDoes : rondeaulaw08_AluDoes.Pure := by
  intro a x y _ hx hy
  obtain ⟨hx0, hx1⟩ := d_wf hx
  obtain ⟨hy0, hy1⟩ := d_wf hy
  obtain ⟨n, ok, h1, h2, h3⟩ := d_same a x y hx0 hx1 hy0 hy1
  refine ⟨100, ?_⟩
  unfold rondeaulaw08_AluDoes.f
  rw [h1, h2, d_ops_ge 60]
  simp only [Option.bind_some]
  exact d_mono (12 + 41) a n ok _ (d_loop a n ok _ rfl d_rd h3 12 0 false (by decide) (by rw [eq_comm, decide_eq_false_iff_not]; omega)) 47
end Go.Proofs.Ytmpdghokggdnoaa.Pure
