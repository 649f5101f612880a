-- PRINTED BY print.sh 35421559b90ae4d0a3588c463048766b98c2df88dd9212a6774a882060cdf62d: not written by this session
import Derived.Test.YtmpdghokggdnoaaPAluDoesx0
namespace Go.Proofs.Ytmpdghokggdnoaa.PAluDoes
open Go.RowKit Go.Proofs.YtmpdghokggdnoaaW.PrintWords Go.Proofs.YtmpdghokggdnoaaW.PrintLast Go.Proofs.YtmpdghokggdnoaaW.PrintMore
attribute [local go_sem] max2_int min2_int max_two min_two max_three min_three max_four min_four   -- for this text's walks alone
set_option linter.unusedVariables false
set_option linter.unusedSimpArgs false

/-! ### alu_quotient: function 41 -/
def alu_quotient.f (a0 : Int) (a1 : Int) : Option (Int) := if a1 = 0 then (some 0) else (some (IntKind.u64.wrap (Int.tdiv a0 a1)))
set_option maxHeartbeats 8000000 in
set_option maxRecDepth 100000 in
theorem alu_quotient.calls (a0 : Int) (a1 : Int) (r : Int) (w : World) (h : alu_quotient.f a0 a1 = some r) :
    Calls Try.prog 41 #[.int .u64 a0, .int .u64 a1] w fun e w' => e = .returned (.int .u64 r) ∧ Drawn0 w w' := by
  have H : (if a1 = 0 then (some 0) else (some (IntKind.u64.wrap (Int.tdiv a0 a1)))) = some r := h
  clear h
  by_cases c3 : a1 = 0
  · rw [if_pos c3] at H
    have c3b0 : (a1 == 0) = true := beq_iff_eq.mpr c3
    have c3b1 : (a1 != 0) = false := bne_eq_false_iff_eq.mpr c3
    clear c3
    obtain rfl := Option.some.inj H
    go_enter Try.func41, Try.ntmps41
    go_wp2
    go_ret
    exact ⟨by first | rfl | (simp; done) | (simp [*]; done), by repeat (first | exact Drawn0.refl _ | apply Drawn0.step)⟩
  · rw [if_neg c3] at H
    have c3b0 : (a1 == 0) = false := beq_eq_false_iff_ne.mpr c3
    have c3b1 : (a1 != 0) = true := bne_iff_ne.mpr c3
    obtain rfl := Option.some.inj H
    go_enter Try.func41, Try.ntmps41
    go_wp2
    go_ret
    exact ⟨by first | rfl | (simp; done) | (simp [*]; done), by repeat (first | exact Drawn0.refl _ | apply Drawn0.step)⟩

/-! ### alu_rest: function 42 -/
def alu_rest.f (a0 : Int) (a1 : Int) : Option (Int) := if a1 = 0 then (some 0) else (some (Int.tmod a0 a1))
set_option maxHeartbeats 8000000 in
set_option maxRecDepth 100000 in
theorem alu_rest.calls (a0 : Int) (a1 : Int) (r : Int) (w : World) (h : alu_rest.f a0 a1 = some r) :
    Calls Try.prog 42 #[.int .u64 a0, .int .u64 a1] w fun e w' => e = .returned (.int .u64 r) ∧ Drawn0 w w' := by
  have H : (if a1 = 0 then (some 0) else (some (Int.tmod a0 a1))) = some r := h
  clear h
  by_cases c3 : a1 = 0
  · rw [if_pos c3] at H
    have c3b0 : (a1 == 0) = true := beq_iff_eq.mpr c3
    have c3b1 : (a1 != 0) = false := bne_eq_false_iff_eq.mpr c3
    clear c3
    obtain rfl := Option.some.inj H
    go_enter Try.func42, Try.ntmps42
    go_wp2
    go_ret
    exact ⟨by first | rfl | (simp; done) | (simp [*]; done), by repeat (first | exact Drawn0.refl _ | apply Drawn0.step)⟩
  · rw [if_neg c3] at H
    have c3b0 : (a1 == 0) = false := beq_eq_false_iff_ne.mpr c3
    have c3b1 : (a1 != 0) = true := bne_iff_ne.mpr c3
    obtain rfl := Option.some.inj H
    go_enter Try.func42, Try.ntmps42
    go_wp2
    go_ret
    exact ⟨by first | rfl | (simp; done) | (simp [*]; done), by repeat (first | exact Drawn0.refl _ | apply Drawn0.step)⟩

/-! ### alu_is: function 43 -/
def alu_is.f (a0 : Bool) : Option (Int) := if a0 = true then (some 1) else (some 0)
set_option maxHeartbeats 8000000 in
set_option maxRecDepth 100000 in
theorem alu_is.calls (a0 : Bool) (r : Int) (w : World) (h : alu_is.f a0 = some r) :
    Calls Try.prog 43 #[.bool a0] w fun e w' => e = .returned (.int .u64 r) ∧ Drawn0 w w' := by
  have H : (if a0 = true then (some 1) else (some 0)) = some r := h
  clear h
  by_cases c2 : a0 = true
  · subst c2
    have H1 : (some 1) = some r := by rw [if_pos rfl] at H; exact H
    clear H
    have H := H1
    clear H1
    obtain rfl := Option.some.inj H
    go_enter Try.func43, Try.ntmps43
    go_wp2
    go_ret
    exact ⟨by first | rfl | (simp; done) | (simp [*]; done), by repeat (first | exact Drawn0.refl _ | apply Drawn0.step)⟩
  · replace c2 := Bool.eq_false_iff.mpr c2
    subst c2
    have H1 : (some 0) = some r := by rw [if_neg (show ¬ (false = true) by decide)] at H; exact H
    clear H
    have H := H1
    clear H1
    obtain rfl := Option.some.inj H
    go_enter Try.func43, Try.ntmps43
    go_wp2
    go_ret
    exact ⟨by first | rfl | (simp; done) | (simp [*]; done), by repeat (first | exact Drawn0.refl _ | apply Drawn0.step)⟩

/-! ### alu_Do: function 15 -/
def alu_Do.f (a0 : Int) (a1 : Int) (a2 : Int) : Option (Int × Bool) := if a0 = 3 then (some (IntKind.u64.wrap (a1 + a2), true)) else (if a0 = 4 then (some (IntKind.u64.wrap (a1 - a2), true)) else (if a0 = 5 then (some (IntKind.u64.wrap (a1 * a2), true)) else (if a0 = 6 then ((alu_quotient.f a1 a2).bind fun t101 => (some (t101, true))) else (if a0 = 7 then ((alu_rest.f a1 a2).bind fun t102 => (some (t102, true))) else (if a0 = 8 then (some (Go.bits .and .u64 a1 a2, true)) else (if a0 = 9 then (some (Go.bits .or .u64 a1 a2, true)) else (if a0 = 10 then (some (Go.bits .xor .u64 a1 a2, true)) else (if a0 = 11 then (if 0 ≤ (Go.bits .and .u64 a2 63) then (some (shl .u64 a1 (Go.bits .and .u64 a2 63), true)) else (none)) else (if a0 = 12 then (if 0 ≤ (Go.bits .and .u64 a2 63) then (some (shr .u64 a1 (Go.bits .and .u64 a2 63), true)) else (none)) else (if a0 = 13 then ((alu_is.f (decide (a1 < a2))).bind fun t103 => (some (t103, true))) else (if a0 = 14 then ((alu_is.f (a1 == a2)).bind fun t104 => (some (t104, true))) else (some (0, false)))))))))))))
set_option maxHeartbeats 8000000 in
set_option maxRecDepth 100000 in
theorem alu_Do.calls (a0 : Int) (a1 : Int) (a2 : Int) (r1 : Int) (r2 : Bool) (w : World) (h : alu_Do.f a0 a1 a2 = some (r1, r2)) :
    Calls Try.prog 15 #[.int .i64 a0, .int .u64 a1, .int .u64 a2] w fun e w' => e = .returned (.tuple #[.int .u64 r1, .bool r2]) ∧ Drawn0 w w' := by
  have H : (if a0 = 3 then (some (IntKind.u64.wrap (a1 + a2), true)) else (if a0 = 4 then (some (IntKind.u64.wrap (a1 - a2), true)) else (if a0 = 5 then (some (IntKind.u64.wrap (a1 * a2), true)) else (if a0 = 6 then ((alu_quotient.f a1 a2).bind fun t101 => (some (t101, true))) else (if a0 = 7 then ((alu_rest.f a1 a2).bind fun t102 => (some (t102, true))) else (if a0 = 8 then (some (Go.bits .and .u64 a1 a2, true)) else (if a0 = 9 then (some (Go.bits .or .u64 a1 a2, true)) else (if a0 = 10 then (some (Go.bits .xor .u64 a1 a2, true)) else (if a0 = 11 then (if 0 ≤ (Go.bits .and .u64 a2 63) then (some (shl .u64 a1 (Go.bits .and .u64 a2 63), true)) else (none)) else (if a0 = 12 then (if 0 ≤ (Go.bits .and .u64 a2 63) then (some (shr .u64 a1 (Go.bits .and .u64 a2 63), true)) else (none)) else (if a0 = 13 then ((alu_is.f (decide (a1 < a2))).bind fun t103 => (some (t103, true))) else (if a0 = 14 then ((alu_is.f (a1 == a2)).bind fun t104 => (some (t104, true))) else (some (0, false)))))))))))))) = some (r1, r2) := h
  clear h
  by_cases c4 : a0 = 3
  · rw [if_pos c4] at H
    have c4b0 : (a0 == 3) = true := beq_iff_eq.mpr c4
    have c4b1 : (a0 != 3) = false := bne_eq_false_iff_eq.mpr c4
    clear c4
    simp only [Option.some.injEq, Prod.mk.injEq] at H
    obtain ⟨rfl, rfl⟩ := H
    go_enter Try.func15, Try.ntmps15
    go_wp2
    go_ret2
    exact ⟨by first | rfl | (simp; done) | (simp [*]; done), by repeat (first | exact Drawn0.refl _ | apply Drawn0.step)⟩
  · rw [if_neg c4] at H
    have c4b0 : (a0 == 3) = false := beq_eq_false_iff_ne.mpr c4
    have c4b1 : (a0 != 3) = true := bne_iff_ne.mpr c4
    by_cases c5 : a0 = 4
    · rw [if_pos c5] at H
      have c5b0 : (a0 == 4) = true := beq_iff_eq.mpr c5
      have c5b1 : (a0 != 4) = false := bne_eq_false_iff_eq.mpr c5
      clear c5
      simp only [Option.some.injEq, Prod.mk.injEq] at H
      obtain ⟨rfl, rfl⟩ := H
      go_enter Try.func15, Try.ntmps15
      go_wp2
      go_ret2
      exact ⟨by first | rfl | (simp; done) | (simp [*]; done), by repeat (first | exact Drawn0.refl _ | apply Drawn0.step)⟩
    · rw [if_neg c5] at H
      have c5b0 : (a0 == 4) = false := beq_eq_false_iff_ne.mpr c5
      have c5b1 : (a0 != 4) = true := bne_iff_ne.mpr c5
      by_cases c6 : a0 = 5
      · rw [if_pos c6] at H
        have c6b0 : (a0 == 5) = true := beq_iff_eq.mpr c6
        have c6b1 : (a0 != 5) = false := bne_eq_false_iff_eq.mpr c6
        clear c6
        simp only [Option.some.injEq, Prod.mk.injEq] at H
        obtain ⟨rfl, rfl⟩ := H
        go_enter Try.func15, Try.ntmps15
        go_wp2
        go_ret2
        exact ⟨by first | rfl | (simp; done) | (simp [*]; done), by repeat (first | exact Drawn0.refl _ | apply Drawn0.step)⟩
      · rw [if_neg c6] at H
        have c6b0 : (a0 == 5) = false := beq_eq_false_iff_ne.mpr c6
        have c6b1 : (a0 != 5) = true := bne_iff_ne.mpr c6
        by_cases c7 : a0 = 6
        · rw [if_pos c7] at H
          have c7b0 : (a0 == 6) = true := beq_iff_eq.mpr c7
          have c7b1 : (a0 != 6) = false := bne_eq_false_iff_eq.mpr c7
          clear c7
          replace H := Option.bind_eq_some_iff.mp H
          obtain ⟨t101, A80, H⟩ := H
          replace H : (some (t101, true)) = some (r1, r2) := H
          have A8 := Aside0.mk A80
          clear A80
          simp only [Option.some.injEq, Prod.mk.injEq] at H
          obtain ⟨rfl, rfl⟩ := H
          go_enter Try.func15, Try.ntmps15
          go_wp2_with (first | ((with_reducible refine gate_callee (f := 41) rfl ?_); refine goesL_ (some 28) rfl rfl Try.func41 (by kernel_rfl) rfl #[.int .u64 a1, .int .u64 a2] rfl (by (try simp only [List.map_toArray, List.map_cons, List.map_nil]); first | done | rfl | (simp only [List.length_drop, List.length_take]; rfl)) ?_; (with_reducible refine (alu_quotient.calls a1 a2 t101 _ A8.out).mono ?_); rintro e w' ⟨rfl, ⟨nd, rfl⟩⟩; refine ⟨_, rfl, ?_⟩))
          go_ret2
          exact ⟨by first | rfl | (simp; done) | (simp [*]; done), by repeat (first | exact Drawn0.refl _ | apply Drawn0.step)⟩
        · rw [if_neg c7] at H
          have c7b0 : (a0 == 6) = false := beq_eq_false_iff_ne.mpr c7
          have c7b1 : (a0 != 6) = true := bne_iff_ne.mpr c7
          by_cases c9 : a0 = 7
          · rw [if_pos c9] at H
            have c9b0 : (a0 == 7) = true := beq_iff_eq.mpr c9
            have c9b1 : (a0 != 7) = false := bne_eq_false_iff_eq.mpr c9
            clear c9
            replace H := Option.bind_eq_some_iff.mp H
            obtain ⟨t102, A100, H⟩ := H
            replace H : (some (t102, true)) = some (r1, r2) := H
            have A10 := Aside0.mk A100
            clear A100
            simp only [Option.some.injEq, Prod.mk.injEq] at H
            obtain ⟨rfl, rfl⟩ := H
            go_enter Try.func15, Try.ntmps15
            go_wp2_with (first | ((with_reducible refine gate_callee (f := 42) rfl ?_); refine goesL_ (some 33) rfl rfl Try.func42 (by kernel_rfl) rfl #[.int .u64 a1, .int .u64 a2] rfl (by (try simp only [List.map_toArray, List.map_cons, List.map_nil]); first | done | rfl | (simp only [List.length_drop, List.length_take]; rfl)) ?_; (with_reducible refine (alu_rest.calls a1 a2 t102 _ A10.out).mono ?_); rintro e w' ⟨rfl, ⟨nd, rfl⟩⟩; refine ⟨_, rfl, ?_⟩))
            go_ret2
            exact ⟨by first | rfl | (simp; done) | (simp [*]; done), by repeat (first | exact Drawn0.refl _ | apply Drawn0.step)⟩
          · rw [if_neg c9] at H
            have c9b0 : (a0 == 7) = false := beq_eq_false_iff_ne.mpr c9
            have c9b1 : (a0 != 7) = true := bne_iff_ne.mpr c9
            by_cases c11 : a0 = 8
            · rw [if_pos c11] at H
              have c11b0 : (a0 == 8) = true := beq_iff_eq.mpr c11
              have c11b1 : (a0 != 8) = false := bne_eq_false_iff_eq.mpr c11
              clear c11
              simp only [Option.some.injEq, Prod.mk.injEq] at H
              obtain ⟨rfl, rfl⟩ := H
              go_enter Try.func15, Try.ntmps15
              go_wp2
              go_ret2
              exact ⟨by first | rfl | (simp; done) | (simp [*]; done), by repeat (first | exact Drawn0.refl _ | apply Drawn0.step)⟩
            · rw [if_neg c11] at H
              have c11b0 : (a0 == 8) = false := beq_eq_false_iff_ne.mpr c11
              have c11b1 : (a0 != 8) = true := bne_iff_ne.mpr c11
              by_cases c12 : a0 = 9
              · rw [if_pos c12] at H
                have c12b0 : (a0 == 9) = true := beq_iff_eq.mpr c12
                have c12b1 : (a0 != 9) = false := bne_eq_false_iff_eq.mpr c12
                clear c12
                simp only [Option.some.injEq, Prod.mk.injEq] at H
                obtain ⟨rfl, rfl⟩ := H
                go_enter Try.func15, Try.ntmps15
                go_wp2
                go_ret2
                exact ⟨by first | rfl | (simp; done) | (simp [*]; done), by repeat (first | exact Drawn0.refl _ | apply Drawn0.step)⟩
              · rw [if_neg c12] at H
                have c12b0 : (a0 == 9) = false := beq_eq_false_iff_ne.mpr c12
                have c12b1 : (a0 != 9) = true := bne_iff_ne.mpr c12
                by_cases c13 : a0 = 10
                · rw [if_pos c13] at H
                  have c13b0 : (a0 == 10) = true := beq_iff_eq.mpr c13
                  have c13b1 : (a0 != 10) = false := bne_eq_false_iff_eq.mpr c13
                  clear c13
                  simp only [Option.some.injEq, Prod.mk.injEq] at H
                  obtain ⟨rfl, rfl⟩ := H
                  go_enter Try.func15, Try.ntmps15
                  go_wp2
                  go_ret2
                  exact ⟨by first | rfl | (simp; done) | (simp [*]; done), by repeat (first | exact Drawn0.refl _ | apply Drawn0.step)⟩
                · rw [if_neg c13] at H
                  have c13b0 : (a0 == 10) = false := beq_eq_false_iff_ne.mpr c13
                  have c13b1 : (a0 != 10) = true := bne_iff_ne.mpr c13
                  by_cases c14 : a0 = 11
                  · rw [if_pos c14] at H
                    have c14b0 : (a0 == 11) = true := beq_iff_eq.mpr c14
                    have c14b1 : (a0 != 11) = false := bne_eq_false_iff_eq.mpr c14
                    clear c14
                    by_cases c15 : 0 ≤ (Go.bits .and .u64 a2 63)
                    · rw [if_pos c15] at H
                      have c15b0 := eq_true c15
                      have c15b1 : decide (0 ≤ (Go.bits .and .u64 a2 63)) = true := decide_eq_true c15
                      clear c15
                      obtain ⟨ji16, hji16⟩ : ∃ j_ : Int, (shl .u64 a1 (Go.bits .and .u64 a2 63)) = j_ := ⟨_, rfl⟩
                      replace H : (some (ji16, true)) = some (r1, r2) := by first | (rw [hji16] at H; exact H) | (simp only [hji16] at H ⊢; exact H)
                      have hji16_ : (IntKind.u64.wrap (a1 * 2 ^ min (Go.bits .and .u64 a2 63).toNat 64)) = ji16 := hji16
                      have hji16z : (Go.bits .and .u64 a2 63) ≤ 64 → (IntKind.u64.wrap (a1 * 2 ^ (Go.bits .and .u64 a2 63).toNat)) = ji16 := shl_small hji16
                      simp only [Option.some.injEq, Prod.mk.injEq] at H
                      obtain ⟨rfl, rfl⟩ := H
                      go_enter Try.func15, Try.ntmps15
                      go_wp2
                      go_ret2
                      exact ⟨by first | rfl | (simp; done) | (simp only [← hji16] <;> (first | rfl | simp)) | (simp [*]; done), by repeat (first | exact Drawn0.refl _ | apply Drawn0.step)⟩
                    · rw [if_neg c15] at H
                      exact absurd H (by simp)
                  · rw [if_neg c14] at H
                    have c14b0 : (a0 == 11) = false := beq_eq_false_iff_ne.mpr c14
                    have c14b1 : (a0 != 11) = true := bne_iff_ne.mpr c14
                    by_cases c17 : a0 = 12
                    · rw [if_pos c17] at H
                      have c17b0 : (a0 == 12) = true := beq_iff_eq.mpr c17
                      have c17b1 : (a0 != 12) = false := bne_eq_false_iff_eq.mpr c17
                      clear c17
                      by_cases c18 : 0 ≤ (Go.bits .and .u64 a2 63)
                      · rw [if_pos c18] at H
                        have c18b0 := eq_true c18
                        have c18b1 : decide (0 ≤ (Go.bits .and .u64 a2 63)) = true := decide_eq_true c18
                        clear c18
                        obtain ⟨ji19, hji19⟩ : ∃ j_ : Int, (shr .u64 a1 (Go.bits .and .u64 a2 63)) = j_ := ⟨_, rfl⟩
                        replace H : (some (ji19, true)) = some (r1, r2) := by first | (rw [hji19] at H; exact H) | (simp only [hji19] at H ⊢; exact H)
                        have hji19_ : (a1 / 2 ^ min (Go.bits .and .u64 a2 63).toNat 64) = ji19 := hji19
                        have hji19z : (Go.bits .and .u64 a2 63) ≤ 64 → (a1 / 2 ^ (Go.bits .and .u64 a2 63).toNat) = ji19 := shr_small hji19
                        simp only [Option.some.injEq, Prod.mk.injEq] at H
                        obtain ⟨rfl, rfl⟩ := H
                        go_enter Try.func15, Try.ntmps15
                        go_wp2
                        go_ret2
                        exact ⟨by first | rfl | (simp; done) | (simp only [← hji19] <;> (first | rfl | simp)) | (simp [*]; done), by repeat (first | exact Drawn0.refl _ | apply Drawn0.step)⟩
                      · rw [if_neg c18] at H
                        exact absurd H (by simp)
                    · rw [if_neg c17] at H
                      have c17b0 : (a0 == 12) = false := beq_eq_false_iff_ne.mpr c17
                      have c17b1 : (a0 != 12) = true := bne_iff_ne.mpr c17
                      by_cases c20 : a0 = 13
                      · rw [if_pos c20] at H
                        have c20b0 : (a0 == 13) = true := beq_iff_eq.mpr c20
                        have c20b1 : (a0 != 13) = false := bne_eq_false_iff_eq.mpr c20
                        clear c20
                        replace H := Option.bind_eq_some_iff.mp H
                        obtain ⟨t103, A210, H⟩ := H
                        replace H : (some (t103, true)) = some (r1, r2) := H
                        have A21 := Aside0.mk A210
                        clear A210
                        simp only [Option.some.injEq, Prod.mk.injEq] at H
                        obtain ⟨rfl, rfl⟩ := H
                        go_enter Try.func15, Try.ntmps15
                        go_wp2_with (first | ((with_reducible refine gate_callee (f := 43) rfl ?_); refine goesL_ (some 66) rfl rfl Try.func43 (by kernel_rfl) rfl #[.bool (decide (a1 < a2))] rfl (by (try simp only [List.map_toArray, List.map_cons, List.map_nil]); first | done | rfl | (simp only [List.length_drop, List.length_take]; rfl)) ?_; (with_reducible refine (alu_is.calls (decide (a1 < a2)) t103 _ A21.out).mono ?_); rintro e w' ⟨rfl, ⟨nd, rfl⟩⟩; refine ⟨_, rfl, ?_⟩))
                        go_ret2
                        exact ⟨by first | rfl | (simp; done) | (simp [*]; done), by repeat (first | exact Drawn0.refl _ | apply Drawn0.step)⟩
                      · rw [if_neg c20] at H
                        have c20b0 : (a0 == 13) = false := beq_eq_false_iff_ne.mpr c20
                        have c20b1 : (a0 != 13) = true := bne_iff_ne.mpr c20
                        by_cases c22 : a0 = 14
                        · rw [if_pos c22] at H
                          have c22b0 : (a0 == 14) = true := beq_iff_eq.mpr c22
                          have c22b1 : (a0 != 14) = false := bne_eq_false_iff_eq.mpr c22
                          clear c22
                          replace H := Option.bind_eq_some_iff.mp H
                          obtain ⟨t104, A230, H⟩ := H
                          replace H : (some (t104, true)) = some (r1, r2) := H
                          have A23 := Aside0.mk A230
                          clear A230
                          simp only [Option.some.injEq, Prod.mk.injEq] at H
                          obtain ⟨rfl, rfl⟩ := H
                          go_enter Try.func15, Try.ntmps15
                          go_wp2_with (first | ((with_reducible refine gate_callee (f := 43) rfl ?_); refine goesL_ (some 72) rfl rfl Try.func43 (by kernel_rfl) rfl #[.bool (a1 == a2)] rfl (by (try simp only [List.map_toArray, List.map_cons, List.map_nil]); first | done | rfl | (simp only [List.length_drop, List.length_take]; rfl)) ?_; (with_reducible refine (alu_is.calls (a1 == a2) t104 _ A23.out).mono ?_); rintro e w' ⟨rfl, ⟨nd, rfl⟩⟩; refine ⟨_, rfl, ?_⟩))
                          go_ret2
                          exact ⟨by first | rfl | (simp; done) | (simp [*]; done), by repeat (first | exact Drawn0.refl _ | apply Drawn0.step)⟩
                        · rw [if_neg c22] at H
                          have c22b0 : (a0 == 14) = false := beq_eq_false_iff_ne.mpr c22
                          have c22b1 : (a0 != 14) = true := bne_iff_ne.mpr c22
                          simp only [Option.some.injEq, Prod.mk.injEq] at H
                          obtain ⟨rfl, rfl⟩ := H
                          go_enter Try.func15, Try.ntmps15
                          go_wp2
                          go_ret2
                          exact ⟨by first | rfl | (simp; done) | (simp [*]; done), by repeat (first | exact Drawn0.refl _ | apply Drawn0.step)⟩

/-! ### rondeauref08_bits: function 44 -/
def rondeauref08_bits.l0 : Nat → Int → Int → Int → Int → Int → Int → Option (Int)
  | 0, _, _, _, _, _, _ => none
  | k + 1, x0, x1, x2, x7, x8, x9 => if x9 < 64 then (if x0 = 8 then (if (IntKind.u64.wrap ((Int.tmod x1 2) + (Int.tmod x2 2))) = 2 then (rondeauref08_bits.l0 k x0 (IntKind.u64.wrap (Int.tdiv x1 2)) (IntKind.u64.wrap (Int.tdiv x2 2)) (IntKind.u64.wrap (x7 + x8)) (IntKind.u64.wrap (x8 * 2)) (wrap64 (x9 + 1))) else (if x0 = 9 then (if (IntKind.u64.wrap ((Int.tmod x1 2) + (Int.tmod x2 2))) > 0 then (rondeauref08_bits.l0 k x0 (IntKind.u64.wrap (Int.tdiv x1 2)) (IntKind.u64.wrap (Int.tdiv x2 2)) (IntKind.u64.wrap (x7 + x8)) (IntKind.u64.wrap (x8 * 2)) (wrap64 (x9 + 1))) else (if x0 = 10 then (if (IntKind.u64.wrap ((Int.tmod x1 2) + (Int.tmod x2 2))) = 1 then (rondeauref08_bits.l0 k x0 (IntKind.u64.wrap (Int.tdiv x1 2)) (IntKind.u64.wrap (Int.tdiv x2 2)) (IntKind.u64.wrap (x7 + x8)) (IntKind.u64.wrap (x8 * 2)) (wrap64 (x9 + 1))) else (rondeauref08_bits.l0 k x0 (IntKind.u64.wrap (Int.tdiv x1 2)) (IntKind.u64.wrap (Int.tdiv x2 2)) x7 (IntKind.u64.wrap (x8 * 2)) (wrap64 (x9 + 1)))) else (rondeauref08_bits.l0 k x0 (IntKind.u64.wrap (Int.tdiv x1 2)) (IntKind.u64.wrap (Int.tdiv x2 2)) x7 (IntKind.u64.wrap (x8 * 2)) (wrap64 (x9 + 1))))) else (if x0 = 10 then (if (IntKind.u64.wrap ((Int.tmod x1 2) + (Int.tmod x2 2))) = 1 then (rondeauref08_bits.l0 k x0 (IntKind.u64.wrap (Int.tdiv x1 2)) (IntKind.u64.wrap (Int.tdiv x2 2)) (IntKind.u64.wrap (x7 + x8)) (IntKind.u64.wrap (x8 * 2)) (wrap64 (x9 + 1))) else (rondeauref08_bits.l0 k x0 (IntKind.u64.wrap (Int.tdiv x1 2)) (IntKind.u64.wrap (Int.tdiv x2 2)) x7 (IntKind.u64.wrap (x8 * 2)) (wrap64 (x9 + 1)))) else (rondeauref08_bits.l0 k x0 (IntKind.u64.wrap (Int.tdiv x1 2)) (IntKind.u64.wrap (Int.tdiv x2 2)) x7 (IntKind.u64.wrap (x8 * 2)) (wrap64 (x9 + 1)))))) else (if x0 = 9 then (if (IntKind.u64.wrap ((Int.tmod x1 2) + (Int.tmod x2 2))) > 0 then (rondeauref08_bits.l0 k x0 (IntKind.u64.wrap (Int.tdiv x1 2)) (IntKind.u64.wrap (Int.tdiv x2 2)) (IntKind.u64.wrap (x7 + x8)) (IntKind.u64.wrap (x8 * 2)) (wrap64 (x9 + 1))) else (if x0 = 10 then (if (IntKind.u64.wrap ((Int.tmod x1 2) + (Int.tmod x2 2))) = 1 then (rondeauref08_bits.l0 k x0 (IntKind.u64.wrap (Int.tdiv x1 2)) (IntKind.u64.wrap (Int.tdiv x2 2)) (IntKind.u64.wrap (x7 + x8)) (IntKind.u64.wrap (x8 * 2)) (wrap64 (x9 + 1))) else (rondeauref08_bits.l0 k x0 (IntKind.u64.wrap (Int.tdiv x1 2)) (IntKind.u64.wrap (Int.tdiv x2 2)) x7 (IntKind.u64.wrap (x8 * 2)) (wrap64 (x9 + 1)))) else (rondeauref08_bits.l0 k x0 (IntKind.u64.wrap (Int.tdiv x1 2)) (IntKind.u64.wrap (Int.tdiv x2 2)) x7 (IntKind.u64.wrap (x8 * 2)) (wrap64 (x9 + 1))))) else (if x0 = 10 then (if (IntKind.u64.wrap ((Int.tmod x1 2) + (Int.tmod x2 2))) = 1 then (rondeauref08_bits.l0 k x0 (IntKind.u64.wrap (Int.tdiv x1 2)) (IntKind.u64.wrap (Int.tdiv x2 2)) (IntKind.u64.wrap (x7 + x8)) (IntKind.u64.wrap (x8 * 2)) (wrap64 (x9 + 1))) else (rondeauref08_bits.l0 k x0 (IntKind.u64.wrap (Int.tdiv x1 2)) (IntKind.u64.wrap (Int.tdiv x2 2)) x7 (IntKind.u64.wrap (x8 * 2)) (wrap64 (x9 + 1)))) else (rondeauref08_bits.l0 k x0 (IntKind.u64.wrap (Int.tdiv x1 2)) (IntKind.u64.wrap (Int.tdiv x2 2)) x7 (IntKind.u64.wrap (x8 * 2)) (wrap64 (x9 + 1)))))) else (some x7)
def rondeauref08_bits.f (k : Nat) (a0 : Int) (a1 : Int) (a2 : Int) : Option (Int) := rondeauref08_bits.l0 k a0 a1 a2 0 1 0
theorem rondeauref08_bits.mono_l : ∀ k, (∀ y0 y1 y2 y3 y4 y5, LeO (rondeauref08_bits.l0 k y0 y1 y2 y3 y4 y5) (rondeauref08_bits.l0 (k + 1) y0 y1 y2 y3 y4 y5))
  | 0 => fun _ _ _ _ _ _ r h => by simp [rondeauref08_bits.l0] at h
  | k + 1 => by
    have ih0 := rondeauref08_bits.mono_l k
    · intro y0 y1 y2 y3 y4 y5
      unfold rondeauref08_bits.l0
      repeat' first
      | (with_reducible exact ih0 _ _ _ _ _ _)
      | (with_reducible exact LeO.refl _)
      | (with_reducible exact LeO.none _)
      | (with_reducible refine LeO.ite ?_ ?_)
      | (with_reducible refine LeO.bind ?_ (fun _ => ?_))
      | exact ih0 _ _ _ _ _ _
      | exact LeO.none _
      | refine LeO.ite ?_ ?_
      | refine LeO.bind ?_ (fun _ => ?_)
theorem rondeauref08_bits.mono : ∀ a0 a1 a2 k, LeO (rondeauref08_bits.f k a0 a1 a2) (rondeauref08_bits.f (k + 1) a0 a1 a2) := by
  intro a0 a1 a2 k
  have ih0 := rondeauref08_bits.mono_l k
  unfold rondeauref08_bits.f
  repeat' first
      | (with_reducible exact ih0 _ _ _ _ _ _)
      | (with_reducible exact LeO.refl _)
      | (with_reducible exact LeO.none _)
      | (with_reducible refine LeO.ite ?_ ?_)
      | (with_reducible refine LeO.bind ?_ (fun _ => ?_))
      | exact ih0 _ _ _ _ _ _
      | exact LeO.none _
      | refine LeO.ite ?_ ?_
      | refine LeO.bind ?_ (fun _ => ?_)
set_option maxHeartbeats 8000000 in
set_option maxRecDepth 100000 in
theorem rondeauref08_bits.calls (k : Nat) (a0 : Int) (a1 : Int) (a2 : Int) (r : Int) (w : World) (h : rondeauref08_bits.f k a0 a1 a2 = some r) :
    Calls Try.prog 44 #[.int .i64 a0, .int .u64 a1, .int .u64 a2] w fun e w' => e = .returned (.int .u64 r) ∧ Drawn0 w w' := by
  have H : (rondeauref08_bits.l0 k a0 a1 a2 0 1 0) = some r := h
  clear h
  have H' := Aside0.mk H
  clear H
  go_enter Try.func44, Try.ntmps44
  go_wp2
  go_loopg [1, 2, 7, 8, 9] k (fun kq v1 v2 v7 v8 v9 w' => ∃ (x1_1 : Int) (x2_1 : Int) (x7_1 : Int) (x8_1 : Int) (x9_1 : Int), v1 = .int .u64 x1_1 ∧ v2 = .int .u64 x2_1 ∧ v7 = .int .u64 x7_1 ∧ v8 = .int .u64 x8_1 ∧ v9 = .int .i64 x9_1 ∧ Aside0 (rondeauref08_bits.l0 kq a0 x1_1 x2_1 x7_1 x8_1 x9_1 = some r) ∧ Aside0 (kq ≤ k) ∧ Drawn0 w w')
  case atStart => exact ⟨(a1), (a2), (0), (1), (0), (by first | rfl | (simp; done) | (simp [*]; done)), (by first | rfl | (simp; done) | (simp [*]; done)), (by first | rfl | (simp; done) | (simp [*]; done)), (by first | rfl | (simp; done) | (simp [*]; done)), (by first | rfl | (simp; done) | (simp [*]; done)), H', ⟨Nat.le_refl _⟩, by repeat (first | exact Drawn0.refl _ | apply Drawn0.step)⟩
  case round =>
    clear H'
    try clear p2
    obtain ⟨x1_1, x2_1, x7_1, x8_1, x9_1, rfl, rfl, rfl, rfl, rfl, HA, HK1, ⟨m1, rfl⟩⟩ := hrel
    cases gk with
    | zero => exact absurd HA.out (by simp [rondeauref08_bits.l0])
    | succ k1 =>
      have H := HA.out
      clear HA
      simp only [rondeauref08_bits.l0] at H
      by_cases c4 : x9_1 < 64
      · rw [if_pos c4] at H
        have c4b0 : decide (x9_1 < 64) = true := decide_eq_true c4
        clear c4
        by_cases c5 : a0 = 8
        · rw [if_pos c5] at H
          have c5b0 : (a0 == 8) = true := beq_iff_eq.mpr c5
          have c5b1 : (a0 != 8) = false := bne_eq_false_iff_eq.mpr c5
          clear c5
          by_cases c6 : (IntKind.u64.wrap ((Int.tmod x1_1 2) + (Int.tmod x2_1 2))) = 2
          · rw [if_pos c6] at H
            have c6b0 : ((IntKind.u64.wrap ((Int.tmod x1_1 2) + (Int.tmod x2_1 2))) == 2) = true := beq_iff_eq.mpr c6
            have c6b1 : ((IntKind.u64.wrap ((Int.tmod x1_1 2) + (Int.tmod x2_1 2))) != 2) = false := bne_eq_false_iff_eq.mpr c6
            clear c6
            have H' := Aside0.mk H
            clear H
            go_wp2
            go_roundg k1
            case measure => have := HK1.out; omega
            case rel => exact ⟨(IntKind.u64.wrap (Int.tdiv x1_1 2)), (IntKind.u64.wrap (Int.tdiv x2_1 2)), (IntKind.u64.wrap (x7_1 + x8_1)), (IntKind.u64.wrap (x8_1 * 2)), (wrap64 (x9_1 + 1)), (by first | rfl | (simp; done) | (simp [*]; done)), (by first | rfl | (simp; done) | (simp [*]; done)), (by first | rfl | (simp; done) | (simp [*]; done)), (by first | rfl | (simp; done) | (simp [*]; done)), (by first | rfl | (simp; done) | (simp [*]; done)), H', ⟨by have := HK1.out; omega⟩, by repeat (first | exact Drawn0.refl _ | apply Drawn0.step)⟩
          · rw [if_neg c6] at H
            have c6b0 : ((IntKind.u64.wrap ((Int.tmod x1_1 2) + (Int.tmod x2_1 2))) == 2) = false := beq_eq_false_iff_ne.mpr c6
            have c6b1 : ((IntKind.u64.wrap ((Int.tmod x1_1 2) + (Int.tmod x2_1 2))) != 2) = true := bne_iff_ne.mpr c6
            by_cases c7 : a0 = 9
            · rw [if_pos c7] at H
              have c7b0 : (a0 == 9) = true := beq_iff_eq.mpr c7
              have c7b1 : (a0 != 9) = false := bne_eq_false_iff_eq.mpr c7
              clear c7
              by_cases c8 : (IntKind.u64.wrap ((Int.tmod x1_1 2) + (Int.tmod x2_1 2))) > 0
              · rw [if_pos c8] at H
                have c8b0 : decide (0 < (IntKind.u64.wrap ((Int.tmod x1_1 2) + (Int.tmod x2_1 2)))) = true := decide_eq_true c8
                clear c8
                have H' := Aside0.mk H
                clear H
                go_wp2
                go_roundg k1
                case measure => have := HK1.out; omega
                case rel => exact ⟨(IntKind.u64.wrap (Int.tdiv x1_1 2)), (IntKind.u64.wrap (Int.tdiv x2_1 2)), (IntKind.u64.wrap (x7_1 + x8_1)), (IntKind.u64.wrap (x8_1 * 2)), (wrap64 (x9_1 + 1)), (by first | rfl | (simp; done) | (simp [*]; done)), (by first | rfl | (simp; done) | (simp [*]; done)), (by first | rfl | (simp; done) | (simp [*]; done)), (by first | rfl | (simp; done) | (simp [*]; done)), (by first | rfl | (simp; done) | (simp [*]; done)), H', ⟨by have := HK1.out; omega⟩, by repeat (first | exact Drawn0.refl _ | apply Drawn0.step)⟩
              · rw [if_neg c8] at H
                have c8b0 : decide (0 < (IntKind.u64.wrap ((Int.tmod x1_1 2) + (Int.tmod x2_1 2)))) = false := decide_eq_false c8
                clear c8
                by_cases c9 : a0 = 10
                · rw [if_pos c9] at H
                  have c9b0 : (a0 == 10) = true := beq_iff_eq.mpr c9
                  have c9b1 : (a0 != 10) = false := bne_eq_false_iff_eq.mpr c9
                  clear c9
                  by_cases c10 : (IntKind.u64.wrap ((Int.tmod x1_1 2) + (Int.tmod x2_1 2))) = 1
                  · rw [if_pos c10] at H
                    have c10b0 : ((IntKind.u64.wrap ((Int.tmod x1_1 2) + (Int.tmod x2_1 2))) == 1) = true := beq_iff_eq.mpr c10
                    have c10b1 : ((IntKind.u64.wrap ((Int.tmod x1_1 2) + (Int.tmod x2_1 2))) != 1) = false := bne_eq_false_iff_eq.mpr c10
                    clear c10
                    have H' := Aside0.mk H
                    clear H
                    go_wp2
                    go_roundg k1
                    case measure => have := HK1.out; omega
                    case rel => exact ⟨(IntKind.u64.wrap (Int.tdiv x1_1 2)), (IntKind.u64.wrap (Int.tdiv x2_1 2)), (IntKind.u64.wrap (x7_1 + x8_1)), (IntKind.u64.wrap (x8_1 * 2)), (wrap64 (x9_1 + 1)), (by first | rfl | (simp; done) | (simp [*]; done)), (by first | rfl | (simp; done) | (simp [*]; done)), (by first | rfl | (simp; done) | (simp [*]; done)), (by first | rfl | (simp; done) | (simp [*]; done)), (by first | rfl | (simp; done) | (simp [*]; done)), H', ⟨by have := HK1.out; omega⟩, by repeat (first | exact Drawn0.refl _ | apply Drawn0.step)⟩
                  · rw [if_neg c10] at H
                    have c10b0 : ((IntKind.u64.wrap ((Int.tmod x1_1 2) + (Int.tmod x2_1 2))) == 1) = false := beq_eq_false_iff_ne.mpr c10
                    have c10b1 : ((IntKind.u64.wrap ((Int.tmod x1_1 2) + (Int.tmod x2_1 2))) != 1) = true := bne_iff_ne.mpr c10
                    have H' := Aside0.mk H
                    clear H
                    go_wp2
                    go_roundg k1
                    case measure => have := HK1.out; omega
                    case rel => exact ⟨(IntKind.u64.wrap (Int.tdiv x1_1 2)), (IntKind.u64.wrap (Int.tdiv x2_1 2)), (x7_1), (IntKind.u64.wrap (x8_1 * 2)), (wrap64 (x9_1 + 1)), (by first | rfl | (simp; done) | (simp [*]; done)), (by first | rfl | (simp; done) | (simp [*]; done)), (by first | rfl | (simp; done) | (simp [*]; done)), (by first | rfl | (simp; done) | (simp [*]; done)), (by first | rfl | (simp; done) | (simp [*]; done)), H', ⟨by have := HK1.out; omega⟩, by repeat (first | exact Drawn0.refl _ | apply Drawn0.step)⟩
                · rw [if_neg c9] at H
                  have c9b0 : (a0 == 10) = false := beq_eq_false_iff_ne.mpr c9
                  have c9b1 : (a0 != 10) = true := bne_iff_ne.mpr c9
                  have H' := Aside0.mk H
                  clear H
                  go_wp2
                  go_roundg k1
                  case measure => have := HK1.out; omega
                  case rel => exact ⟨(IntKind.u64.wrap (Int.tdiv x1_1 2)), (IntKind.u64.wrap (Int.tdiv x2_1 2)), (x7_1), (IntKind.u64.wrap (x8_1 * 2)), (wrap64 (x9_1 + 1)), (by first | rfl | (simp; done) | (simp [*]; done)), (by first | rfl | (simp; done) | (simp [*]; done)), (by first | rfl | (simp; done) | (simp [*]; done)), (by first | rfl | (simp; done) | (simp [*]; done)), (by first | rfl | (simp; done) | (simp [*]; done)), H', ⟨by have := HK1.out; omega⟩, by repeat (first | exact Drawn0.refl _ | apply Drawn0.step)⟩
            · rw [if_neg c7] at H
              have c7b0 : (a0 == 9) = false := beq_eq_false_iff_ne.mpr c7
              have c7b1 : (a0 != 9) = true := bne_iff_ne.mpr c7
              by_cases c11 : a0 = 10
              · rw [if_pos c11] at H
                have c11b0 : (a0 == 10) = true := beq_iff_eq.mpr c11
                have c11b1 : (a0 != 10) = false := bne_eq_false_iff_eq.mpr c11
                clear c11
                by_cases c12 : (IntKind.u64.wrap ((Int.tmod x1_1 2) + (Int.tmod x2_1 2))) = 1
                · rw [if_pos c12] at H
                  have c12b0 : ((IntKind.u64.wrap ((Int.tmod x1_1 2) + (Int.tmod x2_1 2))) == 1) = true := beq_iff_eq.mpr c12
                  have c12b1 : ((IntKind.u64.wrap ((Int.tmod x1_1 2) + (Int.tmod x2_1 2))) != 1) = false := bne_eq_false_iff_eq.mpr c12
                  clear c12
                  have H' := Aside0.mk H
                  clear H
                  go_wp2
                  go_roundg k1
                  case measure => have := HK1.out; omega
                  case rel => exact ⟨(IntKind.u64.wrap (Int.tdiv x1_1 2)), (IntKind.u64.wrap (Int.tdiv x2_1 2)), (IntKind.u64.wrap (x7_1 + x8_1)), (IntKind.u64.wrap (x8_1 * 2)), (wrap64 (x9_1 + 1)), (by first | rfl | (simp; done) | (simp [*]; done)), (by first | rfl | (simp; done) | (simp [*]; done)), (by first | rfl | (simp; done) | (simp [*]; done)), (by first | rfl | (simp; done) | (simp [*]; done)), (by first | rfl | (simp; done) | (simp [*]; done)), H', ⟨by have := HK1.out; omega⟩, by repeat (first | exact Drawn0.refl _ | apply Drawn0.step)⟩
                · rw [if_neg c12] at H
                  have c12b0 : ((IntKind.u64.wrap ((Int.tmod x1_1 2) + (Int.tmod x2_1 2))) == 1) = false := beq_eq_false_iff_ne.mpr c12
                  have c12b1 : ((IntKind.u64.wrap ((Int.tmod x1_1 2) + (Int.tmod x2_1 2))) != 1) = true := bne_iff_ne.mpr c12
                  have H' := Aside0.mk H
                  clear H
                  go_wp2
                  go_roundg k1
                  case measure => have := HK1.out; omega
                  case rel => exact ⟨(IntKind.u64.wrap (Int.tdiv x1_1 2)), (IntKind.u64.wrap (Int.tdiv x2_1 2)), (x7_1), (IntKind.u64.wrap (x8_1 * 2)), (wrap64 (x9_1 + 1)), (by first | rfl | (simp; done) | (simp [*]; done)), (by first | rfl | (simp; done) | (simp [*]; done)), (by first | rfl | (simp; done) | (simp [*]; done)), (by first | rfl | (simp; done) | (simp [*]; done)), (by first | rfl | (simp; done) | (simp [*]; done)), H', ⟨by have := HK1.out; omega⟩, by repeat (first | exact Drawn0.refl _ | apply Drawn0.step)⟩
              · rw [if_neg c11] at H
                have c11b0 : (a0 == 10) = false := beq_eq_false_iff_ne.mpr c11
                have c11b1 : (a0 != 10) = true := bne_iff_ne.mpr c11
                have H' := Aside0.mk H
                clear H
                go_wp2
                go_roundg k1
                case measure => have := HK1.out; omega
                case rel => exact ⟨(IntKind.u64.wrap (Int.tdiv x1_1 2)), (IntKind.u64.wrap (Int.tdiv x2_1 2)), (x7_1), (IntKind.u64.wrap (x8_1 * 2)), (wrap64 (x9_1 + 1)), (by first | rfl | (simp; done) | (simp [*]; done)), (by first | rfl | (simp; done) | (simp [*]; done)), (by first | rfl | (simp; done) | (simp [*]; done)), (by first | rfl | (simp; done) | (simp [*]; done)), (by first | rfl | (simp; done) | (simp [*]; done)), H', ⟨by have := HK1.out; omega⟩, by repeat (first | exact Drawn0.refl _ | apply Drawn0.step)⟩
        · rw [if_neg c5] at H
          have c5b0 : (a0 == 8) = false := beq_eq_false_iff_ne.mpr c5
          have c5b1 : (a0 != 8) = true := bne_iff_ne.mpr c5
          by_cases c13 : a0 = 9
          · rw [if_pos c13] at H
            have c13b0 : (a0 == 9) = true := beq_iff_eq.mpr c13
            have c13b1 : (a0 != 9) = false := bne_eq_false_iff_eq.mpr c13
            clear c13
            by_cases c14 : (IntKind.u64.wrap ((Int.tmod x1_1 2) + (Int.tmod x2_1 2))) > 0
            · rw [if_pos c14] at H
              have c14b0 : decide (0 < (IntKind.u64.wrap ((Int.tmod x1_1 2) + (Int.tmod x2_1 2)))) = true := decide_eq_true c14
              clear c14
              have H' := Aside0.mk H
              clear H
              go_wp2
              go_roundg k1
              case measure => have := HK1.out; omega
              case rel => exact ⟨(IntKind.u64.wrap (Int.tdiv x1_1 2)), (IntKind.u64.wrap (Int.tdiv x2_1 2)), (IntKind.u64.wrap (x7_1 + x8_1)), (IntKind.u64.wrap (x8_1 * 2)), (wrap64 (x9_1 + 1)), (by first | rfl | (simp; done) | (simp [*]; done)), (by first | rfl | (simp; done) | (simp [*]; done)), (by first | rfl | (simp; done) | (simp [*]; done)), (by first | rfl | (simp; done) | (simp [*]; done)), (by first | rfl | (simp; done) | (simp [*]; done)), H', ⟨by have := HK1.out; omega⟩, by repeat (first | exact Drawn0.refl _ | apply Drawn0.step)⟩
            · rw [if_neg c14] at H
              have c14b0 : decide (0 < (IntKind.u64.wrap ((Int.tmod x1_1 2) + (Int.tmod x2_1 2)))) = false := decide_eq_false c14
              clear c14
              by_cases c15 : a0 = 10
              · rw [if_pos c15] at H
                have c15b0 : (a0 == 10) = true := beq_iff_eq.mpr c15
                have c15b1 : (a0 != 10) = false := bne_eq_false_iff_eq.mpr c15
                clear c15
                by_cases c16 : (IntKind.u64.wrap ((Int.tmod x1_1 2) + (Int.tmod x2_1 2))) = 1
                · rw [if_pos c16] at H
                  have c16b0 : ((IntKind.u64.wrap ((Int.tmod x1_1 2) + (Int.tmod x2_1 2))) == 1) = true := beq_iff_eq.mpr c16
                  have c16b1 : ((IntKind.u64.wrap ((Int.tmod x1_1 2) + (Int.tmod x2_1 2))) != 1) = false := bne_eq_false_iff_eq.mpr c16
                  clear c16
                  have H' := Aside0.mk H
                  clear H
                  go_wp2
                  go_roundg k1
                  case measure => have := HK1.out; omega
                  case rel => exact ⟨(IntKind.u64.wrap (Int.tdiv x1_1 2)), (IntKind.u64.wrap (Int.tdiv x2_1 2)), (IntKind.u64.wrap (x7_1 + x8_1)), (IntKind.u64.wrap (x8_1 * 2)), (wrap64 (x9_1 + 1)), (by first | rfl | (simp; done) | (simp [*]; done)), (by first | rfl | (simp; done) | (simp [*]; done)), (by first | rfl | (simp; done) | (simp [*]; done)), (by first | rfl | (simp; done) | (simp [*]; done)), (by first | rfl | (simp; done) | (simp [*]; done)), H', ⟨by have := HK1.out; omega⟩, by repeat (first | exact Drawn0.refl _ | apply Drawn0.step)⟩
                · rw [if_neg c16] at H
                  have c16b0 : ((IntKind.u64.wrap ((Int.tmod x1_1 2) + (Int.tmod x2_1 2))) == 1) = false := beq_eq_false_iff_ne.mpr c16
                  have c16b1 : ((IntKind.u64.wrap ((Int.tmod x1_1 2) + (Int.tmod x2_1 2))) != 1) = true := bne_iff_ne.mpr c16
                  have H' := Aside0.mk H
                  clear H
                  go_wp2
                  go_roundg k1
                  case measure => have := HK1.out; omega
                  case rel => exact ⟨(IntKind.u64.wrap (Int.tdiv x1_1 2)), (IntKind.u64.wrap (Int.tdiv x2_1 2)), (x7_1), (IntKind.u64.wrap (x8_1 * 2)), (wrap64 (x9_1 + 1)), (by first | rfl | (simp; done) | (simp [*]; done)), (by first | rfl | (simp; done) | (simp [*]; done)), (by first | rfl | (simp; done) | (simp [*]; done)), (by first | rfl | (simp; done) | (simp [*]; done)), (by first | rfl | (simp; done) | (simp [*]; done)), H', ⟨by have := HK1.out; omega⟩, by repeat (first | exact Drawn0.refl _ | apply Drawn0.step)⟩
              · rw [if_neg c15] at H
                have c15b0 : (a0 == 10) = false := beq_eq_false_iff_ne.mpr c15
                have c15b1 : (a0 != 10) = true := bne_iff_ne.mpr c15
                have H' := Aside0.mk H
                clear H
                go_wp2
                go_roundg k1
                case measure => have := HK1.out; omega
                case rel => exact ⟨(IntKind.u64.wrap (Int.tdiv x1_1 2)), (IntKind.u64.wrap (Int.tdiv x2_1 2)), (x7_1), (IntKind.u64.wrap (x8_1 * 2)), (wrap64 (x9_1 + 1)), (by first | rfl | (simp; done) | (simp [*]; done)), (by first | rfl | (simp; done) | (simp [*]; done)), (by first | rfl | (simp; done) | (simp [*]; done)), (by first | rfl | (simp; done) | (simp [*]; done)), (by first | rfl | (simp; done) | (simp [*]; done)), H', ⟨by have := HK1.out; omega⟩, by repeat (first | exact Drawn0.refl _ | apply Drawn0.step)⟩
          · rw [if_neg c13] at H
            have c13b0 : (a0 == 9) = false := beq_eq_false_iff_ne.mpr c13
            have c13b1 : (a0 != 9) = true := bne_iff_ne.mpr c13
            by_cases c17 : a0 = 10
            · rw [if_pos c17] at H
              have c17b0 : (a0 == 10) = true := beq_iff_eq.mpr c17
              have c17b1 : (a0 != 10) = false := bne_eq_false_iff_eq.mpr c17
              clear c17
              by_cases c18 : (IntKind.u64.wrap ((Int.tmod x1_1 2) + (Int.tmod x2_1 2))) = 1
              · rw [if_pos c18] at H
                have c18b0 : ((IntKind.u64.wrap ((Int.tmod x1_1 2) + (Int.tmod x2_1 2))) == 1) = true := beq_iff_eq.mpr c18
                have c18b1 : ((IntKind.u64.wrap ((Int.tmod x1_1 2) + (Int.tmod x2_1 2))) != 1) = false := bne_eq_false_iff_eq.mpr c18
                clear c18
                have H' := Aside0.mk H
                clear H
                go_wp2
                go_roundg k1
                case measure => have := HK1.out; omega
                case rel => exact ⟨(IntKind.u64.wrap (Int.tdiv x1_1 2)), (IntKind.u64.wrap (Int.tdiv x2_1 2)), (IntKind.u64.wrap (x7_1 + x8_1)), (IntKind.u64.wrap (x8_1 * 2)), (wrap64 (x9_1 + 1)), (by first | rfl | (simp; done) | (simp [*]; done)), (by first | rfl | (simp; done) | (simp [*]; done)), (by first | rfl | (simp; done) | (simp [*]; done)), (by first | rfl | (simp; done) | (simp [*]; done)), (by first | rfl | (simp; done) | (simp [*]; done)), H', ⟨by have := HK1.out; omega⟩, by repeat (first | exact Drawn0.refl _ | apply Drawn0.step)⟩
              · rw [if_neg c18] at H
                have c18b0 : ((IntKind.u64.wrap ((Int.tmod x1_1 2) + (Int.tmod x2_1 2))) == 1) = false := beq_eq_false_iff_ne.mpr c18
                have c18b1 : ((IntKind.u64.wrap ((Int.tmod x1_1 2) + (Int.tmod x2_1 2))) != 1) = true := bne_iff_ne.mpr c18
                have H' := Aside0.mk H
                clear H
                go_wp2
                go_roundg k1
                case measure => have := HK1.out; omega
                case rel => exact ⟨(IntKind.u64.wrap (Int.tdiv x1_1 2)), (IntKind.u64.wrap (Int.tdiv x2_1 2)), (x7_1), (IntKind.u64.wrap (x8_1 * 2)), (wrap64 (x9_1 + 1)), (by first | rfl | (simp; done) | (simp [*]; done)), (by first | rfl | (simp; done) | (simp [*]; done)), (by first | rfl | (simp; done) | (simp [*]; done)), (by first | rfl | (simp; done) | (simp [*]; done)), (by first | rfl | (simp; done) | (simp [*]; done)), H', ⟨by have := HK1.out; omega⟩, by repeat (first | exact Drawn0.refl _ | apply Drawn0.step)⟩
            · rw [if_neg c17] at H
              have c17b0 : (a0 == 10) = false := beq_eq_false_iff_ne.mpr c17
              have c17b1 : (a0 != 10) = true := bne_iff_ne.mpr c17
              have H' := Aside0.mk H
              clear H
              go_wp2
              go_roundg k1
              case measure => have := HK1.out; omega
              case rel => exact ⟨(IntKind.u64.wrap (Int.tdiv x1_1 2)), (IntKind.u64.wrap (Int.tdiv x2_1 2)), (x7_1), (IntKind.u64.wrap (x8_1 * 2)), (wrap64 (x9_1 + 1)), (by first | rfl | (simp; done) | (simp [*]; done)), (by first | rfl | (simp; done) | (simp [*]; done)), (by first | rfl | (simp; done) | (simp [*]; done)), (by first | rfl | (simp; done) | (simp [*]; done)), (by first | rfl | (simp; done) | (simp [*]; done)), H', ⟨by have := HK1.out; omega⟩, by repeat (first | exact Drawn0.refl _ | apply Drawn0.step)⟩
      · rw [if_neg c4] at H
        have c4b0 : decide (x9_1 < 64) = false := decide_eq_false c4
        clear c4
        obtain rfl := Option.some.inj H
        go_wp2
        go_ret
        exact ⟨by first | rfl | (simp; done) | (simp [*]; done), by repeat (first | exact Drawn0.refl _ | apply Drawn0.step)⟩

end Go.Proofs.Ytmpdghokggdnoaa.PAluDoes
