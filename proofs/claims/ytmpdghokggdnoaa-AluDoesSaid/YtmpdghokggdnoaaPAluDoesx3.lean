-- PRINTED BY print.sh 35421559b90ae4d0a3588c463048766b98c2df88dd9212a6774a882060cdf62d: not written by this session
import Derived.Test.YtmpdghokggdnoaaPAluDoesx0
import Derived.Test.YtmpdghokggdnoaaPAluDoesx1
import Derived.Test.YtmpdghokggdnoaaPAluDoesx2
namespace Go.Proofs.Ytmpdghokggdnoaa.PAluDoes
open Go.RowKit Go.Proofs.YtmpdghokggdnoaaW.PrintWords Go.Proofs.YtmpdghokggdnoaaW.PrintLast Go.Proofs.YtmpdghokggdnoaaW.PrintMore
attribute [local go_sem] max2_int min2_int max_two min_two max_three min_three max_four min_four   -- for this text's walks alone
set_option linter.unusedVariables false
set_option linter.unusedSimpArgs false

/-! ### rondeaulaw08_AluDoes: function 3 -/
def rondeaulaw08_AluDoes.l0 : Nat → Int → Int → Bool → Int → Bool → Bool → List Int → List Int → Int → Int → Option (Bool)
  | 0, _, _, _, _, _, _, _, _, _, _ => none
  | k + 1, x0, x7, x8, x9, x10, x11, x12, x30, x31, x32 => if x32 < x31 then (if 0 ≤ x32 then (if x32 < (x30.length : Int) then (if x32 > 0 then (if 0 ≤ (wrap64 (x32 - 1)) then (if (wrap64 (x32 - 1)) < (x12.length : Int) then (if (rd x12 (wrap64 (x32 - 1))) ≥ (rd x30 x32) then (some false) else (if x11 = true then (rondeaulaw08_AluDoes.l0 k x0 x7 x8 x9 x10 true x12 x30 x31 (wrap64 (x32 + 1))) else (rondeaulaw08_AluDoes.l0 k x0 x7 x8 x9 x10 ((rd x30 x32) == x0) x12 x30 x31 (wrap64 (x32 + 1))))) else (none)) else (none)) else (if x11 = true then (rondeaulaw08_AluDoes.l0 k x0 x7 x8 x9 x10 true x12 x30 x31 (wrap64 (x32 + 1))) else (rondeaulaw08_AluDoes.l0 k x0 x7 x8 x9 x10 ((rd x30 x32) == x0) x12 x30 x31 (wrap64 (x32 + 1))))) else (none)) else (none)) else ((rondeaulaw08_awake.f k).bind fun t134 => (if t134 = true then (if x7 = x9 then (if (x8 == x10) = true then ((alu_Is.f x0).bind fun t135 => (if (t135 == x10) = true then (some (x11 == x10)) else (some false))) else (some false)) else (some false)) else (some false)))
def rondeaulaw08_AluDoes.f (k : Nat) (a0 : Int) (a1 : Int) (a2 : Int) : Option (Bool) := (alu_Do.f a0 a1 a2).bind fun bt125 => ((rondeauref08_Do.f k a0 a1 a2).bind fun bt127 => ((alu_Ops.f k).bind fun t129 => (rondeaulaw08_AluDoes.l0 k a0 bt125.1 bt125.2 bt127.1 bt127.2 false t129 t129 (t129.length : Int) 0)))
theorem rondeaulaw08_AluDoes.mono_l : ∀ k, (∀ y0 y1 y2 y3 y4 y5 y6 y7 y8 y9, LeO (rondeaulaw08_AluDoes.l0 k y0 y1 y2 y3 y4 y5 y6 y7 y8 y9) (rondeaulaw08_AluDoes.l0 (k + 1) y0 y1 y2 y3 y4 y5 y6 y7 y8 y9))
  | 0 => fun _ _ _ _ _ _ _ _ _ _ r h => by simp [rondeaulaw08_AluDoes.l0] at h
  | k + 1 => by
    have ih0 := rondeaulaw08_AluDoes.mono_l k
    · intro y0 y1 y2 y3 y4 y5 y6 y7 y8 y9
      unfold rondeaulaw08_AluDoes.l0
      repeat' first
      | (with_reducible exact ih0 _ _ _ _ _ _ _ _ _ _)
      | (with_reducible exact alu_Ops.mono _)
      | (with_reducible exact rondeaulaw08_awake.mono _)
      | (with_reducible exact rondeauref08_Do.mono _ _ _ _)
      | (with_reducible exact LeO.refl _)
      | (with_reducible exact LeO.none _)
      | (with_reducible refine LeO.ite ?_ ?_)
      | (with_reducible refine LeO.bind ?_ (fun _ => ?_))
      | exact ih0 _ _ _ _ _ _ _ _ _ _
      | exact alu_Ops.mono _
      | exact rondeaulaw08_awake.mono _
      | exact rondeauref08_Do.mono _ _ _ _
      | exact LeO.none _
      | refine LeO.ite ?_ ?_
      | refine LeO.bind ?_ (fun _ => ?_)
theorem rondeaulaw08_AluDoes.mono : ∀ a0 a1 a2 k, LeO (rondeaulaw08_AluDoes.f k a0 a1 a2) (rondeaulaw08_AluDoes.f (k + 1) a0 a1 a2) := by
  intro a0 a1 a2 k
  have ih0 := rondeaulaw08_AluDoes.mono_l k
  unfold rondeaulaw08_AluDoes.f
  repeat' first
      | (with_reducible exact ih0 _ _ _ _ _ _ _ _ _ _)
      | (with_reducible exact alu_Ops.mono _)
      | (with_reducible exact rondeaulaw08_awake.mono _)
      | (with_reducible exact rondeauref08_Do.mono _ _ _ _)
      | (with_reducible exact LeO.refl _)
      | (with_reducible exact LeO.none _)
      | (with_reducible refine LeO.ite ?_ ?_)
      | (with_reducible refine LeO.bind ?_ (fun _ => ?_))
      | exact ih0 _ _ _ _ _ _ _ _ _ _
      | exact alu_Ops.mono _
      | exact rondeaulaw08_awake.mono _
      | exact rondeauref08_Do.mono _ _ _ _
      | exact LeO.none _
      | refine LeO.ite ?_ ?_
      | refine LeO.bind ?_ (fun _ => ?_)
set_option maxHeartbeats 8000000 in
set_option maxRecDepth 100000 in
theorem rondeaulaw08_AluDoes.calls (k : Nat) (a0 : Int) (a1 : Int) (a2 : Int) (r : Bool) (w : World) (h : rondeaulaw08_AluDoes.f k a0 a1 a2 = some r) :
    Calls Try.prog 3 #[.int .i64 a0, .int .u64 a1, .int .u64 a2] w fun e w' => e = .returned (.bool r) ∧ Below w.heap.size w w' := by
  have HB := Aside0.mk (Below.refl w.heap.size w)
  have H : ((alu_Do.f a0 a1 a2).bind fun bt125 => ((rondeauref08_Do.f k a0 a1 a2).bind fun bt127 => ((alu_Ops.f k).bind fun t129 => (rondeaulaw08_AluDoes.l0 k a0 bt125.1 bt125.2 bt127.1 bt127.2 false t129 t129 (t129.length : Int) 0)))) = some r := h
  clear h
  replace H := Option.bind_eq_some_iff.mp H
  obtain ⟨⟨t125, t126⟩, A40, H⟩ := H
  replace H : ((rondeauref08_Do.f k a0 a1 a2).bind fun bt127 => ((alu_Ops.f k).bind fun t129 => (rondeaulaw08_AluDoes.l0 k a0 t125 t126 bt127.1 bt127.2 false t129 t129 (t129.length : Int) 0))) = some r := H
  have A4 := Aside0.mk A40
  clear A40
  replace H := Option.bind_eq_some_iff.mp H
  obtain ⟨⟨t127, t128⟩, A50, H⟩ := H
  replace H : ((alu_Ops.f k).bind fun t129 => (rondeaulaw08_AluDoes.l0 k a0 t125 t126 t127 t128 false t129 t129 (t129.length : Int) 0)) = some r := H
  have A5 := Aside0.mk A50
  clear A50
  replace H := Option.bind_eq_some_iff.mp H
  obtain ⟨t129, A60, H⟩ := H
  replace H : (rondeaulaw08_AluDoes.l0 k a0 t125 t126 t127 t128 false t129 t129 (t129.length : Int) 0) = some r := H
  have A6 := Aside0.mk A60
  clear A60
  have H' := Aside0.mk H
  clear H
  go_enter Try.func3, Try.ntmps3
  go_wp2_with (first | ((with_reducible refine gate_callee (f := 15) rfl ?_); refine goesL_ (some 19) rfl rfl Try.func15 (by kernel_rfl) rfl #[.int .i64 a0, .int .u64 a1, .int .u64 a2] rfl (by (try simp only [List.map_toArray, List.map_cons, List.map_nil]); first | done | rfl | (simp only [List.length_drop, List.length_take]; rfl)) ?_; (with_reducible refine (alu_Do.calls a0 a1 a2 t125 t126 _ A4.out).mono ?_); rintro e w' ⟨rfl, ⟨nd, rfl⟩⟩; refine ⟨_, rfl, ?_⟩) | ((with_reducible refine gate_callee (f := 16) rfl ?_); refine goesL_ (some 26) rfl rfl Try.func16 (by kernel_rfl) rfl #[.int .i64 a0, .int .u64 a1, .int .u64 a2] rfl (by (try simp only [List.map_toArray, List.map_cons, List.map_nil]); first | done | rfl | (simp only [List.length_drop, List.length_take]; rfl)) ?_; (with_reducible refine (rondeauref08_Do.calls k a0 a1 a2 t127 t128 _ A5.out).mono ?_); rintro e w' ⟨rfl, ⟨nd, rfl⟩⟩; refine ⟨_, rfl, ?_⟩) | ((with_reducible refine gate_callee (f := 17) rfl ?_); refine goesL_ (some 29) rfl rfl Try.func17 (by kernel_rfl) rfl #[] rfl (by (try simp only [List.map_toArray, List.map_cons, List.map_nil]); first | done | rfl | (simp only [List.length_drop, List.length_take]; rfl)) ?_; (with_reducible refine (alu_Ops.calls k  t129 _ A6.out).mono ?_); rintro e w7 ⟨v130, rfl, ho0, hb⟩; refine ⟨_, rfl, ?_⟩; have n0_ := Aside0.mk (Kd.R_lower ho0 (below_size (by repeat (first | (with_reducible first | exact HB.out | apply below_alloc | apply pw_below_drewN | apply below_drew1) | exact HB.out)))); have n1_ := Aside0.mk (below_step (by repeat (first | (with_reducible first | exact HB.out | apply below_alloc | apply pw_below_drewN | apply below_drew1) | exact HB.out)) hb); clear HB; have HO131 := n0_; have HB := n1_; clear n0_ n1_; (try clear hb); (try clear hb2); (try clear hk); (try clear hi); (try clear ho0); obtain ⟨Ao8, co8, eo8⟩ := Kd.R_slice HO131.out; subst eo8))
  go_loopg [11, 32] k (fun kq v11 v32 w' => ∃ (x11_1 : Bool) (x32_1 : Int), v11 = .bool x11_1 ∧ v32 = .int .i64 x32_1 ∧ Aside0 (rondeaulaw08_AluDoes.l0 kq a0 t125 t126 t127 t128 x11_1 t129 t129 (t129.length : Int) x32_1 = some r) ∧ Aside0 (kq ≤ k) ∧ Aside0 (Kd.R (Kd.int .i64) 3 w' w.heap.size (fun _ => True) (.slice Ao8 t129.length co8) t129) ∧ Aside0 (Kd.R (Kd.int .i64) 3 w' w.heap.size (fun _ => True) (.slice Ao8 t129.length co8) t129) ∧ Aside0 (Below w.heap.size w w'))
  case atStart => exact ⟨(false), (0), (by first | rfl | (simp; done) | (simp [*]; done)), (by first | rfl | (simp; done) | (simp [*]; done)), H', ⟨Nat.le_refl _⟩, ⟨by (with_reducible repeat (first | apply Kd.R_alloc | apply Kd.R_drewN | apply Kd.R_drew)); exact HO131.out⟩, ⟨by (with_reducible repeat (first | apply Kd.R_alloc | apply Kd.R_drewN | apply Kd.R_drew)); exact HO131.out⟩, ⟨by repeat (first | (with_reducible first | exact HB.out | apply below_alloc | apply pw_below_drewN | apply below_drew1) | exact HB.out)⟩⟩
  case round =>
    clear H'
    try clear c1
    try clear p2
    try clear c3
    obtain ⟨x11_1, x32_1, rfl, rfl, HA, HK1, HO_12, HO_30, HB⟩ := hrel
    cases gk with
    | zero => exact absurd HA.out (by simp [rondeaulaw08_AluDoes.l0])
    | succ k1 =>
      have H := HA.out
      clear HA
      simp only [rondeaulaw08_AluDoes.l0] at H
      by_cases c9 : x32_1 < (t129.length : Int)
      · rw [if_pos c9] at H
        have c9b0 : decide (x32_1 < (t129.length : Int)) = true := decide_eq_true c9
        clear c9
        by_cases c10 : 0 ≤ x32_1
        · rw [if_pos c10] at H
          have c10b0 : decide (0 ≤ x32_1) = true := decide_eq_true c10
          clear c10
          by_cases c11 : x32_1 < (t129.length : Int)
          · rw [if_pos c11] at H
            have c11b0 : decide (x32_1 < (t129.length : Int)) = true := decide_eq_true c11
            clear c11
            by_cases c12 : x32_1 > 0
            · rw [if_pos c12] at H
              have c12b0 : decide (0 < x32_1) = true := decide_eq_true c12
              clear c12
              obtain ⟨ji13, hji13⟩ : ∃ j_ : Int, (wrap64 (x32_1 - 1)) = j_ := ⟨_, rfl⟩
              replace H : (if 0 ≤ (ji13) then (if (ji13) < (t129.length : Int) then (if (rd t129 (ji13)) ≥ (rd t129 x32_1) then (some false) else (if x11_1 = true then (rondeaulaw08_AluDoes.l0 k1 a0 t125 t126 t127 t128 true t129 t129 (t129.length : Int) (wrap64 (x32_1 + 1))) else (rondeaulaw08_AluDoes.l0 k1 a0 t125 t126 t127 t128 ((rd t129 x32_1) == a0) t129 t129 (t129.length : Int) (wrap64 (x32_1 + 1))))) else (none)) else (none)) = some r := by first | (rw [hji13] at H; exact H) | (simp only [hji13] at H ⊢; exact H)
              have hji13w : (IntKind.i64.wrap (x32_1 - 1)) = ji13 := (i64_w _).trans hji13
              by_cases c14 : 0 ≤ (ji13)
              · rw [if_pos c14] at H
                have c14b0 : decide (0 ≤ (ji13)) = true := decide_eq_true c14
                clear c14
                by_cases c15 : (ji13) < (t129.length : Int)
                · rw [if_pos c15] at H
                  have c15b0 : decide ((ji13) < (t129.length : Int)) = true := decide_eq_true c15
                  clear c15
                  by_cases c16 : (rd t129 (ji13)) ≥ (rd t129 x32_1)
                  · rw [if_pos c16] at H
                    have c16b0 : decide ((rd t129 x32_1) ≤ (rd t129 (ji13))) = true := decide_eq_true c16
                    clear c16
                    obtain rfl := Option.some.inj H
                    have p132 : 0 ≤ (x32_1 : Int) := of_decide_eq_true (by first | (with_reducible assumption) | assumption)
                    have q132 : x32_1 < (t129.length : Int) := of_decide_eq_true (by first | (with_reducible assumption) | assumption)
                    obtain ⟨ad132, e132, hx132_0⟩ := Kd.at_int (Kd.R_reads' HO_30.out).2.2 x32_1 p132 q132
                    cases e132
                    replace p132 := eq_true p132
                    replace q132 := eq_true q132
                    have p133 : 0 ≤ ((ji13) : Int) := of_decide_eq_true (by first | (with_reducible assumption) | assumption)
                    have q133 : (ji13) < (t129.length : Int) := of_decide_eq_true (by first | (with_reducible assumption) | assumption)
                    obtain ⟨ad133, e133, hx133_0⟩ := Kd.at_int (Kd.R_reads' HO_12.out).2.2 (ji13) p133 q133
                    obtain rfl : ad132 = ad133 := (by injection e133)
                    replace p133 := eq_true p133
                    replace q133 := eq_true q133
                    go_wp2
                    go_ret
                    exact ⟨by first | rfl | (simp [errW_none, errW_some] <;> rfl) | (simp only [← hji13]; first | rfl | (simp [errW_none, errW_some] <;> rfl)) | (simp [*, errW_none, errW_some] <;> rfl), by repeat (first | (with_reducible first | exact HB.out | apply below_alloc | apply pw_below_drewN | apply below_drew1) | exact HB.out)⟩
                  · rw [if_neg c16] at H
                    have c16b0 : decide ((rd t129 x32_1) ≤ (rd t129 (ji13))) = false := decide_eq_false c16
                    clear c16
                    by_cases c17 : x11_1 = true
                    · subst c17
                      have H1 : (rondeaulaw08_AluDoes.l0 k1 a0 t125 t126 t127 t128 true t129 t129 (t129.length : Int) (wrap64 (x32_1 + 1))) = some r := by rw [if_pos rfl] at H; exact H
                      clear H
                      have H := H1
                      clear H1
                      have H' := Aside0.mk H
                      clear H
                      have p132 : 0 ≤ (x32_1 : Int) := of_decide_eq_true (by first | (with_reducible assumption) | assumption)
                      have q132 : x32_1 < (t129.length : Int) := of_decide_eq_true (by first | (with_reducible assumption) | assumption)
                      obtain ⟨ad132, e132, hx132_0⟩ := Kd.at_int (Kd.R_reads' HO_30.out).2.2 x32_1 p132 q132
                      cases e132
                      replace p132 := eq_true p132
                      replace q132 := eq_true q132
                      have p133 : 0 ≤ ((ji13) : Int) := of_decide_eq_true (by first | (with_reducible assumption) | assumption)
                      have q133 : (ji13) < (t129.length : Int) := of_decide_eq_true (by first | (with_reducible assumption) | assumption)
                      obtain ⟨ad133, e133, hx133_0⟩ := Kd.at_int (Kd.R_reads' HO_12.out).2.2 (ji13) p133 q133
                      obtain rfl : ad132 = ad133 := (by injection e133)
                      replace p133 := eq_true p133
                      replace q133 := eq_true q133
                      go_wp2
                      go_roundg k1
                      case measure => have := HK1.out; omega
                      case rel => exact ⟨(true), (wrap64 (x32_1 + 1)), (by first | rfl | (simp; done) | (simp [*]; done)), (by first | rfl | (simp; done) | (simp [*]; done)), H', ⟨by have := HK1.out; omega⟩, ⟨by (with_reducible repeat (first | apply Kd.R_alloc | apply Kd.R_drewN | apply Kd.R_drew)); exact HO_12.out⟩, ⟨by (with_reducible repeat (first | apply Kd.R_alloc | apply Kd.R_drewN | apply Kd.R_drew)); exact HO_30.out⟩, ⟨by repeat (first | (with_reducible first | exact HB.out | apply below_alloc | apply pw_below_drewN | apply below_drew1) | exact HB.out)⟩⟩
                    · replace c17 := Bool.eq_false_iff.mpr c17
                      subst c17
                      have H1 : (rondeaulaw08_AluDoes.l0 k1 a0 t125 t126 t127 t128 ((rd t129 x32_1) == a0) t129 t129 (t129.length : Int) (wrap64 (x32_1 + 1))) = some r := by rw [if_neg (show ¬ (false = true) by decide)] at H; exact H
                      clear H
                      have H := H1
                      clear H1
                      have H' := Aside0.mk H
                      clear H
                      have p132 : 0 ≤ (x32_1 : Int) := of_decide_eq_true (by first | (with_reducible assumption) | assumption)
                      have q132 : x32_1 < (t129.length : Int) := of_decide_eq_true (by first | (with_reducible assumption) | assumption)
                      obtain ⟨ad132, e132, hx132_0⟩ := Kd.at_int (Kd.R_reads' HO_30.out).2.2 x32_1 p132 q132
                      cases e132
                      replace p132 := eq_true p132
                      replace q132 := eq_true q132
                      have p133 : 0 ≤ ((ji13) : Int) := of_decide_eq_true (by first | (with_reducible assumption) | assumption)
                      have q133 : (ji13) < (t129.length : Int) := of_decide_eq_true (by first | (with_reducible assumption) | assumption)
                      obtain ⟨ad133, e133, hx133_0⟩ := Kd.at_int (Kd.R_reads' HO_12.out).2.2 (ji13) p133 q133
                      obtain rfl : ad132 = ad133 := (by injection e133)
                      replace p133 := eq_true p133
                      replace q133 := eq_true q133
                      go_wp2
                      go_roundg k1
                      case measure => have := HK1.out; omega
                      case rel => exact ⟨(((rd t129 x32_1) == a0)), (wrap64 (x32_1 + 1)), (by first | rfl | (simp; done) | (simp [*]; done)), (by first | rfl | (simp; done) | (simp [*]; done)), H', ⟨by have := HK1.out; omega⟩, ⟨by (with_reducible repeat (first | apply Kd.R_alloc | apply Kd.R_drewN | apply Kd.R_drew)); exact HO_12.out⟩, ⟨by (with_reducible repeat (first | apply Kd.R_alloc | apply Kd.R_drewN | apply Kd.R_drew)); exact HO_30.out⟩, ⟨by repeat (first | (with_reducible first | exact HB.out | apply below_alloc | apply pw_below_drewN | apply below_drew1) | exact HB.out)⟩⟩
                · rw [if_neg c15] at H
                  exact absurd H (by simp)
              · rw [if_neg c14] at H
                exact absurd H (by simp)
            · rw [if_neg c12] at H
              have c12b0 : decide (0 < x32_1) = false := decide_eq_false c12
              clear c12
              by_cases c18 : x11_1 = true
              · subst c18
                have H1 : (rondeaulaw08_AluDoes.l0 k1 a0 t125 t126 t127 t128 true t129 t129 (t129.length : Int) (wrap64 (x32_1 + 1))) = some r := by rw [if_pos rfl] at H; exact H
                clear H
                have H := H1
                clear H1
                have H' := Aside0.mk H
                clear H
                have p132 : 0 ≤ (x32_1 : Int) := of_decide_eq_true (by first | (with_reducible assumption) | assumption)
                have q132 : x32_1 < (t129.length : Int) := of_decide_eq_true (by first | (with_reducible assumption) | assumption)
                obtain ⟨ad132, e132, hx132_0⟩ := Kd.at_int (Kd.R_reads' HO_30.out).2.2 x32_1 p132 q132
                cases e132
                replace p132 := eq_true p132
                replace q132 := eq_true q132
                go_wp2
                go_roundg k1
                case measure => have := HK1.out; omega
                case rel => exact ⟨(true), (wrap64 (x32_1 + 1)), (by first | rfl | (simp; done) | (simp [*]; done)), (by first | rfl | (simp; done) | (simp [*]; done)), H', ⟨by have := HK1.out; omega⟩, ⟨by (with_reducible repeat (first | apply Kd.R_alloc | apply Kd.R_drewN | apply Kd.R_drew)); exact HO_12.out⟩, ⟨by (with_reducible repeat (first | apply Kd.R_alloc | apply Kd.R_drewN | apply Kd.R_drew)); exact HO_30.out⟩, ⟨by repeat (first | (with_reducible first | exact HB.out | apply below_alloc | apply pw_below_drewN | apply below_drew1) | exact HB.out)⟩⟩
              · replace c18 := Bool.eq_false_iff.mpr c18
                subst c18
                have H1 : (rondeaulaw08_AluDoes.l0 k1 a0 t125 t126 t127 t128 ((rd t129 x32_1) == a0) t129 t129 (t129.length : Int) (wrap64 (x32_1 + 1))) = some r := by rw [if_neg (show ¬ (false = true) by decide)] at H; exact H
                clear H
                have H := H1
                clear H1
                have H' := Aside0.mk H
                clear H
                have p132 : 0 ≤ (x32_1 : Int) := of_decide_eq_true (by first | (with_reducible assumption) | assumption)
                have q132 : x32_1 < (t129.length : Int) := of_decide_eq_true (by first | (with_reducible assumption) | assumption)
                obtain ⟨ad132, e132, hx132_0⟩ := Kd.at_int (Kd.R_reads' HO_30.out).2.2 x32_1 p132 q132
                cases e132
                replace p132 := eq_true p132
                replace q132 := eq_true q132
                go_wp2
                go_roundg k1
                case measure => have := HK1.out; omega
                case rel => exact ⟨(((rd t129 x32_1) == a0)), (wrap64 (x32_1 + 1)), (by first | rfl | (simp; done) | (simp [*]; done)), (by first | rfl | (simp; done) | (simp [*]; done)), H', ⟨by have := HK1.out; omega⟩, ⟨by (with_reducible repeat (first | apply Kd.R_alloc | apply Kd.R_drewN | apply Kd.R_drew)); exact HO_12.out⟩, ⟨by (with_reducible repeat (first | apply Kd.R_alloc | apply Kd.R_drewN | apply Kd.R_drew)); exact HO_30.out⟩, ⟨by repeat (first | (with_reducible first | exact HB.out | apply below_alloc | apply pw_below_drewN | apply below_drew1) | exact HB.out)⟩⟩
          · rw [if_neg c11] at H
            exact absurd H (by simp)
        · rw [if_neg c10] at H
          exact absurd H (by simp)
      · rw [if_neg c9] at H
        have c9b0 : decide (x32_1 < (t129.length : Int)) = false := decide_eq_false c9
        clear c9
        replace H := Option.bind_eq_some_iff.mp H
        obtain ⟨t134, A190, H⟩ := H
        replace H : (if t134 = true then (if t125 = t127 then (if (t126 == t128) = true then ((alu_Is.f a0).bind fun t135 => (if (t135 == t128) = true then (some (x11_1 == t128)) else (some false))) else (some false)) else (some false)) else (some false)) = some r := H
        have A19 := Aside0.mk A190
        clear A190
        by_cases c20 : t134 = true
        · subst c20
          have H1 : (if t125 = t127 then (if (t126 == t128) = true then ((alu_Is.f a0).bind fun t135 => (if (t135 == t128) = true then (some (x11_1 == t128)) else (some false))) else (some false)) else (some false)) = some r := by rw [if_pos rfl] at H; exact H
          clear H
          have H := H1
          clear H1
          by_cases c21 : t125 = t127
          · rw [if_pos c21] at H
            have c21b0 : (t125 == t127) = true := beq_iff_eq.mpr c21
            have c21b1 : (t125 != t127) = false := bne_eq_false_iff_eq.mpr c21
            clear c21
            by_cases c22 : (t126 == t128) = true
            · rw [if_pos c22] at H
              have c22b0 : (t126 == t128) = true := c22
              (try (have c22b1 : decide (t126 = t128) = true := by simpa using c22))
              (try (have c22b2 : (t126 == t128) = true := by simpa using c22))
              clear c22
              replace H := Option.bind_eq_some_iff.mp H
              obtain ⟨t135, A230, H⟩ := H
              replace H : (if (t135 == t128) = true then (some (x11_1 == t128)) else (some false)) = some r := H
              have A23 := Aside0.mk A230
              clear A230
              by_cases c24 : (t135 == t128) = true
              · rw [if_pos c24] at H
                have c24b0 : (t135 == t128) = true := c24
                (try (have c24b1 : decide (t135 = t128) = true := by simpa using c24))
                (try (have c24b2 : (t135 == t128) = true := by simpa using c24))
                clear c24
                obtain rfl := Option.some.inj H
                go_wp2_with (first | ((with_reducible refine gate_callee (f := 18) rfl ?_); refine goesL_ (some 55) rfl rfl Try.func18 (by kernel_rfl) rfl #[] rfl (by (try simp only [List.map_toArray, List.map_cons, List.map_nil]); first | done | rfl | (simp only [List.length_drop, List.length_take]; rfl)) ?_; (with_reducible refine (rondeaulaw08_awake.calls k1  true _ A19.out).mono ?_); rintro e w25 ⟨rfl, hb⟩; refine ⟨_, rfl, ?_⟩; have n0_ := Aside0.mk (Kd.R_below (by (with_reducible repeat (first | apply Kd.R_alloc | apply Kd.R_drewN | apply Kd.R_drew)); exact HO_12.out) hb); have n1_ := Aside0.mk (Kd.R_below (by (with_reducible repeat (first | apply Kd.R_alloc | apply Kd.R_drewN | apply Kd.R_drew)); exact HO_30.out) hb); have n2_ := Aside0.mk (below_step (by repeat (first | (with_reducible first | exact HB.out | apply below_alloc | apply pw_below_drewN | apply below_drew1) | exact HB.out)) hb); clear HO_12; clear HO_30; clear HB; have HO_12 := n0_; have HO_30 := n1_; have HB := n2_; clear n0_ n1_ n2_; (try clear hb); (try clear hb2); (try clear hk); (try clear hi)) | (go_at_call 19; (with_reducible refine (alu_Is.calls a0 t135 _ A23.out).mono ?_); rintro e w' ⟨rfl, ⟨nd, rfl⟩⟩))
                go_ret
                exact ⟨by first | rfl | (simp [errW_none, errW_some] <;> rfl) | (simp [*, errW_none, errW_some] <;> rfl), by repeat (first | (with_reducible first | exact HB.out | apply below_alloc | apply pw_below_drewN | apply below_drew1) | exact HB.out)⟩
              · rw [if_neg c24] at H
                have c24b0 : (t135 == t128) = false := by simpa using c24
                (try (have c24b1 : decide (t135 = t128) = false := by simpa using c24))
                (try (have c24b2 : (t135 == t128) = false := by simpa using c24))
                (try (have c24b3 : ¬ (t135 = t128) := by simpa using c24))
                clear c24
                obtain rfl := Option.some.inj H
                go_wp2_with (first | ((with_reducible refine gate_callee (f := 18) rfl ?_); refine goesL_ (some 55) rfl rfl Try.func18 (by kernel_rfl) rfl #[] rfl (by (try simp only [List.map_toArray, List.map_cons, List.map_nil]); first | done | rfl | (simp only [List.length_drop, List.length_take]; rfl)) ?_; (with_reducible refine (rondeaulaw08_awake.calls k1  true _ A19.out).mono ?_); rintro e w26 ⟨rfl, hb⟩; refine ⟨_, rfl, ?_⟩; have n0_ := Aside0.mk (Kd.R_below (by (with_reducible repeat (first | apply Kd.R_alloc | apply Kd.R_drewN | apply Kd.R_drew)); exact HO_12.out) hb); have n1_ := Aside0.mk (Kd.R_below (by (with_reducible repeat (first | apply Kd.R_alloc | apply Kd.R_drewN | apply Kd.R_drew)); exact HO_30.out) hb); have n2_ := Aside0.mk (below_step (by repeat (first | (with_reducible first | exact HB.out | apply below_alloc | apply pw_below_drewN | apply below_drew1) | exact HB.out)) hb); clear HO_12; clear HO_30; clear HB; have HO_12 := n0_; have HO_30 := n1_; have HB := n2_; clear n0_ n1_ n2_; (try clear hb); (try clear hb2); (try clear hk); (try clear hi)) | (go_at_call 19; (with_reducible refine (alu_Is.calls a0 t135 _ A23.out).mono ?_); rintro e w' ⟨rfl, ⟨nd, rfl⟩⟩))
                go_ret
                exact ⟨by first | rfl | (simp [errW_none, errW_some] <;> rfl) | (simp [*, errW_none, errW_some] <;> rfl), by repeat (first | (with_reducible first | exact HB.out | apply below_alloc | apply pw_below_drewN | apply below_drew1) | exact HB.out)⟩
            · rw [if_neg c22] at H
              have c22b0 : (t126 == t128) = false := by simpa using c22
              (try (have c22b1 : decide (t126 = t128) = false := by simpa using c22))
              (try (have c22b2 : (t126 == t128) = false := by simpa using c22))
              (try (have c22b3 : ¬ (t126 = t128) := by simpa using c22))
              clear c22
              obtain rfl := Option.some.inj H
              go_wp2_with (first | ((with_reducible refine gate_callee (f := 18) rfl ?_); refine goesL_ (some 55) rfl rfl Try.func18 (by kernel_rfl) rfl #[] rfl (by (try simp only [List.map_toArray, List.map_cons, List.map_nil]); first | done | rfl | (simp only [List.length_drop, List.length_take]; rfl)) ?_; (with_reducible refine (rondeaulaw08_awake.calls k1  true _ A19.out).mono ?_); rintro e w27 ⟨rfl, hb⟩; refine ⟨_, rfl, ?_⟩; have n0_ := Aside0.mk (Kd.R_below (by (with_reducible repeat (first | apply Kd.R_alloc | apply Kd.R_drewN | apply Kd.R_drew)); exact HO_12.out) hb); have n1_ := Aside0.mk (Kd.R_below (by (with_reducible repeat (first | apply Kd.R_alloc | apply Kd.R_drewN | apply Kd.R_drew)); exact HO_30.out) hb); have n2_ := Aside0.mk (below_step (by repeat (first | (with_reducible first | exact HB.out | apply below_alloc | apply pw_below_drewN | apply below_drew1) | exact HB.out)) hb); clear HO_12; clear HO_30; clear HB; have HO_12 := n0_; have HO_30 := n1_; have HB := n2_; clear n0_ n1_ n2_; (try clear hb); (try clear hb2); (try clear hk); (try clear hi)))
              go_ret
              exact ⟨by first | rfl | (simp [errW_none, errW_some] <;> rfl) | (simp [*, errW_none, errW_some] <;> rfl), by repeat (first | (with_reducible first | exact HB.out | apply below_alloc | apply pw_below_drewN | apply below_drew1) | exact HB.out)⟩
          · rw [if_neg c21] at H
            have c21b0 : (t125 == t127) = false := beq_eq_false_iff_ne.mpr c21
            have c21b1 : (t125 != t127) = true := bne_iff_ne.mpr c21
            obtain rfl := Option.some.inj H
            go_wp2_with (first | ((with_reducible refine gate_callee (f := 18) rfl ?_); refine goesL_ (some 55) rfl rfl Try.func18 (by kernel_rfl) rfl #[] rfl (by (try simp only [List.map_toArray, List.map_cons, List.map_nil]); first | done | rfl | (simp only [List.length_drop, List.length_take]; rfl)) ?_; (with_reducible refine (rondeaulaw08_awake.calls k1  true _ A19.out).mono ?_); rintro e w28 ⟨rfl, hb⟩; refine ⟨_, rfl, ?_⟩; have n0_ := Aside0.mk (Kd.R_below (by (with_reducible repeat (first | apply Kd.R_alloc | apply Kd.R_drewN | apply Kd.R_drew)); exact HO_12.out) hb); have n1_ := Aside0.mk (Kd.R_below (by (with_reducible repeat (first | apply Kd.R_alloc | apply Kd.R_drewN | apply Kd.R_drew)); exact HO_30.out) hb); have n2_ := Aside0.mk (below_step (by repeat (first | (with_reducible first | exact HB.out | apply below_alloc | apply pw_below_drewN | apply below_drew1) | exact HB.out)) hb); clear HO_12; clear HO_30; clear HB; have HO_12 := n0_; have HO_30 := n1_; have HB := n2_; clear n0_ n1_ n2_; (try clear hb); (try clear hb2); (try clear hk); (try clear hi)))
            go_ret
            exact ⟨by first | rfl | (simp [errW_none, errW_some] <;> rfl) | (simp [*, errW_none, errW_some] <;> rfl), by repeat (first | (with_reducible first | exact HB.out | apply below_alloc | apply pw_below_drewN | apply below_drew1) | exact HB.out)⟩
        · replace c20 := Bool.eq_false_iff.mpr c20
          subst c20
          have H1 : (some false) = some r := by rw [if_neg (show ¬ (false = true) by decide)] at H; exact H
          clear H
          have H := H1
          clear H1
          obtain rfl := Option.some.inj H
          go_wp2_with (first | ((with_reducible refine gate_callee (f := 18) rfl ?_); refine goesL_ (some 55) rfl rfl Try.func18 (by kernel_rfl) rfl #[] rfl (by (try simp only [List.map_toArray, List.map_cons, List.map_nil]); first | done | rfl | (simp only [List.length_drop, List.length_take]; rfl)) ?_; (with_reducible refine (rondeaulaw08_awake.calls k1  false _ A19.out).mono ?_); rintro e w29 ⟨rfl, hb⟩; refine ⟨_, rfl, ?_⟩; have n0_ := Aside0.mk (Kd.R_below (by (with_reducible repeat (first | apply Kd.R_alloc | apply Kd.R_drewN | apply Kd.R_drew)); exact HO_12.out) hb); have n1_ := Aside0.mk (Kd.R_below (by (with_reducible repeat (first | apply Kd.R_alloc | apply Kd.R_drewN | apply Kd.R_drew)); exact HO_30.out) hb); have n2_ := Aside0.mk (below_step (by repeat (first | (with_reducible first | exact HB.out | apply below_alloc | apply pw_below_drewN | apply below_drew1) | exact HB.out)) hb); clear HO_12; clear HO_30; clear HB; have HO_12 := n0_; have HO_30 := n1_; have HB := n2_; clear n0_ n1_ n2_; (try clear hb); (try clear hb2); (try clear hk); (try clear hi)))
          go_ret
          exact ⟨by first | rfl | (simp [errW_none, errW_some] <;> rfl) | (simp [*, errW_none, errW_some] <;> rfl), by repeat (first | (with_reducible first | exact HB.out | apply below_alloc | apply pw_below_drewN | apply below_drew1) | exact HB.out)⟩

/-- THE ONE PURE STATEMENT of rondeaulaw08_AluDoes: yours. -/
def rondeaulaw08_AluDoes.Pure : Prop := ∀ (a0 : Int) (a1 : Int) (a2 : Int), (Lit.int .i64 a0).wf = true → (Lit.int .u64 a1).wf = true → (Lit.int .u64 a2).wf = true → ∃ k, rondeaulaw08_AluDoes.f k a0 a1 a2 = some true
theorem rondeaulaw08_AluDoes.walk (P : rondeaulaw08_AluDoes.Pure) (a0 : Int) (a1 : Int) (a2 : Int) (w : World) (w0 : (Lit.int .i64 a0).wf = true) (w1 : (Lit.int .u64 a1).wf = true) (w2 : (Lit.int .u64 a2).wf = true) :
    Calls Try.prog 3 #[.int .i64 a0, .int .u64 a1, .int .u64 a2] w fun e w' => e = .returned (.bool true) ∧ Below w.heap.size w w' := by
  obtain ⟨k, h⟩ := P a0 a1 a2 w0 w1 w2
  refine (rondeaulaw08_AluDoes.calls k a0 a1 a2 true w h).mono ?_
  rintro e w' ⟨rfl, hd⟩
  exact ⟨rfl, hd⟩

end Go.Proofs.Ytmpdghokggdnoaa.PAluDoes
