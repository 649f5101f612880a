-- PRINTED BY print.sh 35421559b90ae4d0a3588c463048766b98c2df88dd9212a6774a882060cdf62d: not written by this session
import Derived.Test.YthoejimgdhfmiaaPCheckTellsx0
namespace Go.Proofs.Ythoejimgdhfmiaa.PCheckTells
open Go.RowKit Go.Proofs.YthoejimgdhfmiaaW.PrintWords Go.Proofs.YthoejimgdhfmiaaW.PrintLast Go.Proofs.YthoejimgdhfmiaaW.PrintMore
attribute [local go_sem] max2_int min2_int max_two min_two max_three min_three max_four min_four   -- for this text's walks alone
set_option linter.unusedVariables false
set_option linter.unusedSimpArgs false

/-! ### rondeauref09_form: function 35 -/
mutual
def rondeauref09_form.j0 : Nat → Int → Bool → Option (ByteArray)
  | 0, _, _ => none
  | k + 1, x0, x6 => if x6 = true then (some (⟨#[114, 114, 48, 48, 48]⟩ : ByteArray)) else (if x0 ≥ 3 then (rondeauref09_form.j1 k x0 (decide (x0 ≤ 14))) else (rondeauref09_form.j1 k x0 false))
def rondeauref09_form.j1 : Nat → Int → Bool → Option (ByteArray)
  | 0, _, _ => none
  | k + 1, x0, x13 => if x13 = true then (some (⟨#[114, 114, 114, 48, 48]⟩ : ByteArray)) else (if x0 = 15 then (some (⟨#[48, 48, 48, 48, 112]⟩ : ByteArray)) else (if x0 = 16 then (rondeauref09_form.j2 k x0 true) else (rondeauref09_form.j2 k x0 (x0 == 17))))
def rondeauref09_form.j2 : Nat → Int → Bool → Option (ByteArray)
  | 0, _, _ => none
  | k + 1, x0, x23 => if x23 = true then (some (⟨#[114, 48, 48, 48, 112]⟩ : ByteArray)) else (if x0 = 18 then (some (⟨#[114, 114, 103, 109, 48]⟩ : ByteArray)) else (if x0 = 19 then (some (⟨#[114, 114, 103, 109, 100]⟩ : ByteArray)) else (if x0 = 20 then (some (⟨#[48, 48, 103, 48, 48]⟩ : ByteArray)) else (if x0 = 21 then (rondeauref09_form.j3 k x0 true) else (if x0 = 22 then (rondeauref09_form.j3 k x0 true) else (rondeauref09_form.j3 k x0 (x0 == 24)))))))
def rondeauref09_form.j3 : Nat → Int → Bool → Option (ByteArray)
  | 0, _, _ => none
  | k + 1, x0, x39 => if x39 = true then (some (⟨#[114, 48, 48, 48, 48]⟩ : ByteArray)) else (if x0 = 25 then (some (⟨#[48, 48, 48, 48, 48]⟩ : ByteArray)) else (some (⟨#[]⟩ : ByteArray)))
end
def rondeauref09_form.f (k : Nat) (a0 : Int) : Option (ByteArray) := if a0 = 1 then (some (⟨#[114, 48, 48, 48, 110]⟩ : ByteArray)) else (if a0 = 2 then (rondeauref09_form.j0 k a0 true) else (rondeauref09_form.j0 k a0 (a0 == 23)))
theorem rondeauref09_form.mono_l : ∀ k, (∀ y0 y1, LeO (rondeauref09_form.j0 k y0 y1) (rondeauref09_form.j0 (k + 1) y0 y1)) ∧ (∀ y0 y1, LeO (rondeauref09_form.j1 k y0 y1) (rondeauref09_form.j1 (k + 1) y0 y1)) ∧ (∀ y0 y1, LeO (rondeauref09_form.j2 k y0 y1) (rondeauref09_form.j2 (k + 1) y0 y1)) ∧ (∀ y0 y1, LeO (rondeauref09_form.j3 k y0 y1) (rondeauref09_form.j3 (k + 1) y0 y1))
  | 0 => ⟨fun _ _ r h => by simp [rondeauref09_form.j0] at h, fun _ _ r h => by simp [rondeauref09_form.j1] at h, fun _ _ r h => by simp [rondeauref09_form.j2] at h, fun _ _ r h => by simp [rondeauref09_form.j3] at h⟩
  | k + 1 => by
    obtain ⟨ih0, ih1, ih2, ih3⟩ := rondeauref09_form.mono_l k
    refine ⟨?_, ?_, ?_, ?_⟩
    · intro y0 y1
      unfold rondeauref09_form.j0
      repeat' first
      | (with_reducible exact ih0 _ _)
      | (with_reducible exact ih1 _ _)
      | (with_reducible exact ih2 _ _)
      | (with_reducible exact ih3 _ _)
      | (with_reducible exact LeO.refl _)
      | (with_reducible exact LeO.none _)
      | (with_reducible refine LeO.ite ?_ ?_)
      | (with_reducible refine LeO.bind ?_ (fun _ => ?_))
      | exact ih0 _ _
      | exact ih1 _ _
      | exact ih2 _ _
      | exact ih3 _ _
      | exact LeO.none _
      | refine LeO.ite ?_ ?_
      | refine LeO.bind ?_ (fun _ => ?_)
    · intro y0 y1
      unfold rondeauref09_form.j1
      repeat' first
      | (with_reducible exact ih0 _ _)
      | (with_reducible exact ih1 _ _)
      | (with_reducible exact ih2 _ _)
      | (with_reducible exact ih3 _ _)
      | (with_reducible exact LeO.refl _)
      | (with_reducible exact LeO.none _)
      | (with_reducible refine LeO.ite ?_ ?_)
      | (with_reducible refine LeO.bind ?_ (fun _ => ?_))
      | exact ih0 _ _
      | exact ih1 _ _
      | exact ih2 _ _
      | exact ih3 _ _
      | exact LeO.none _
      | refine LeO.ite ?_ ?_
      | refine LeO.bind ?_ (fun _ => ?_)
    · intro y0 y1
      unfold rondeauref09_form.j2
      repeat' first
      | (with_reducible exact ih0 _ _)
      | (with_reducible exact ih1 _ _)
      | (with_reducible exact ih2 _ _)
      | (with_reducible exact ih3 _ _)
      | (with_reducible exact LeO.refl _)
      | (with_reducible exact LeO.none _)
      | (with_reducible refine LeO.ite ?_ ?_)
      | (with_reducible refine LeO.bind ?_ (fun _ => ?_))
      | exact ih0 _ _
      | exact ih1 _ _
      | exact ih2 _ _
      | exact ih3 _ _
      | exact LeO.none _
      | refine LeO.ite ?_ ?_
      | refine LeO.bind ?_ (fun _ => ?_)
    · intro y0 y1
      unfold rondeauref09_form.j3
      repeat' first
      | (with_reducible exact ih0 _ _)
      | (with_reducible exact ih1 _ _)
      | (with_reducible exact ih2 _ _)
      | (with_reducible exact ih3 _ _)
      | (with_reducible exact LeO.refl _)
      | (with_reducible exact LeO.none _)
      | (with_reducible refine LeO.ite ?_ ?_)
      | (with_reducible refine LeO.bind ?_ (fun _ => ?_))
      | exact ih0 _ _
      | exact ih1 _ _
      | exact ih2 _ _
      | exact ih3 _ _
      | exact LeO.none _
      | refine LeO.ite ?_ ?_
      | refine LeO.bind ?_ (fun _ => ?_)
theorem rondeauref09_form.mono : ∀ a0 k, LeO (rondeauref09_form.f k a0) (rondeauref09_form.f (k + 1) a0) := by
  intro a0 k
  obtain ⟨ih0, ih1, ih2, ih3⟩ := rondeauref09_form.mono_l k
  unfold rondeauref09_form.f
  repeat' first
      | (with_reducible exact ih0 _ _)
      | (with_reducible exact ih1 _ _)
      | (with_reducible exact ih2 _ _)
      | (with_reducible exact ih3 _ _)
      | (with_reducible exact LeO.refl _)
      | (with_reducible exact LeO.none _)
      | (with_reducible refine LeO.ite ?_ ?_)
      | (with_reducible refine LeO.bind ?_ (fun _ => ?_))
      | exact ih0 _ _
      | exact ih1 _ _
      | exact ih2 _ _
      | exact ih3 _ _
      | exact LeO.none _
      | refine LeO.ite ?_ ?_
      | refine LeO.bind ?_ (fun _ => ?_)
set_option maxHeartbeats 8000000 in
set_option maxRecDepth 100000 in
theorem rondeauref09_form.calls (k : Nat) (a0 : Int) (r : ByteArray) (w : World) (h : rondeauref09_form.f k a0 = some r) :
    Calls Try.prog 35 #[.int .i64 a0] w fun e w' => e = .returned (.string r) ∧ Drawn0 w w' := by
  have H : (if a0 = 1 then (some (⟨#[114, 48, 48, 48, 110]⟩ : ByteArray)) else (if a0 = 2 then (rondeauref09_form.j0 k a0 true) else (rondeauref09_form.j0 k a0 (a0 == 23)))) = some r := h
  clear h
  by_cases c2 : a0 = 1
  · rw [if_pos c2] at H
    have c2b0 : (a0 == 1) = true := beq_iff_eq.mpr c2
    have c2b1 : (a0 != 1) = false := bne_eq_false_iff_eq.mpr c2
    clear c2
    obtain rfl := Option.some.inj H
    go_enter Try.func35, Try.ntmps35
    go_wp2
    go_ret
    exact ⟨by first | rfl | (simp; done) | (simp [*]; done), by repeat (first | exact Drawn0.refl _ | apply Drawn0.step)⟩
  · rw [if_neg c2] at H
    have c2b0 : (a0 == 1) = false := beq_eq_false_iff_ne.mpr c2
    have c2b1 : (a0 != 1) = true := bne_iff_ne.mpr c2
    have HC3 := Aside0.mk H
    clear H
    go_enter Try.func35, Try.ntmps35
    go_upto_region 3 with (fail)
    go_cut [6] (fun v6 wc => ∃ (kq : Nat) (x6_2 : Bool), v6 = .bool x6_2 ∧ Aside0 (rondeauref09_form.j0 kq a0 x6_2 = some r) ∧ Aside0 (kq ≤ k) ∧ Drawn0 w wc)
    case first =>
      have H := HC3.out
      clear HC3
      by_cases c4 : a0 = 2
      · rw [if_pos c4] at H
        have c4b0 : (a0 == 2) = true := beq_iff_eq.mpr c4
        have c4b1 : (a0 != 2) = false := bne_eq_false_iff_eq.mpr c4
        clear c4
        (first | rw [c4b0] | (simp only [i64_w, i32_w]; rw [c4b0]) | skip)
        have H' := Aside0.mk H
        clear H
        go_wp2
        go_meet
        case rel => exact ⟨_, (true), (by first | rfl | (simp; done) | (simp [*]; done)), H', ⟨by first | omega | exact Nat.le_refl _⟩, by repeat (first | exact Drawn0.refl _ | apply Drawn0.step)⟩
      · rw [if_neg c4] at H
        have c4b0 : (a0 == 2) = false := beq_eq_false_iff_ne.mpr c4
        have c4b1 : (a0 != 2) = true := bne_iff_ne.mpr c4
        (first | rw [c4b0] | (simp only [i64_w, i32_w]; rw [c4b0]) | skip)
        have H' := Aside0.mk H
        clear H
        go_wp2
        go_meet
        case rel => exact ⟨_, ((a0 == 23)), (by first | rfl | (simp; done) | (simp [*]; done)), H', ⟨by first | omega | exact Nat.le_refl _⟩, by repeat (first | exact Drawn0.refl _ | apply Drawn0.step)⟩
    case rest =>
      clear HC3
      try clear c2
      try clear c2b0
      try clear c2b1
      try clear p2
      try clear c3
      try clear c4
      try clear c4b0
      try clear c4b1
      obtain ⟨kq, x6_2, rfl, HA, HJ2, ⟨mc2, rfl⟩⟩ := hcut
      cases kq with
      | zero => exact absurd HA.out (by simp [rondeauref09_form.j0])
      | succ kj2 =>
        have H := HA.out
        clear HA
        simp only [rondeauref09_form.j0] at H
        by_cases c5 : x6_2 = true
        · subst c5
          have H1 : (some (⟨#[114, 114, 48, 48, 48]⟩ : ByteArray)) = some r := by rw [if_pos rfl] at H; exact H
          clear H
          have H := H1
          clear H1
          obtain rfl := Option.some.inj H
          go_wp2
          go_ret
          exact ⟨by first | rfl | (simp; done) | (simp [*]; done), by repeat (first | exact Drawn0.refl _ | apply Drawn0.step)⟩
        · replace c5 := Bool.eq_false_iff.mpr c5
          subst c5
          have H1 : (if a0 ≥ 3 then (rondeauref09_form.j1 kj2 a0 (decide (a0 ≤ 14))) else (rondeauref09_form.j1 kj2 a0 false)) = some r := by rw [if_neg (show ¬ (false = true) by decide)] at H; exact H
          clear H
          have H := H1
          clear H1
          have HC6 := Aside0.mk H
          clear H
          go_upto_region 5 with (fail)
          go_cut [13] (fun v13 wc => ∃ (kq : Nat) (x13_5 : Bool), v13 = .bool x13_5 ∧ Aside0 (rondeauref09_form.j1 kq a0 x13_5 = some r) ∧ Aside0 (kq ≤ kj2) ∧ Drawn0 w wc)
          case first =>
            have H := HC6.out
            clear HC6
            by_cases c7 : a0 ≥ 3
            · rw [if_pos c7] at H
              have c7b0 : decide (3 ≤ a0) = true := decide_eq_true c7
              clear c7
              (first | rw [c7b0] | (simp only [i64_w, i32_w]; rw [c7b0]) | skip)
              have H' := Aside0.mk H
              clear H
              go_wp2
              go_meet
              case rel => exact ⟨_, (decide (a0 ≤ 14)), (by first | rfl | (simp; done) | (simp [*]; done)), H', ⟨by have := HJ2.out; first | omega | exact Nat.le_refl _⟩, by repeat (first | exact Drawn0.refl _ | apply Drawn0.step)⟩
            · rw [if_neg c7] at H
              have c7b0 : decide (3 ≤ a0) = false := decide_eq_false c7
              clear c7
              (first | rw [c7b0] | (simp only [i64_w, i32_w]; rw [c7b0]) | skip)
              have H' := Aside0.mk H
              clear H
              go_wp2
              go_meet
              case rel => exact ⟨_, (false), (by first | rfl | (simp; done) | (simp [*]; done)), H', ⟨by have := HJ2.out; first | omega | exact Nat.le_refl _⟩, by repeat (first | exact Drawn0.refl _ | apply Drawn0.step)⟩
          case rest =>
            clear HC6
            try clear c2
            try clear c2b0
            try clear c2b1
            try clear p2
            try clear c3
            try clear c4
            try clear c4b0
            try clear c4b1
            try clear c5
            try clear c7
            try clear c7b0
            try clear p2
            obtain ⟨kq, x13_5, rfl, HA, HJ5, ⟨mc5, rfl⟩⟩ := hcut
            cases kq with
            | zero => exact absurd HA.out (by simp [rondeauref09_form.j1])
            | succ kj5 =>
              have H := HA.out
              clear HA
              simp only [rondeauref09_form.j1] at H
              by_cases c8 : x13_5 = true
              · subst c8
                have H1 : (some (⟨#[114, 114, 114, 48, 48]⟩ : ByteArray)) = some r := by rw [if_pos rfl] at H; exact H
                clear H
                have H := H1
                clear H1
                obtain rfl := Option.some.inj H
                go_wp2
                go_ret
                exact ⟨by first | rfl | (simp; done) | (simp [*]; done), by repeat (first | exact Drawn0.refl _ | apply Drawn0.step)⟩
              · replace c8 := Bool.eq_false_iff.mpr c8
                subst c8
                have H1 : (if a0 = 15 then (some (⟨#[48, 48, 48, 48, 112]⟩ : ByteArray)) else (if a0 = 16 then (rondeauref09_form.j2 kj5 a0 true) else (rondeauref09_form.j2 kj5 a0 (a0 == 17)))) = some r := by rw [if_neg (show ¬ (false = true) by decide)] at H; exact H
                clear H
                have H := H1
                clear H1
                by_cases c9 : a0 = 15
                · rw [if_pos c9] at H
                  have c9b0 : (a0 == 15) = true := beq_iff_eq.mpr c9
                  have c9b1 : (a0 != 15) = false := bne_eq_false_iff_eq.mpr c9
                  clear c9
                  obtain rfl := Option.some.inj H
                  go_wp2
                  go_ret
                  exact ⟨by first | rfl | (simp; done) | (simp [*]; done), by repeat (first | exact Drawn0.refl _ | apply Drawn0.step)⟩
                · rw [if_neg c9] at H
                  have c9b0 : (a0 == 15) = false := beq_eq_false_iff_ne.mpr c9
                  have c9b1 : (a0 != 15) = true := bne_iff_ne.mpr c9
                  have HC10 := Aside0.mk H
                  clear H
                  go_upto_region 9 with (fail)
                  go_cut [23] (fun v23 wc => ∃ (kq : Nat) (x23_9 : Bool), v23 = .bool x23_9 ∧ Aside0 (rondeauref09_form.j2 kq a0 x23_9 = some r) ∧ Aside0 (kq ≤ kj5) ∧ Drawn0 w wc)
                  case first =>
                    have H := HC10.out
                    clear HC10
                    by_cases c11 : a0 = 16
                    · rw [if_pos c11] at H
                      have c11b0 : (a0 == 16) = true := beq_iff_eq.mpr c11
                      have c11b1 : (a0 != 16) = false := bne_eq_false_iff_eq.mpr c11
                      clear c11
                      (first | rw [c11b0] | (simp only [i64_w, i32_w]; rw [c11b0]) | skip)
                      have H' := Aside0.mk H
                      clear H
                      go_wp2
                      go_meet
                      case rel => exact ⟨_, (true), (by first | rfl | (simp; done) | (simp [*]; done)), H', ⟨by have := HJ2.out; have := HJ5.out; first | omega | exact Nat.le_refl _⟩, by repeat (first | exact Drawn0.refl _ | apply Drawn0.step)⟩
                    · rw [if_neg c11] at H
                      have c11b0 : (a0 == 16) = false := beq_eq_false_iff_ne.mpr c11
                      have c11b1 : (a0 != 16) = true := bne_iff_ne.mpr c11
                      (first | rw [c11b0] | (simp only [i64_w, i32_w]; rw [c11b0]) | skip)
                      have H' := Aside0.mk H
                      clear H
                      go_wp2
                      go_meet
                      case rel => exact ⟨_, ((a0 == 17)), (by first | rfl | (simp; done) | (simp [*]; done)), H', ⟨by have := HJ2.out; have := HJ5.out; first | omega | exact Nat.le_refl _⟩, by repeat (first | exact Drawn0.refl _ | apply Drawn0.step)⟩
                  case rest =>
                    clear HC10
                    try clear c1
                    try clear c2
                    try clear c2b0
                    try clear c2b1
                    try clear p2
                    try clear c3
                    try clear c4
                    try clear c4b0
                    try clear c4b1
                    try clear c5
                    try clear c7
                    try clear c7b0
                    try clear c8
                    try clear c9
                    try clear c9b0
                    try clear c9b1
                    try clear c11
                    try clear c11b0
                    try clear c11b1
                    try clear p2
                    obtain ⟨kq, x23_9, rfl, HA, HJ9, ⟨mc9, rfl⟩⟩ := hcut
                    cases kq with
                    | zero => exact absurd HA.out (by simp [rondeauref09_form.j2])
                    | succ kj9 =>
                      have H := HA.out
                      clear HA
                      simp only [rondeauref09_form.j2] at H
                      by_cases c12 : x23_9 = true
                      · subst c12
                        have H1 : (some (⟨#[114, 48, 48, 48, 112]⟩ : ByteArray)) = some r := by rw [if_pos rfl] at H; exact H
                        clear H
                        have H := H1
                        clear H1
                        obtain rfl := Option.some.inj H
                        go_wp2
                        go_ret
                        exact ⟨by first | rfl | (simp; done) | (simp [*]; done), by repeat (first | exact Drawn0.refl _ | apply Drawn0.step)⟩
                      · replace c12 := Bool.eq_false_iff.mpr c12
                        subst c12
                        have H1 : (if a0 = 18 then (some (⟨#[114, 114, 103, 109, 48]⟩ : ByteArray)) else (if a0 = 19 then (some (⟨#[114, 114, 103, 109, 100]⟩ : ByteArray)) else (if a0 = 20 then (some (⟨#[48, 48, 103, 48, 48]⟩ : ByteArray)) else (if a0 = 21 then (rondeauref09_form.j3 kj9 a0 true) else (if a0 = 22 then (rondeauref09_form.j3 kj9 a0 true) else (rondeauref09_form.j3 kj9 a0 (a0 == 24))))))) = some r := by rw [if_neg (show ¬ (false = true) by decide)] at H; exact H
                        clear H
                        have H := H1
                        clear H1
                        by_cases c13 : a0 = 18
                        · rw [if_pos c13] at H
                          have c13b0 : (a0 == 18) = true := beq_iff_eq.mpr c13
                          have c13b1 : (a0 != 18) = false := bne_eq_false_iff_eq.mpr c13
                          clear c13
                          obtain rfl := Option.some.inj H
                          go_wp2
                          go_ret
                          exact ⟨by first | rfl | (simp; done) | (simp [*]; done), by repeat (first | exact Drawn0.refl _ | apply Drawn0.step)⟩
                        · rw [if_neg c13] at H
                          have c13b0 : (a0 == 18) = false := beq_eq_false_iff_ne.mpr c13
                          have c13b1 : (a0 != 18) = true := bne_iff_ne.mpr c13
                          by_cases c14 : a0 = 19
                          · rw [if_pos c14] at H
                            have c14b0 : (a0 == 19) = true := beq_iff_eq.mpr c14
                            have c14b1 : (a0 != 19) = false := bne_eq_false_iff_eq.mpr c14
                            clear c14
                            obtain rfl := Option.some.inj H
                            go_wp2
                            go_ret
                            exact ⟨by first | rfl | (simp; done) | (simp [*]; done), by repeat (first | exact Drawn0.refl _ | apply Drawn0.step)⟩
                          · rw [if_neg c14] at H
                            have c14b0 : (a0 == 19) = false := beq_eq_false_iff_ne.mpr c14
                            have c14b1 : (a0 != 19) = true := bne_iff_ne.mpr c14
                            by_cases c15 : a0 = 20
                            · rw [if_pos c15] at H
                              have c15b0 : (a0 == 20) = true := beq_iff_eq.mpr c15
                              have c15b1 : (a0 != 20) = false := bne_eq_false_iff_eq.mpr c15
                              clear c15
                              obtain rfl := Option.some.inj H
                              go_wp2
                              go_ret
                              exact ⟨by first | rfl | (simp; done) | (simp [*]; done), by repeat (first | exact Drawn0.refl _ | apply Drawn0.step)⟩
                            · rw [if_neg c15] at H
                              have c15b0 : (a0 == 20) = false := beq_eq_false_iff_ne.mpr c15
                              have c15b1 : (a0 != 20) = true := bne_iff_ne.mpr c15
                              have HC16 := Aside0.mk H
                              clear H
                              go_upto_region 17 with (fail)
                              go_cut [39] (fun v39 wc => ∃ (kq : Nat) (x39_15 : Bool), v39 = .bool x39_15 ∧ Aside0 (rondeauref09_form.j3 kq a0 x39_15 = some r) ∧ Aside0 (kq ≤ kj9) ∧ Drawn0 w wc)
                              case first =>
                                have H := HC16.out
                                clear HC16
                                by_cases c17 : a0 = 21
                                · rw [if_pos c17] at H
                                  have c17b0 : (a0 == 21) = true := beq_iff_eq.mpr c17
                                  have c17b1 : (a0 != 21) = false := bne_eq_false_iff_eq.mpr c17
                                  clear c17
                                  (first | rw [c17b0] | (simp only [i64_w, i32_w]; rw [c17b0]) | skip)
                                  have H' := Aside0.mk H
                                  clear H
                                  go_wp2
                                  go_meet
                                  case rel => exact ⟨_, (true), (by first | rfl | (simp; done) | (simp [*]; done)), H', ⟨by have := HJ2.out; have := HJ5.out; have := HJ9.out; first | omega | exact Nat.le_refl _⟩, by repeat (first | exact Drawn0.refl _ | apply Drawn0.step)⟩
                                · rw [if_neg c17] at H
                                  have c17b0 : (a0 == 21) = false := beq_eq_false_iff_ne.mpr c17
                                  have c17b1 : (a0 != 21) = true := bne_iff_ne.mpr c17
                                  (first | rw [c17b0] | (simp only [i64_w, i32_w]; rw [c17b0]) | skip)
                                  by_cases c18 : a0 = 22
                                  · rw [if_pos c18] at H
                                    have c18b0 : (a0 == 22) = true := beq_iff_eq.mpr c18
                                    have c18b1 : (a0 != 22) = false := bne_eq_false_iff_eq.mpr c18
                                    clear c18
                                    have H' := Aside0.mk H
                                    clear H
                                    go_wp2
                                    go_meet
                                    case rel => exact ⟨_, (true), (by first | rfl | (simp; done) | (simp [*]; done)), H', ⟨by have := HJ2.out; have := HJ5.out; have := HJ9.out; first | omega | exact Nat.le_refl _⟩, by repeat (first | exact Drawn0.refl _ | apply Drawn0.step)⟩
                                  · rw [if_neg c18] at H
                                    have c18b0 : (a0 == 22) = false := beq_eq_false_iff_ne.mpr c18
                                    have c18b1 : (a0 != 22) = true := bne_iff_ne.mpr c18
                                    have H' := Aside0.mk H
                                    clear H
                                    go_wp2
                                    go_meet
                                    case rel => exact ⟨_, ((a0 == 24)), (by first | rfl | (simp; done) | (simp [*]; done)), H', ⟨by have := HJ2.out; have := HJ5.out; have := HJ9.out; first | omega | exact Nat.le_refl _⟩, by repeat (first | exact Drawn0.refl _ | apply Drawn0.step)⟩
                              case rest =>
                                clear HC16
                                try clear c1
                                try clear c2
                                try clear c2b0
                                try clear c2b1
                                try clear p2
                                try clear c3
                                try clear c4
                                try clear c4b0
                                try clear c4b1
                                try clear c5
                                try clear c7
                                try clear c7b0
                                try clear c8
                                try clear c9
                                try clear c9b0
                                try clear c9b1
                                try clear c11
                                try clear c11b0
                                try clear c11b1
                                try clear c12
                                try clear c13
                                try clear c13b0
                                try clear c13b1
                                try clear c14
                                try clear c14b0
                                try clear c14b1
                                try clear c15
                                try clear c15b0
                                try clear c15b1
                                try clear c17
                                try clear c17b0
                                try clear c17b1
                                try clear c18
                                try clear c18b0
                                try clear c18b1
                                try clear p2
                                obtain ⟨kq, x39_15, rfl, HA, HJ15, ⟨mc15, rfl⟩⟩ := hcut
                                cases kq with
                                | zero => exact absurd HA.out (by simp [rondeauref09_form.j3])
                                | succ kj15 =>
                                  have H := HA.out
                                  clear HA
                                  simp only [rondeauref09_form.j3] at H
                                  by_cases c19 : x39_15 = true
                                  · subst c19
                                    have H1 : (some (⟨#[114, 48, 48, 48, 48]⟩ : ByteArray)) = some r := by rw [if_pos rfl] at H; exact H
                                    clear H
                                    have H := H1
                                    clear H1
                                    obtain rfl := Option.some.inj H
                                    go_wp2
                                    go_ret
                                    exact ⟨by first | rfl | (simp; done) | (simp [*]; done), by repeat (first | exact Drawn0.refl _ | apply Drawn0.step)⟩
                                  · replace c19 := Bool.eq_false_iff.mpr c19
                                    subst c19
                                    have H1 : (if a0 = 25 then (some (⟨#[48, 48, 48, 48, 48]⟩ : ByteArray)) else (some (⟨#[]⟩ : ByteArray))) = some r := by rw [if_neg (show ¬ (false = true) by decide)] at H; exact H
                                    clear H
                                    have H := H1
                                    clear H1
                                    by_cases c20 : a0 = 25
                                    · rw [if_pos c20] at H
                                      have c20b0 : (a0 == 25) = true := beq_iff_eq.mpr c20
                                      have c20b1 : (a0 != 25) = false := bne_eq_false_iff_eq.mpr c20
                                      clear c20
                                      obtain rfl := Option.some.inj H
                                      go_wp2
                                      go_ret
                                      exact ⟨by first | rfl | (simp; done) | (simp [*]; done), by repeat (first | exact Drawn0.refl _ | apply Drawn0.step)⟩
                                    · rw [if_neg c20] at H
                                      have c20b0 : (a0 == 25) = false := beq_eq_false_iff_ne.mpr c20
                                      have c20b1 : (a0 != 25) = true := bne_iff_ne.mpr c20
                                      obtain rfl := Option.some.inj H
                                      go_wp2
                                      go_ret
                                      exact ⟨by first | rfl | (simp; done) | (simp [*]; done), by repeat (first | exact Drawn0.refl _ | apply Drawn0.step)⟩

/-! ### rondeauref09_most: function 36 -/
def rondeauref09_most.j0 : Nat → Int → Bool → Option (Int)
  | 0, _, _ => none
  | k + 1, x3, x4 => if x4 = true then (some 7) else (if x3 = 109 then (some 2) else (if x3 = 112 then (some 256) else (if x3 = 110 then (some 18446744073709551615) else (some 0))))
def rondeauref09_most.f (k : Nat) (a0 : Int) : Option (Int) := if a0 = 114 then (rondeauref09_most.j0 k a0 (a0 == 114)) else (if a0 = 103 then (rondeauref09_most.j0 k a0 (a0 == 103)) else (rondeauref09_most.j0 k a0 (a0 == 100)))
theorem rondeauref09_most.mono_l : ∀ k, (∀ y0 y1, LeO (rondeauref09_most.j0 k y0 y1) (rondeauref09_most.j0 (k + 1) y0 y1))
  | 0 => fun _ _ r h => by simp [rondeauref09_most.j0] at h
  | k + 1 => by
    have ih0 := rondeauref09_most.mono_l k
    · intro y0 y1
      unfold rondeauref09_most.j0
      repeat' first
      | (with_reducible exact ih0 _ _)
      | (with_reducible exact LeO.refl _)
      | (with_reducible exact LeO.none _)
      | (with_reducible refine LeO.ite ?_ ?_)
      | (with_reducible refine LeO.bind ?_ (fun _ => ?_))
      | exact ih0 _ _
      | exact LeO.none _
      | refine LeO.ite ?_ ?_
      | refine LeO.bind ?_ (fun _ => ?_)
theorem rondeauref09_most.mono : ∀ a0 k, LeO (rondeauref09_most.f k a0) (rondeauref09_most.f (k + 1) a0) := by
  intro a0 k
  have ih0 := rondeauref09_most.mono_l k
  unfold rondeauref09_most.f
  repeat' first
      | (with_reducible exact ih0 _ _)
      | (with_reducible exact LeO.refl _)
      | (with_reducible exact LeO.none _)
      | (with_reducible refine LeO.ite ?_ ?_)
      | (with_reducible refine LeO.bind ?_ (fun _ => ?_))
      | exact ih0 _ _
      | exact LeO.none _
      | refine LeO.ite ?_ ?_
      | refine LeO.bind ?_ (fun _ => ?_)
set_option maxHeartbeats 8000000 in
set_option maxRecDepth 100000 in
theorem rondeauref09_most.calls (k : Nat) (a0 : Int) (r : Int) (w : World) (h : rondeauref09_most.f k a0 = some r) :
    Calls Try.prog 36 #[.int .u8 a0] w fun e w' => e = .returned (.int .u64 r) ∧ Drawn0 w w' := by
  have H : (if a0 = 114 then (rondeauref09_most.j0 k a0 (a0 == 114)) else (if a0 = 103 then (rondeauref09_most.j0 k a0 (a0 == 103)) else (rondeauref09_most.j0 k a0 (a0 == 100)))) = some r := h
  clear h
  have HC2 := Aside0.mk H
  clear H
  go_enter Try.func36, Try.ntmps36
  go_upto_if 4 with (fail)
  go_cut [4] (fun v4 wc => ∃ (kq : Nat) (x4_1 : Bool), v4 = .bool x4_1 ∧ Aside0 (rondeauref09_most.j0 kq a0 x4_1 = some r) ∧ Aside0 (kq ≤ k) ∧ Drawn0 w wc)
  case first =>
    have H := HC2.out
    clear HC2
    by_cases c3 : a0 = 114
    · rw [if_pos c3] at H
      have c3b0 : (a0 == 114) = true := beq_iff_eq.mpr c3
      have c3b1 : (a0 != 114) = false := bne_eq_false_iff_eq.mpr c3
      clear c3
      (first | rw [c3b0] | (simp only [i64_w, i32_w]; rw [c3b0]) | skip)
      have H' := Aside0.mk H
      clear H
      go_wp2
      go_meet
      case rel => exact ⟨_, ((a0 == 114)), (by first | rfl | (simp; done) | (simp [*]; done)), H', ⟨by first | omega | exact Nat.le_refl _⟩, by repeat (first | exact Drawn0.refl _ | apply Drawn0.step)⟩
    · rw [if_neg c3] at H
      have c3b0 : (a0 == 114) = false := beq_eq_false_iff_ne.mpr c3
      have c3b1 : (a0 != 114) = true := bne_iff_ne.mpr c3
      (first | rw [c3b0] | (simp only [i64_w, i32_w]; rw [c3b0]) | skip)
      by_cases c4 : a0 = 103
      · rw [if_pos c4] at H
        have c4b0 : (a0 == 103) = true := beq_iff_eq.mpr c4
        have c4b1 : (a0 != 103) = false := bne_eq_false_iff_eq.mpr c4
        clear c4
        have H' := Aside0.mk H
        clear H
        go_wp2
        go_meet
        case rel => exact ⟨_, ((a0 == 103)), (by first | rfl | (simp; done) | (simp [*]; done)), H', ⟨by first | omega | exact Nat.le_refl _⟩, by repeat (first | exact Drawn0.refl _ | apply Drawn0.step)⟩
      · rw [if_neg c4] at H
        have c4b0 : (a0 == 103) = false := beq_eq_false_iff_ne.mpr c4
        have c4b1 : (a0 != 103) = true := bne_iff_ne.mpr c4
        have H' := Aside0.mk H
        clear H
        go_wp2
        go_meet
        case rel => exact ⟨_, ((a0 == 100)), (by first | rfl | (simp; done) | (simp [*]; done)), H', ⟨by first | omega | exact Nat.le_refl _⟩, by repeat (first | exact Drawn0.refl _ | apply Drawn0.step)⟩
  case rest =>
    clear HC2
    try clear p2
    try clear c3
    try clear c3b0
    try clear c3b1
    try clear c4
    try clear c4b0
    try clear c4b1
    obtain ⟨kq, x4_1, rfl, HA, HJ1, ⟨mc1, rfl⟩⟩ := hcut
    cases kq with
    | zero => exact absurd HA.out (by simp [rondeauref09_most.j0])
    | succ kj1 =>
      have H := HA.out
      clear HA
      simp only [rondeauref09_most.j0] at H
      by_cases c5 : x4_1 = true
      · subst c5
        have H1 : (some 7) = some r := by rw [if_pos rfl] at H; exact H
        clear H
        have H := H1
        clear H1
        obtain rfl := Option.some.inj H
        go_wp2
        go_ret
        exact ⟨by first | rfl | (simp; done) | (simp [*]; done), by repeat (first | exact Drawn0.refl _ | apply Drawn0.step)⟩
      · replace c5 := Bool.eq_false_iff.mpr c5
        subst c5
        have H1 : (if a0 = 109 then (some 2) else (if a0 = 112 then (some 256) else (if a0 = 110 then (some 18446744073709551615) else (some 0)))) = some r := by rw [if_neg (show ¬ (false = true) by decide)] at H; exact H
        clear H
        have H := H1
        clear H1
        by_cases c6 : a0 = 109
        · rw [if_pos c6] at H
          have c6b0 : (a0 == 109) = true := beq_iff_eq.mpr c6
          have c6b1 : (a0 != 109) = false := bne_eq_false_iff_eq.mpr c6
          clear c6
          obtain rfl := Option.some.inj H
          go_wp2
          go_ret
          exact ⟨by first | rfl | (simp; done) | (simp [*]; done), by repeat (first | exact Drawn0.refl _ | apply Drawn0.step)⟩
        · rw [if_neg c6] at H
          have c6b0 : (a0 == 109) = false := beq_eq_false_iff_ne.mpr c6
          have c6b1 : (a0 != 109) = true := bne_iff_ne.mpr c6
          by_cases c7 : a0 = 112
          · rw [if_pos c7] at H
            have c7b0 : (a0 == 112) = true := beq_iff_eq.mpr c7
            have c7b1 : (a0 != 112) = false := bne_eq_false_iff_eq.mpr c7
            clear c7
            obtain rfl := Option.some.inj H
            go_wp2
            go_ret
            exact ⟨by first | rfl | (simp; done) | (simp [*]; done), by repeat (first | exact Drawn0.refl _ | apply Drawn0.step)⟩
          · rw [if_neg c7] at H
            have c7b0 : (a0 == 112) = false := beq_eq_false_iff_ne.mpr c7
            have c7b1 : (a0 != 112) = true := bne_iff_ne.mpr c7
            by_cases c8 : a0 = 110
            · rw [if_pos c8] at H
              have c8b0 : (a0 == 110) = true := beq_iff_eq.mpr c8
              have c8b1 : (a0 != 110) = false := bne_eq_false_iff_eq.mpr c8
              clear c8
              obtain rfl := Option.some.inj H
              go_wp2
              go_ret
              exact ⟨by first | rfl | (simp; done) | (simp [*]; done), by repeat (first | exact Drawn0.refl _ | apply Drawn0.step)⟩
            · rw [if_neg c8] at H
              have c8b0 : (a0 == 110) = false := beq_eq_false_iff_ne.mpr c8
              have c8b1 : (a0 != 110) = true := bne_iff_ne.mpr c8
              obtain rfl := Option.some.inj H
              go_wp2
              go_ret
              exact ⟨by first | rfl | (simp; done) | (simp [*]; done), by repeat (first | exact Drawn0.refl _ | apply Drawn0.step)⟩

end Go.Proofs.Ythoejimgdhfmiaa.PCheckTells
