/- Layer 12: what slots' small functions, Free, Put, Has and Get of the program do. No condition. Layer 12: what slots' got, Has and Get of the program do. No condition. -/
import Derived.Test.YtmejnhfggmmefaaSl
namespace Go.Proofs.Ytmejnhfggmmefaa.H
open Go.RowKit
set_option linter.unusedVariables false
set_option linter.unusedSimpArgs false

theorem free_ok (t : Int) (w : World) (h0 : 0 ≤ t) (h1 : t < 9223372036854775808) : Calls Try.prog 71 #[.int .u64 t] w fun e w' => e = .returned (.int .u64 (2 * t)) ∧ w' = w := by
  go_enter Try.func71, Try.ntmps71
  go_wp2
  go_ret
  exact ⟨by simp [IntKind.wrap_u64] <;> omega, rfl⟩
theorem held_ok (t : Int) (w : World) (h0 : 0 ≤ t) (h1 : t < 4611686018427387904) : Calls Try.prog 76 #[.int .u64 t] w fun e w' => e = .returned (.int .u64 (2 * t + 1)) ∧ w' = w := by
  go_enter Try.func76, Try.ntmps76
  go_wp2
  go_ret
  exact ⟨by simp [IntKind.wrap_u64] <;> omega, rfl⟩

variable {w : World} {g b cap : Nat} {L : List Sl} {R : Nat} {t : Int}
set_option maxRecDepth 100000 in
set_option maxHeartbeats 1600000 in
theorem place_ok (h : SlotsIn w g b cap L R) (ht : 0 ≤ t) :
    Calls Try.prog 75 #[.pointer (some ⟨g, 0, none⟩), .int .u64 t] w fun e w' => e = .returned (.pointer (some ⟨b, pl L t * 3, none⟩)) ∧ QD w w' := by
  have h1 := h.c0
  have hpos : (0 : Int) < (L.length : Int) := by have := h.pos; omega
  have hw : IntKind.u64.wrap (L.length : Int) = (L.length : Int) := by have := h.le; rw [IntKind.wrap_u64]; omega
  have hne : ¬ ((L.length : Int) = 0) := by omega
  have htm : Int.tmod t (L.length : Int) = t % (L.length : Int) := Int.tmod_eq_emod_of_nonneg ht
  have hr0 : 0 ≤ t % (L.length : Int) := Int.emod_nonneg _ (by omega)
  have hr1 : t % (L.length : Int) < (L.length : Int) := Int.emod_lt_of_pos _ hpos
  clear h
  go_enter Try.func75, Try.ntmps75
  go_wp2
  go_quiet (fail)
  go_wp2
  go_ret
  exact ⟨rfl, QD.n _ _⟩

set_option maxRecDepth 100000 in
set_option maxHeartbeats 1600000 in
theorem Free_ok (h : SlotsIn w g b cap L R) (ht : 0 ≤ t) :
    Calls Try.prog 39 #[.pointer (some ⟨g, 0, none⟩), .int .u64 t] w fun e w' => e = .returned (.bool (sFree L t)) ∧ QD w w' := by
  by_cases hb : t < 4611686018427387904
  · have hd : decide (t < 4611686018427387904) = true := decide_eq_true hb
    have hc := (h.cell (pl_lt h.pos t)).1
    have e : sFree L t = ((L.getD (pl L t) Sl.z).st == 2 * t) := by simp [sFree, hd, slAt]
    rw [e]
    clear e
    have hlt : t < 9223372036854775808 := by omega
    clear hb
    go_enter Try.func39, Try.ntmps39
    go_wp2
    go_quiet ((first | (go_at_call 75; exact Calls.quiet_of (place_ok (h.qd (QD.n _ _)) ht)) | (go_at_call 71; exact Calls.quiet_of_same (free_ok t _ ht hlt))))
    go_wp2
    go_ret
    exact ⟨rfl, QD.n _ _⟩
  · have hd : decide (t < 4611686018427387904) = false := decide_eq_false hb
    have e : sFree L t = false := by simp [sFree, hd]
    rw [e]
    clear e hb
    go_enter Try.func39, Try.ntmps39
    go_wp2
    go_quiet (fail)
    go_wp2
    go_ret
    exact ⟨rfl, QD.n _ _⟩

theorem left_eq {R : Nat} (h : R ≤ 8) : wrap64 (wrap64 (2 ^ R) - 1) = 2 ^ R - 1 := by
  rw [wrap_pow h]; have h1 := pow_le8 h; have h2 := pow_pos' R; unfold wrap64; omega

set_option maxRecDepth 100000 in
set_option maxHeartbeats 1600000 in
theorem Put_ok {v : Int} (h : SlotsIn w g b cap L R) (ht : 0 ≤ t) (h1 : t < 4611686018427387904) (he : (L.getD (pl L t) Sl.z).st = 2 * t) :
    Calls Try.prog 37 #[.pointer (some ⟨g, 0, none⟩), .int .u64 t, .int .u64 v] w fun e w' => e = .returned (.int .i64 0) ∧ SlotsIn w' g b cap (L.set (pl L t) ⟨2 * t + 1, v, 2 ^ R - 1⟩) R ∧ Kp (· = b) w w' := by
  have hlt : t < 9223372036854775808 := by omega
  have hd : ¬ (4611686018427387904 ≤ t) := by omega
  have hR8 := h.hR
  go_enter Try.func37, Try.ntmps37
  go_wp2_with fail
  refine (place_ok h ht).mono ?_
  rintro e w1 ⟨rfl, hq⟩
  have hK := (Kp.refl (· = b) w).qd hq
  replace h := h.qd hq
  clear hq
  have hc := (h.cell (pl_lt h.pos t)).1
  rw [he] at hc
  go_wp2
  go_quiet ((go_at_call 71; exact Calls.quiet_of_same (free_ok t _ ht hlt)))
  generalize hq : w1.drewN nq = w2
  replace hq : QD w1 w2 := ⟨nq, hq.symm⟩
  replace hK := hK.qd hq
  replace h := h.qd hq
  clear hq hc
  have hc := (h.cell (pl_lt h.pos t)).1
  rw [he] at hc
  go_wp2
  go_quiet ((go_at_call 71; exact Calls.quiet_of_same (free_ok t _ ht hlt)))
  generalize hq : w2.drewN nq = w3
  replace hq : QD w2 w3 := ⟨nq, hq.symm⟩
  replace hK := hK.qd hq
  replace h := h.qd hq
  clear hq hc
  go_wp2
  refine wp_region_still_tail 12 (by kernel_rfl) (by kernel_rfl) ?_
  generalize hq : ({ w3 with drawn := w3.drawn + 1 } : World) = w4
  replace hq : QD w3 w4 := ⟨1, hq.symm⟩
  replace hK := hK.qd hq
  replace h := h.qd hq
  clear hq
  have hc1 := h.c1
  simp only [List.take_succ_cons, List.take_zero, List.drop_succ_cons, List.drop_zero]
  repeat still_step
  still_call (held_ok t _ ht h1)
  repeat still_step
  refine wpStill_nil ?_
  obtain ⟨d0, d1, d2⟩ := h.cell (pl_lt h.pos t)
  have f0 := h.fz (pl L t * 3)
  have f1 := h.fz (pl L t * 3 + 1)
  have f2 := h.fz (pl L t * 3 + 2)
  go_wp2
  go_ret
  rw [left_eq h.hR]
  have p1 := pow_le8 h.hR
  have p2 := pow_pos' R
  exact ⟨rfl, h.put3 (pl_lt h.pos t) ⟨by show (0 : Int) ≤ 2 * t + 1; omega, by show 2 * t + 1 < (18446744073709551616 : Int); omega, by show (0 : Int) ≤ 2 ^ R - 1; omega, by show (2 : Int) ^ R - 1 < 256; omega⟩, ((hK.setCell _ rfl _).setCell _ rfl _).setCell _ rfl _⟩

set_option maxRecDepth 100000 in
set_option maxHeartbeats 1600000 in
theorem Put_arg {v : Int} (g : Nat) (h1 : ¬ t < 4611686018427387904) :
    Calls Try.prog 37 #[.pointer (some ⟨g, 0, none⟩), .int .u64 t, .int .u64 v] w fun e w' => e = .returned (.int .i64 1) ∧ w' = w := by
  have hd : (4611686018427387904 ≤ t) := by omega
  clear h1
  go_enter Try.func37, Try.ntmps37
  go_wp2
  go_ret
  exact ⟨rfl, rfl⟩
set_option maxRecDepth 100000 in
set_option maxHeartbeats 1600000 in
theorem Put_nil {v : Int} : Calls Try.prog 37 #[.pointer none, .int .u64 t, .int .u64 v] w fun e w' => e = .returned (.int .i64 15) ∧ w' = w := by
  go_enter Try.func37, Try.ntmps37
  go_wp2
  go_ret
  exact ⟨rfl, rfl⟩
set_option maxRecDepth 100000 in
set_option maxHeartbeats 1600000 in
theorem Put_full {v : Int} (h : SlotsIn w g b cap L R) (ht : 0 ≤ t) (h1 : t < 4611686018427387904) (he : (slAt L t).st < 2 * t) :
    Calls Try.prog 37 #[.pointer (some ⟨g, 0, none⟩), .int .u64 t, .int .u64 v] w fun e w' => e = .returned (.int .i64 8) ∧ QD w w' := by
  have hlt : t < 9223372036854775808 := by omega
  have hd : ¬ (4611686018427387904 ≤ t) := by omega
  go_enter Try.func37, Try.ntmps37
  go_wp2_with fail
  refine (place_ok h ht).mono ?_
  rintro e w1 ⟨rfl, hq⟩
  have hc := ((h.qd hq).cell (pl_lt h.pos t)).1
  change w1.cell? _ = some (.int .u64 (slAt L t).st) at hc
  generalize (slAt L t).st = s at hc he
  go_wp2
  go_quiet ((go_at_call 71; exact Calls.quiet_of_same (free_ok t _ ht hlt)))
  go_wp2
  go_ret
  exact ⟨rfl, hq.trans (QD.n _ _)⟩
set_option maxRecDepth 100000 in
set_option maxHeartbeats 1600000 in
theorem Put_order {v : Int} (h : SlotsIn w g b cap L R) (ht : 0 ≤ t) (h1 : t < 4611686018427387904) (he : 2 * t < (slAt L t).st) :
    Calls Try.prog 37 #[.pointer (some ⟨g, 0, none⟩), .int .u64 t, .int .u64 v] w fun e w' => e = .returned (.int .i64 11) ∧ QD w w' := by
  have hlt : t < 9223372036854775808 := by omega
  have hd : ¬ (4611686018427387904 ≤ t) := by omega
  go_enter Try.func37, Try.ntmps37
  go_wp2_with fail
  refine (place_ok h ht).mono ?_
  rintro e w1 ⟨rfl, hq⟩
  have h2 := h.qd hq
  have hc := (h2.cell (pl_lt h2.pos t)).1
  change w1.cell? _ = some (.int .u64 (slAt L t).st) at hc
  have he2 := As.mk he
  generalize hs : (slAt L t).st = s at hc he
  have hs2 := As.mk hs
  clear hs
  go_wp2
  go_quiet ((go_at_call 71; exact Calls.quiet_of_same (free_ok t _ ht hlt)))
  generalize hq2 : w1.drewN nq = w2
  replace hq2 : QD w1 w2 := ⟨nq, hq2.symm⟩
  clear hc
  have hc := ((h2.qd hq2).cell (pl_lt h2.pos t)).1
  change w2.cell? _ = some (.int .u64 (slAt L t).st) at hc
  rw [hs2.out] at hc
  go_wp2
  go_quiet ((go_at_call 71; exact Calls.quiet_of_same (free_ok t _ ht hlt)))
  go_wp2
  go_ret
  exact ⟨rfl, (hq.trans hq2).trans (QD.n _ _)⟩
/-- Put, whatever it is asked. -/
theorem Put_any {v : Int} (h : SlotsIn w g b cap L R) (ht : 0 ≤ t) :
    Calls Try.prog 37 #[.pointer (some ⟨g, 0, none⟩), .int .u64 t, .int .u64 v] w fun e w' => e = .returned (.int .i64 (sPut L R t v).1) ∧ SlotsIn w' g b cap (sPut L R t v).2 R ∧ Kp (· = b) w w' := by
  unfold sPut
  by_cases h1 : t < 4611686018427387904
  · rw [if_pos h1]
    by_cases h2 : (slAt L t).st < 2 * t
    · rw [if_pos h2]
      refine (Put_full h ht h1 h2).mono ?_
      rintro e w' ⟨rfl, hq⟩
      exact ⟨rfl, h.qd hq, Kp.of_qd hq⟩
    · rw [if_neg h2]
      by_cases h3 : 2 * t < (slAt L t).st
      · rw [if_pos h3]
        refine (Put_order h ht h1 h3).mono ?_
        rintro e w' ⟨rfl, hq⟩
        exact ⟨rfl, h.qd hq, Kp.of_qd hq⟩
      · rw [if_neg h3]
        exact Put_ok h ht h1 (by show (slAt L t).st = 2 * t; omega)
  · rw [if_neg h1]
    refine (Put_arg g h1).mono ?_
    rintro e w' ⟨rfl, rfl⟩
    exact ⟨rfl, h, Kp.refl _ _⟩
end Go.Proofs.Ytmejnhfggmmefaa.H
namespace Go.Proofs.Ytmejnhfggmmefaa.H
open Go.RowKit
set_option linter.unusedVariables false
set_option linter.unusedSimpArgs false
variable {w : World} {g b cap : Nat} {L : List Sl} {R : Nat} {t j : Int}

set_option maxRecDepth 100000 in
set_option maxHeartbeats 1600000 in
theorem got_nil : Calls Try.prog 77 #[.pointer none, .int .i64 j, .int .u64 t] w fun e w' => e = .returned (.int .i64 15) ∧ QD w w' := by
  go_enter Try.func77, Try.ntmps77
  go_wp2
  go_ret
  exact ⟨rfl, QD.refl _⟩
set_option maxRecDepth 100000 in
set_option maxHeartbeats 1600000 in
theorem got_arg1 (g : Nat) (h1 : ¬ t < 4611686018427387904) :
    Calls Try.prog 77 #[.pointer (some ⟨g, 0, none⟩), .int .i64 j, .int .u64 t] w fun e w' => e = .returned (.int .i64 1) ∧ QD w w' := by
  have hd : decide (4611686018427387904 ≤ t) = true := decide_eq_true (by omega)
  clear h1
  go_enter Try.func77, Try.ntmps77
  go_wp2
  go_ret
  exact ⟨rfl, QD.refl _⟩
set_option maxRecDepth 100000 in
set_option maxHeartbeats 1600000 in
theorem got_arg2 (g : Nat) (h1 : t < 4611686018427387904) (h2 : j < 0) :
    Calls Try.prog 77 #[.pointer (some ⟨g, 0, none⟩), .int .i64 j, .int .u64 t] w fun e w' => e = .returned (.int .i64 1) ∧ QD w w' := by
  have hd : decide (4611686018427387904 ≤ t) = false := decide_eq_false (by omega)
  have hd2 : decide (j < 0) = true := decide_eq_true (by omega)
  clear h1 h2
  go_enter Try.func77, Try.ntmps77
  go_wp2
  go_ret
  exact ⟨rfl, QD.refl _⟩
set_option maxRecDepth 100000 in
set_option maxHeartbeats 1600000 in
theorem got_arg3 (h : SlotsIn w g b cap L R) (h1 : t < 4611686018427387904) (h2 : ¬ j < 0) (h3 : ¬ j < (R : Int)) :
    Calls Try.prog 77 #[.pointer (some ⟨g, 0, none⟩), .int .i64 j, .int .u64 t] w fun e w' => e = .returned (.int .i64 1) ∧ QD w w' := by
  have hd : decide (4611686018427387904 ≤ t) = false := decide_eq_false (by omega)
  have hd2 : decide (j < 0) = false := decide_eq_false (by omega)
  have hd3 : decide ((R : Int) ≤ j) = true := decide_eq_true (by omega)
  have hc := h.c1
  clear h1 h2 h3 h
  go_enter Try.func77, Try.ntmps77
  go_wp2
  go_ret
  exact ⟨rfl, QD.refl _⟩
set_option maxRecDepth 100000 in
set_option maxHeartbeats 1600000 in
theorem got_empty (h : SlotsIn w g b cap L R) (ht : 0 ≤ t) (h1 : t < 4611686018427387904) (h2 : ¬ j < 0) (h3 : j < (R : Int)) (he : (slAt L t).st < 2 * t + 1) :
    Calls Try.prog 77 #[.pointer (some ⟨g, 0, none⟩), .int .i64 j, .int .u64 t] w fun e w' => e = .returned (.int .i64 9) ∧ QD w w' := by
  have hd : decide (4611686018427387904 ≤ t) = false := decide_eq_false (by omega)
  have hd2 : decide (j < 0) = false := decide_eq_false (by omega)
  have hd3 : decide ((R : Int) ≤ j) = false := decide_eq_false (by omega)
  have hc1 := h.c1
  clear h2 h3
  go_enter Try.func77, Try.ntmps77
  go_wp2_with fail
  refine (place_ok h ht).mono ?_
  rintro e w1 ⟨rfl, hq⟩
  have hc := ((h.qd hq).cell (pl_lt h.pos t)).1
  change w1.cell? _ = some (.int .u64 (slAt L t).st) at hc
  generalize (slAt L t).st = s at hc he
  go_wp2
  go_quiet ((go_at_call 76; exact Calls.quiet_of_same (held_ok t _ ht h1)))
  go_wp2
  go_ret
  exact ⟨rfl, hq.trans (QD.n _ _)⟩
set_option maxRecDepth 100000 in
set_option maxHeartbeats 1600000 in
theorem got_order (h : SlotsIn w g b cap L R) (ht : 0 ≤ t) (h1 : t < 4611686018427387904) (h2 : ¬ j < 0) (h3 : j < (R : Int)) (he : 2 * t + 1 < (slAt L t).st) :
    Calls Try.prog 77 #[.pointer (some ⟨g, 0, none⟩), .int .i64 j, .int .u64 t] w fun e w' => e = .returned (.int .i64 11) ∧ QD w w' := by
  have hd : decide (4611686018427387904 ≤ t) = false := decide_eq_false (by omega)
  have hd2 : decide (j < 0) = false := decide_eq_false (by omega)
  have hd3 : decide ((R : Int) ≤ j) = false := decide_eq_false (by omega)
  have hc1 := h.c1
  clear h2 h3
  go_enter Try.func77, Try.ntmps77
  go_wp2_with fail
  refine (place_ok h ht).mono ?_
  rintro e w1 ⟨rfl, hq⟩
  have h4 := h.qd hq
  have hc := (h4.cell (pl_lt h4.pos t)).1
  change w1.cell? _ = some (.int .u64 (slAt L t).st) at hc
  generalize hs : (slAt L t).st = s at hc he
  have hs2 := As.mk hs
  clear hs
  go_wp2
  go_quiet ((go_at_call 76; exact Calls.quiet_of_same (held_ok t _ ht h1)))
  generalize hq2 : w1.drewN nq = w2
  replace hq2 : QD w1 w2 := ⟨nq, hq2.symm⟩
  clear hc
  have hc := ((h4.qd hq2).cell (pl_lt h4.pos t)).1
  change w2.cell? _ = some (.int .u64 (slAt L t).st) at hc
  rw [hs2.out] at hc
  go_wp2
  go_quiet ((go_at_call 76; exact Calls.quiet_of_same (held_ok t _ ht h1)))
  go_wp2
  go_ret
  exact ⟨rfl, (hq.trans hq2).trans (QD.n _ _)⟩
set_option maxRecDepth 100000 in
set_option maxHeartbeats 3200000 in
theorem got_bit (c r : Int) (hcr : (c = 0 ∧ r = 11) ∨ (c = 1 ∧ r = 0)) (h : SlotsIn w g b cap L R) (ht : 0 ≤ t) (h1 : t < 4611686018427387904) (h2 : ¬ j < 0) (h3 : j < (R : Int)) (he : (slAt L t).st = 2 * t + 1) (hb : (slAt L t).left / 2 ^ j.toNat % 2 = c) :
    Calls Try.prog 77 #[.pointer (some ⟨g, 0, none⟩), .int .i64 j, .int .u64 t] w fun e w' => e = .returned (.int .i64 r) ∧ QD w w' := by
  have hd : decide (4611686018427387904 ≤ t) = false := decide_eq_false (by omega)
  have hd2 : decide (j < 0) = false := decide_eq_false (by omega)
  have hd3 : decide ((R : Int) ≤ j) = false := decide_eq_false (by omega)
  have hc1 := h.c1
  have hR8 := h.hR
  have hok := h.at_ (pl_lt h.pos t)
  have hj0 : 0 ≤ j := by omega
  have hj8 : j < 8 := by omega
  have hbit : bits .and .i64 ((slAt L t).left / 2 ^ j.toNat) 1 = c := by
    rw [← hb]
    obtain ⟨J, rfl⟩ := Int.eq_ofNat_of_zero_le hj0
    obtain ⟨l, hl⟩ := Int.eq_ofNat_of_zero_le hok.2.2.1
    have hl2 := hok.2.2.2
    change (slAt L (t)).left = _ at hl
    change (slAt L (t)).left < _ at hl2
    rw [hl] at hl2 ⊢
    exact bits_and1 l J (by omega) (by omega)
  have he2 := As.mk he
  have hA := As.mk hbit
  clear h2 h3 hok hb hbit he
  rcases hcr with ⟨rfl, rfl⟩ | ⟨rfl, rfl⟩
  all_goals
    go_enter Try.func77, Try.ntmps77
    go_wp2_with fail
    refine (place_ok h ht).mono ?_
    rintro e w1 ⟨rfl, hq⟩
    have h4 := h.qd hq
    have hc := (h4.cell (pl_lt h4.pos t)).1
    change w1.cell? _ = some (.int .u64 (slAt L t).st) at hc
    rw [he2.out] at hc
    go_wp2
    go_quiet ((go_at_call 76; exact Calls.quiet_of_same (held_ok t _ ht h1)))
    generalize hq2 : w1.drewN nq = w2
    replace hq2 : QD w1 w2 := ⟨nq, hq2.symm⟩
    clear hc
    have h5 := h4.qd hq2
    have hc := (h5.cell (pl_lt h5.pos t)).1
    change w2.cell? _ = some (.int .u64 (slAt L t).st) at hc
    rw [he2.out] at hc
    go_wp2
    go_quiet ((go_at_call 76; exact Calls.quiet_of_same (held_ok t _ ht h1)))
    generalize hq3 : w2.drewN nq = w3
    replace hq3 : QD w2 w3 := ⟨nq, hq3.symm⟩
    clear hc
    have h6 := h5.qd hq3
    have hc := (h6.cell (pl_lt h6.pos t)).2.2
    change w3.cell? _ = some (.int .i64 (slAt L t).left) at hc
    have hbit := hA.out
    go_wp2
    go_ret
    exact ⟨rfl, (hq.trans hq2).trans hq3⟩
/-- got, whatever it is asked. -/
theorem got_any (h : SlotsIn w g b cap L R) (ht : 0 ≤ t) :
    Calls Try.prog 77 #[.pointer (some ⟨g, 0, none⟩), .int .i64 j, .int .u64 t] w fun e w' => e = .returned (.int .i64 (sGot L R j t)) ∧ QD w w' := by
  unfold sGot
  by_cases h1 : t < 4611686018427387904
  · by_cases h2 : j < 0
    · rw [if_neg (by omega)]; exact got_arg2 g h1 h2
    · by_cases h3 : j < (R : Int)
      · rw [if_pos ⟨h1, by omega, h3⟩]
        by_cases h4 : (slAt L t).st < 2 * t + 1
        · rw [if_pos h4]; exact got_empty h ht h1 h2 h3 h4
        · rw [if_neg h4]
          by_cases h5 : 2 * t + 1 < (slAt L t).st
          · rw [if_pos h5]; exact got_order h ht h1 h2 h3 h5
          · rw [if_neg h5]
            have h6 : (slAt L t).st = 2 * t + 1 := by omega
            by_cases h7 : (slAt L t).left / 2 ^ j.toNat % 2 = 1
            · have e : bitOf (slAt L t).left j = true := by unfold bitOf; rw [h7]; rfl
              rw [e]; exact got_bit 1 0 (.inr ⟨rfl, rfl⟩) h ht h1 h2 h3 h6 h7
            · have h8 : (slAt L t).left / 2 ^ j.toNat % 2 = 0 := by omega
              have e : bitOf (slAt L t).left j = false := by unfold bitOf; rw [h8]; rfl
              rw [e]; exact got_bit 0 11 (.inl ⟨rfl, rfl⟩) h ht h1 h2 h3 h6 h8
      · rw [if_neg (by omega)]; exact got_arg3 h h1 h2 h3
  · rw [if_neg (by omega)]; exact got_arg1 g h1

set_option maxRecDepth 100000 in
set_option maxHeartbeats 1600000 in
theorem Has_any (h : SlotsIn w g b cap L R) (ht : 0 ≤ t) :
    Calls Try.prog 40 #[.pointer (some ⟨g, 0, none⟩), .int .i64 j, .int .u64 t] w fun e w' => e = .returned (.bool (sGot L R j t == 0)) ∧ QD w w' := by
  go_enter Try.func40, Try.ntmps40
  go_wp2_with fail
  refine (got_any h ht).mono ?_
  rintro e w1 ⟨rfl, hq⟩
  go_wp2
  go_ret
  exact ⟨rfl, hq⟩
set_option maxRecDepth 100000 in
set_option maxHeartbeats 1600000 in
theorem Has_nil : Calls Try.prog 40 #[.pointer none, .int .i64 j, .int .u64 t] w fun e w' => e = .returned (.bool false) ∧ QD w w' := by
  go_enter Try.func40, Try.ntmps40
  go_wp2_with fail
  refine got_nil.mono ?_
  rintro e w1 ⟨rfl, hq⟩
  go_wp2
  go_ret
  exact ⟨rfl, hq⟩

set_option maxRecDepth 100000 in
set_option maxHeartbeats 1600000 in
theorem Get_no (r : Int) (hr : r ≠ 0) (v : Value) (hg : ∀ w, Calls Try.prog 77 #[v, .int .i64 j, .int .u64 t] w fun e w' => e = .returned (.int .i64 r) ∧ QD w w') :
    Calls Try.prog 38 #[v, .int .i64 j, .int .u64 t] w fun e w' => e = .returned (.tuple #[.int .u64 0, .int .i64 r]) ∧ QD w w' := by
  have hb : (r != 0) = true := by simpa using hr
  have hH := As.mk hg
  clear hg
  go_enter Try.func38, Try.ntmps38
  go_wp2_with fail
  refine (hH.out _).mono ?_
  rintro e w1 ⟨rfl, hq⟩
  go_wp2
  go_ret2
  exact ⟨rfl, hq⟩
end Go.Proofs.Ytmejnhfggmmefaa.H
