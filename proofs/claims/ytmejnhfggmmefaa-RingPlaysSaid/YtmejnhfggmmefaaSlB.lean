/- Layer 12: what slots' got, Has and Get of the program do. No condition. -/
import Derived.Test.YtmejnhfggmmefaaSlA
namespace Go.Proofs.Ytmejnhfggmmefaa.H
open Go.RowKit
set_option linter.unusedVariables false
set_option linter.unusedSimpArgs false
variable {w : World} {g b cap : Nat} {L : List Sl} {R : Nat} {t j : Int}

set_option maxRecDepth 100000 in
set_option maxHeartbeats 1600000 in
theorem got_nil : Calls Try.prog 77 #[.pointer none, .int .i64 j, .int .u64 t] w fun e w' => e = .returned (.int .i64 15) ∧ QD w w' := by
  go_enter Try.func77, Try.ntmps77
  go_wp2
  go_ret
  exact ⟨rfl, QD.refl _⟩
set_option maxRecDepth 100000 in
set_option maxHeartbeats 1600000 in
theorem got_arg1 (g : Nat) (h1 : ¬ t < 4611686018427387904) :
    Calls Try.prog 77 #[.pointer (some ⟨g, 0, none⟩), .int .i64 j, .int .u64 t] w fun e w' => e = .returned (.int .i64 1) ∧ QD w w' := by
  have hd : decide (4611686018427387904 ≤ t) = true := decide_eq_true (by omega)
  clear h1
  go_enter Try.func77, Try.ntmps77
  go_wp2
  go_ret
  exact ⟨rfl, QD.refl _⟩
set_option maxRecDepth 100000 in
set_option maxHeartbeats 1600000 in
theorem got_arg2 (g : Nat) (h1 : t < 4611686018427387904) (h2 : j < 0) :
    Calls Try.prog 77 #[.pointer (some ⟨g, 0, none⟩), .int .i64 j, .int .u64 t] w fun e w' => e = .returned (.int .i64 1) ∧ QD w w' := by
  have hd : decide (4611686018427387904 ≤ t) = false := decide_eq_false (by omega)
  have hd2 : decide (j < 0) = true := decide_eq_true (by omega)
  clear h1 h2
  go_enter Try.func77, Try.ntmps77
  go_wp2
  go_ret
  exact ⟨rfl, QD.refl _⟩
set_option maxRecDepth 100000 in
set_option maxHeartbeats 1600000 in
theorem got_arg3 (h : SlotsIn w g b cap L R) (h1 : t < 4611686018427387904) (h2 : ¬ j < 0) (h3 : ¬ j < (R : Int)) :
    Calls Try.prog 77 #[.pointer (some ⟨g, 0, none⟩), .int .i64 j, .int .u64 t] w fun e w' => e = .returned (.int .i64 1) ∧ QD w w' := by
  have hd : decide (4611686018427387904 ≤ t) = false := decide_eq_false (by omega)
  have hd2 : decide (j < 0) = false := decide_eq_false (by omega)
  have hd3 : decide ((R : Int) ≤ j) = true := decide_eq_true (by omega)
  have hc := h.c1
  clear h1 h2 h3 h
  go_enter Try.func77, Try.ntmps77
  go_wp2
  go_ret
  exact ⟨rfl, QD.refl _⟩
set_option maxRecDepth 100000 in
set_option maxHeartbeats 1600000 in
theorem got_empty (h : SlotsIn w g b cap L R) (ht : 0 ≤ t) (h1 : t < 4611686018427387904) (h2 : ¬ j < 0) (h3 : j < (R : Int)) (he : (slAt L t).st < 2 * t + 1) :
    Calls Try.prog 77 #[.pointer (some ⟨g, 0, none⟩), .int .i64 j, .int .u64 t] w fun e w' => e = .returned (.int .i64 9) ∧ QD w w' := by
  have hd : decide (4611686018427387904 ≤ t) = false := decide_eq_false (by omega)
  have hd2 : decide (j < 0) = false := decide_eq_false (by omega)
  have hd3 : decide ((R : Int) ≤ j) = false := decide_eq_false (by omega)
  have hc1 := h.c1
  clear h2 h3
  go_enter Try.func77, Try.ntmps77
  go_wp2_with fail
  refine (place_ok h ht).mono ?_
  rintro e w1 ⟨rfl, hq⟩
  have hc := ((h.qd hq).cell (pl_lt h.pos t)).1
  change w1.cell? _ = some (.int .u64 (slAt L t).st) at hc
  generalize (slAt L t).st = s at hc he
  go_wp2
  go_quiet ((go_at_call 76; exact Calls.quiet_of_same (held_ok t _ ht h1)))
  go_wp2
  go_ret
  exact ⟨rfl, hq.trans (QD.n _ _)⟩
set_option maxRecDepth 100000 in
set_option maxHeartbeats 1600000 in
theorem got_order (h : SlotsIn w g b cap L R) (ht : 0 ≤ t) (h1 : t < 4611686018427387904) (h2 : ¬ j < 0) (h3 : j < (R : Int)) (he : 2 * t + 1 < (slAt L t).st) :
    Calls Try.prog 77 #[.pointer (some ⟨g, 0, none⟩), .int .i64 j, .int .u64 t] w fun e w' => e = .returned (.int .i64 11) ∧ QD w w' := by
  have hd : decide (4611686018427387904 ≤ t) = false := decide_eq_false (by omega)
  have hd2 : decide (j < 0) = false := decide_eq_false (by omega)
  have hd3 : decide ((R : Int) ≤ j) = false := decide_eq_false (by omega)
  have hc1 := h.c1
  clear h2 h3
  go_enter Try.func77, Try.ntmps77
  go_wp2_with fail
  refine (place_ok h ht).mono ?_
  rintro e w1 ⟨rfl, hq⟩
  have h4 := h.qd hq
  have hc := (h4.cell (pl_lt h4.pos t)).1
  change w1.cell? _ = some (.int .u64 (slAt L t).st) at hc
  generalize hs : (slAt L t).st = s at hc he
  have hs2 := As.mk hs
  clear hs
  go_wp2
  go_quiet ((go_at_call 76; exact Calls.quiet_of_same (held_ok t _ ht h1)))
  generalize hq2 : w1.drewN nq = w2
  replace hq2 : QD w1 w2 := ⟨nq, hq2.symm⟩
  clear hc
  have hc := ((h4.qd hq2).cell (pl_lt h4.pos t)).1
  change w2.cell? _ = some (.int .u64 (slAt L t).st) at hc
  rw [hs2.out] at hc
  go_wp2
  go_quiet ((go_at_call 76; exact Calls.quiet_of_same (held_ok t _ ht h1)))
  go_wp2
  go_ret
  exact ⟨rfl, (hq.trans hq2).trans (QD.n _ _)⟩
set_option maxRecDepth 100000 in
set_option maxHeartbeats 3200000 in
theorem got_bit (c r : Int) (hcr : (c = 0 ∧ r = 11) ∨ (c = 1 ∧ r = 0)) (h : SlotsIn w g b cap L R) (ht : 0 ≤ t) (h1 : t < 4611686018427387904) (h2 : ¬ j < 0) (h3 : j < (R : Int)) (he : (slAt L t).st = 2 * t + 1) (hb : (slAt L t).left / 2 ^ j.toNat % 2 = c) :
    Calls Try.prog 77 #[.pointer (some ⟨g, 0, none⟩), .int .i64 j, .int .u64 t] w fun e w' => e = .returned (.int .i64 r) ∧ QD w w' := by
  have hd : decide (4611686018427387904 ≤ t) = false := decide_eq_false (by omega)
  have hd2 : decide (j < 0) = false := decide_eq_false (by omega)
  have hd3 : decide ((R : Int) ≤ j) = false := decide_eq_false (by omega)
  have hc1 := h.c1
  have hR8 := h.hR
  have hok := h.at_ (pl_lt h.pos t)
  have hj0 : 0 ≤ j := by omega
  have hj8 : j < 8 := by omega
  have hbit : bits .and .i64 ((slAt L t).left / 2 ^ j.toNat) 1 = c := by
    rw [← hb]
    obtain ⟨J, rfl⟩ := Int.eq_ofNat_of_zero_le hj0
    obtain ⟨l, hl⟩ := Int.eq_ofNat_of_zero_le hok.2.2.1
    have hl2 := hok.2.2.2
    change (slAt L (t)).left = _ at hl
    change (slAt L (t)).left < _ at hl2
    rw [hl] at hl2 ⊢
    exact bits_and1 l J (by omega) (by omega)
  have he2 := As.mk he
  have hA := As.mk hbit
  clear h2 h3 hok hb hbit he
  rcases hcr with ⟨rfl, rfl⟩ | ⟨rfl, rfl⟩
  all_goals
    go_enter Try.func77, Try.ntmps77
    go_wp2_with fail
    refine (place_ok h ht).mono ?_
    rintro e w1 ⟨rfl, hq⟩
    have h4 := h.qd hq
    have hc := (h4.cell (pl_lt h4.pos t)).1
    change w1.cell? _ = some (.int .u64 (slAt L t).st) at hc
    rw [he2.out] at hc
    go_wp2
    go_quiet ((go_at_call 76; exact Calls.quiet_of_same (held_ok t _ ht h1)))
    generalize hq2 : w1.drewN nq = w2
    replace hq2 : QD w1 w2 := ⟨nq, hq2.symm⟩
    clear hc
    have h5 := h4.qd hq2
    have hc := (h5.cell (pl_lt h5.pos t)).1
    change w2.cell? _ = some (.int .u64 (slAt L t).st) at hc
    rw [he2.out] at hc
    go_wp2
    go_quiet ((go_at_call 76; exact Calls.quiet_of_same (held_ok t _ ht h1)))
    generalize hq3 : w2.drewN nq = w3
    replace hq3 : QD w2 w3 := ⟨nq, hq3.symm⟩
    clear hc
    have h6 := h5.qd hq3
    have hc := (h6.cell (pl_lt h6.pos t)).2.2
    change w3.cell? _ = some (.int .i64 (slAt L t).left) at hc
    have hbit := hA.out
    go_wp2
    go_ret
    exact ⟨rfl, (hq.trans hq2).trans hq3⟩
/-- got, whatever it is asked. -/
theorem got_any (h : SlotsIn w g b cap L R) (ht : 0 ≤ t) :
    Calls Try.prog 77 #[.pointer (some ⟨g, 0, none⟩), .int .i64 j, .int .u64 t] w fun e w' => e = .returned (.int .i64 (sGot L R j t)) ∧ QD w w' := by
  unfold sGot
  by_cases h1 : t < 4611686018427387904
  · by_cases h2 : j < 0
    · rw [if_neg (by omega)]; exact got_arg2 g h1 h2
    · by_cases h3 : j < (R : Int)
      · rw [if_pos ⟨h1, by omega, h3⟩]
        by_cases h4 : (slAt L t).st < 2 * t + 1
        · rw [if_pos h4]; exact got_empty h ht h1 h2 h3 h4
        · rw [if_neg h4]
          by_cases h5 : 2 * t + 1 < (slAt L t).st
          · rw [if_pos h5]; exact got_order h ht h1 h2 h3 h5
          · rw [if_neg h5]
            have h6 : (slAt L t).st = 2 * t + 1 := by omega
            by_cases h7 : (slAt L t).left / 2 ^ j.toNat % 2 = 1
            · have e : bitOf (slAt L t).left j = true := by unfold bitOf; rw [h7]; rfl
              rw [e]; exact got_bit 1 0 (.inr ⟨rfl, rfl⟩) h ht h1 h2 h3 h6 h7
            · have h8 : (slAt L t).left / 2 ^ j.toNat % 2 = 0 := by omega
              have e : bitOf (slAt L t).left j = false := by unfold bitOf; rw [h8]; rfl
              rw [e]; exact got_bit 0 11 (.inl ⟨rfl, rfl⟩) h ht h1 h2 h3 h6 h8
      · rw [if_neg (by omega)]; exact got_arg3 h h1 h2 h3
  · rw [if_neg (by omega)]; exact got_arg1 g h1

set_option maxRecDepth 100000 in
set_option maxHeartbeats 1600000 in
theorem Has_any (h : SlotsIn w g b cap L R) (ht : 0 ≤ t) :
    Calls Try.prog 40 #[.pointer (some ⟨g, 0, none⟩), .int .i64 j, .int .u64 t] w fun e w' => e = .returned (.bool (sGot L R j t == 0)) ∧ QD w w' := by
  go_enter Try.func40, Try.ntmps40
  go_wp2_with fail
  refine (got_any h ht).mono ?_
  rintro e w1 ⟨rfl, hq⟩
  go_wp2
  go_ret
  exact ⟨rfl, hq⟩
set_option maxRecDepth 100000 in
set_option maxHeartbeats 1600000 in
theorem Has_nil : Calls Try.prog 40 #[.pointer none, .int .i64 j, .int .u64 t] w fun e w' => e = .returned (.bool false) ∧ QD w w' := by
  go_enter Try.func40, Try.ntmps40
  go_wp2_with fail
  refine got_nil.mono ?_
  rintro e w1 ⟨rfl, hq⟩
  go_wp2
  go_ret
  exact ⟨rfl, hq⟩

set_option maxRecDepth 100000 in
set_option maxHeartbeats 1600000 in
theorem Get_no (r : Int) (hr : r ≠ 0) (v : Value) (hg : ∀ w, Calls Try.prog 77 #[v, .int .i64 j, .int .u64 t] w fun e w' => e = .returned (.int .i64 r) ∧ QD w w') :
    Calls Try.prog 38 #[v, .int .i64 j, .int .u64 t] w fun e w' => e = .returned (.tuple #[.int .u64 0, .int .i64 r]) ∧ QD w w' := by
  have hb : (r != 0) = true := by simpa using hr
  have hH := As.mk hg
  clear hg
  go_enter Try.func38, Try.ntmps38
  go_wp2_with fail
  refine (hH.out _).mono ?_
  rintro e w1 ⟨rfl, hq⟩
  go_wp2
  go_ret2
  exact ⟨rfl, hq⟩
end Go.Proofs.Ytmejnhfggmmefaa.H
