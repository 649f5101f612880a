/- Layer 13: what ring's Full, Empty, Tail, Head, Closed, Free, Has do. No condition. -/
import Derived.Test.YtmejnhfggmmefaaRgA
namespace Go.Proofs.Ytmejnhfggmmefaa.H
open Go.RowKit
set_option linter.unusedVariables false
set_option linter.unusedSimpArgs false
variable {w : World} {B : RB} {r : Rg} {t j : Int}

theorem RingIn.least_le (h : RingIn w B r) : 0 ≤ leastL r.heads ∧ leastL r.heads ≤ r.tail := h.h0 _ (leastL_mem h.s.hR0)
theorem rHead_mem (h : rIs r j = true) : rHead r j ∈ r.heads := by
  unfold rIs at h; simp at h
  unfold rHead
  have : j.toNat < r.heads.length := by omega
  simp [List.getD, this]
theorem RingIn.head_le (h : RingIn w B r) (hj : rIs r j = true) : 0 ≤ rHead r j ∧ rHead r j ≤ r.tail := h.h0 _ (rHead_mem hj)

set_option maxRecDepth 100000 in
set_option maxHeartbeats 1600000 in
theorem Full_any (h : RingIn w B r) : Calls Try.prog 63 #[.pointer (some ⟨B.g, 0, none⟩)] w fun e w' => e = .returned (.bool (rFull r)) ∧ QD w w' := by
  have c0 := h.c0
  have c3 := h.c3
  have hl := h.least_le
  have ht := h.t1
  have hw : IntKind.u64.wrap (r.tail - leastL r.heads) = r.tail - leastL r.heads := by rw [IntKind.wrap_u64]; omega
  have hs := h
  clear hl ht
  go_enter Try.func63, Try.ntmps63
  go_wp2
  go_quiet ((go_at_call 90; exact Calls.quiet_of_same (least_ok (hs.qd (QD.n _ _)))))
  go_wp2
  go_ret
  exact ⟨rfl, QD.n _ _⟩
set_option maxRecDepth 100000 in
set_option maxHeartbeats 1600000 in
theorem Full_nil : Calls Try.prog 63 #[.pointer none] w fun e w' => e = .returned (.bool false) ∧ QD w w' := by
  go_enter Try.func63, Try.ntmps63
  go_wp2
  go_quiet (fail)
  go_wp2
  go_ret
  exact ⟨rfl, QD.n _ _⟩
set_option maxRecDepth 100000 in
set_option maxHeartbeats 1600000 in
theorem Tail_any (h : RingIn w B r) : Calls Try.prog 64 #[.pointer (some ⟨B.g, 0, none⟩)] w fun e w' => e = .returned (.int .u64 r.tail) ∧ w' = w := by
  have c0 := h.c0
  go_enter Try.func64, Try.ntmps64
  go_wp2
  go_ret
  exact ⟨rfl, rfl⟩
theorem Tail_nil : Calls Try.prog 64 #[.pointer none] w fun e w' => e = .returned (.int .u64 0) ∧ w' = w := by
  go_enter Try.func64, Try.ntmps64
  go_wp2
  go_ret
  exact ⟨rfl, rfl⟩
set_option maxRecDepth 100000 in
set_option maxHeartbeats 1600000 in
theorem Closed_any (h : RingIn w B r) : Calls Try.prog 66 #[.pointer (some ⟨B.g, 0, none⟩)] w fun e w' => e = .returned (.bool r.closed) ∧ w' = w := by
  have c4 := h.c4
  go_enter Try.func66, Try.ntmps66
  go_wp2
  go_ret
  exact ⟨rfl, rfl⟩
theorem Closed_nil : Calls Try.prog 66 #[.pointer none] w fun e w' => e = .returned (.bool false) ∧ w' = w := by
  go_enter Try.func66, Try.ntmps66
  go_wp2
  go_ret
  exact ⟨rfl, rfl⟩
set_option maxRecDepth 100000 in
set_option maxHeartbeats 1600000 in
theorem Head_any (h : RingIn w B r) (j : Int) : Calls Try.prog 65 #[.pointer (some ⟨B.g, 0, none⟩), .int .i64 j] w fun e w' => e = .returned (.int .u64 (if rIs r j then rHead r j else 0)) ∧ w' = w := by
  have c1 := h.c1
  have hs := h
  cases hj : rIs r j with
  | true =>
    have hj2 := As.mk hj
    have hb : (0 : Int) ≤ j ∧ j < (r.heads.length : Int) := by simp [rIs] at hj; exact hj
    obtain ⟨hb0, hb1⟩ := hb
    have hc := h.ch (i := j.toNat) (by omega)
    change w.cell? _ = some (.int .u64 (rHead r j)) at hc
    clear hj
    go_enter Try.func65, Try.ntmps65
    go_wp2_with fail
    refine (reader_any hs j).mono ?_
    rintro e w1 ⟨rfl, rfl⟩
    rw [hj2.out]
    go_wp2
    go_ret
    exact ⟨rfl, rfl⟩
  | false =>
    have hj2 := As.mk hj
    clear hj
    go_enter Try.func65, Try.ntmps65
    go_wp2_with fail
    refine (reader_any hs j).mono ?_
    rintro e w1 ⟨rfl, rfl⟩
    rw [hj2.out]
    go_wp2
    go_ret
    exact ⟨rfl, rfl⟩
theorem Head_nil : Calls Try.prog 65 #[.pointer none, .int .i64 j] w fun e w' => e = .returned (.int .u64 0) ∧ w' = w := by
  go_enter Try.func65, Try.ntmps65
  go_wp2
  go_ret
  exact ⟨rfl, rfl⟩
set_option maxRecDepth 100000 in
set_option maxHeartbeats 1600000 in
theorem Empty_any (h : RingIn w B r) (j : Int) : Calls Try.prog 55 #[.pointer (some ⟨B.g, 0, none⟩), .int .i64 j] w fun e w' => e = .returned (.bool (rEmpty r j)) ∧ QD w w' := by
  have c0 := h.c0
  have c1 := h.c1
  have hs := h
  unfold rEmpty
  cases hj : rIs r j with
  | true =>
    have hj2 := As.mk hj
    have hb : (0 : Int) ≤ j ∧ j < (r.heads.length : Int) := by simp [rIs] at hj; exact hj
    obtain ⟨hb0, hb1⟩ := hb
    have hc := h.ch (i := j.toNat) (by omega)
    change w.cell? _ = some (.int .u64 (rHead r j)) at hc
    have hcall : ∀ n : Nat, Calls Try.prog 80 #[.pointer (some ⟨B.g, 0, none⟩), .int .i64 j] (w.drewN n) fun e w' => e = .returned (.bool true) ∧ w' = w.drewN n := fun n => by
      have := reader_any (hs.qd (QD.n _ n)) j
      rw [hj] at this; exact this
    have hH := As.mk hcall
    clear hj hcall
    go_enter Try.func55, Try.ntmps55
    go_wp2
    go_quiet ((go_at_call 80; exact Calls.quiet_of_same (hH.out _)))
    go_wp2
    go_ret
    exact ⟨by simp, QD.n _ _⟩
  | false =>
    have hcall : ∀ n : Nat, Calls Try.prog 80 #[.pointer (some ⟨B.g, 0, none⟩), .int .i64 j] (w.drewN n) fun e w' => e = .returned (.bool false) ∧ w' = w.drewN n := fun n => by
      have := reader_any (hs.qd (QD.n _ n)) j
      rw [hj] at this; exact this
    have hH := As.mk hcall
    clear hj hcall
    go_enter Try.func55, Try.ntmps55
    go_wp2
    go_quiet ((go_at_call 80; exact Calls.quiet_of_same (hH.out _)))
    go_wp2
    go_ret
    exact ⟨rfl, QD.n _ _⟩
theorem Empty_nil : Calls Try.prog 55 #[.pointer none, .int .i64 j] w fun e w' => e = .returned (.bool false) ∧ QD w w' := by
  go_enter Try.func55, Try.ntmps55
  go_wp2
  go_quiet (fail)
  go_wp2
  go_ret
  exact ⟨rfl, QD.n _ _⟩
set_option maxRecDepth 100000 in
set_option maxHeartbeats 1600000 in
theorem RFree_any (h : RingIn w B r) (ht : 0 ≤ t) : Calls Try.prog 43 #[.pointer (some ⟨B.g, 0, none⟩), .int .u64 t] w fun e w' => e = .returned (.bool (rFree r t)) ∧ QD w w' := by
  have c0 := h.c0
  have c2 := h.c2
  have hs := h
  unfold rFree
  by_cases h1 : t < r.tail
  · have d1 : decide (t < r.tail) = true := decide_eq_true h1
    rw [d1]
    clear h1
    go_enter Try.func43, Try.ntmps43
    go_wp2_with fail
    refine (Free_ok hs.s ht).mono ?_
    rintro e w1 ⟨rfl, hq⟩
    go_wp2
    go_ret
    exact ⟨by simp, hq⟩
  · have d1 : decide (t < r.tail) = false := decide_eq_false h1
    rw [d1]
    clear h1
    go_enter Try.func43, Try.ntmps43
    go_wp2
    go_ret
    exact ⟨rfl, QD.refl _⟩
theorem RFree_nil : Calls Try.prog 43 #[.pointer none, .int .u64 t] w fun e w' => e = .returned (.bool false) ∧ QD w w' := by
  go_enter Try.func43, Try.ntmps43
  go_wp2
  go_ret
  exact ⟨rfl, QD.refl _⟩
set_option maxRecDepth 100000 in
set_option maxHeartbeats 1600000 in
theorem RHas_any (h : RingIn w B r) (ht : 0 ≤ t) (j : Int) : Calls Try.prog 44 #[.pointer (some ⟨B.g, 0, none⟩), .int .i64 j, .int .u64 t] w fun e w' => e = .returned (.bool (rHas r j t)) ∧ QD w w' := by
  have c1 := h.c1
  have c2 := h.c2
  have hs := h
  unfold rHas
  cases hj : rIs r j with
  | true =>
    have hj2 := As.mk hj
    have hb : (0 : Int) ≤ j ∧ j < (r.heads.length : Int) := by simp [rIs] at hj; exact hj
    obtain ⟨hb0, hb1⟩ := hb
    have hc := h.ch (i := j.toNat) (by omega)
    change w.cell? _ = some (.int .u64 (rHead r j)) at hc
    clear hj
    by_cases h1 : t < rHead r j
    · have d1 : decide (t < rHead r j) = true := decide_eq_true h1
      rw [d1]
      clear h1
      go_enter Try.func44, Try.ntmps44
      go_wp2_with fail
      refine (reader_any hs j).mono ?_
      rintro e w1 ⟨rfl, rfl⟩
      rw [hj2.out]
      go_wp2_with fail
      refine (Has_any hs.s ht).mono ?_
      rintro e w1 ⟨rfl, hq⟩
      go_wp2
      go_ret
      exact ⟨by simp, hq⟩
    · have d1 : decide (t < rHead r j) = false := decide_eq_false h1
      rw [d1]
      clear h1
      go_enter Try.func44, Try.ntmps44
      go_wp2_with fail
      refine (reader_any hs j).mono ?_
      rintro e w1 ⟨rfl, rfl⟩
      rw [hj2.out]
      go_wp2
      go_ret
      exact ⟨by simp, QD.refl _⟩
  | false =>
    have hj2 := As.mk hj
    clear hj
    go_enter Try.func44, Try.ntmps44
    go_wp2_with fail
    refine (reader_any hs j).mono ?_
    rintro e w1 ⟨rfl, rfl⟩
    rw [hj2.out]
    go_wp2
    go_ret
    exact ⟨by simp, QD.refl _⟩
theorem RHas_nil : Calls Try.prog 44 #[.pointer none, .int .i64 j, .int .u64 t] w fun e w' => e = .returned (.bool false) ∧ QD w w' := by
  go_enter Try.func44, Try.ntmps44
  go_wp2
  go_ret
  exact ⟨rfl, QD.refl _⟩
end Go.Proofs.Ytmejnhfggmmefaa.H
