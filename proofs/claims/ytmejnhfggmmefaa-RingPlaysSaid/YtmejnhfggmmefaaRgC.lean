/- Layer 13: what ring's Claim, Publish, Take, Release and Close do. No condition. -/
import Derived.Test.YtmejnhfggmmefaaRgB
namespace Go.Proofs.Ytmejnhfggmmefaa.H
open Go.RowKit
set_option linter.unusedVariables false
set_option linter.unusedSimpArgs false
variable {w : World} {B : RB} {r : Rg} {t j v : Int}

set_option maxRecDepth 100000 in
set_option maxHeartbeats 1600000 in
theorem Claim_any (h : RingIn w B r) (hb : r.tail + 1 < 9223372036854775808) : Calls Try.prog 50 #[.pointer (some ⟨B.g, 0, none⟩)] w fun e w' =>
    e = .returned (.tuple #[.int .u64 (rClaim r).1, .int .i64 (rClaim r).2.1]) ∧ RingIn w' B (rClaim r).2.2 ∧ Kp B.own w w' := by
  have c4 := h.c4
  have hs := h
  unfold rClaim
  cases hc : r.closed with
  | true =>
    rw [hc] at c4
    clear hc hb
    go_enter Try.func50, Try.ntmps50
    go_wp2
    go_ret2
    exact ⟨rfl, hs, Kp.refl _ _⟩
  | false =>
    rw [hc] at c4
    have HC0 := As.mk hc
    clear hc
    have c0 := h.c0
    have ht0 := h.t0
    cases hf : rFull r with
    | true =>
      have hH := As.mk hf
      clear hf hb
      go_enter Try.func50, Try.ntmps50
      go_wp2_with fail
      refine (Full_any hs).mono ?_
      rintro e w1 ⟨rfl, hq⟩
      rw [hH.out]
      go_wp2
      go_ret2
      exact ⟨rfl, hs.qd hq, Kp.of_qd hq⟩
    | false =>
      have hH := As.mk hf
      have hB := As.mk hb
      have hw : IntKind.u64.wrap (r.tail + 1) = r.tail + 1 := by rw [IntKind.wrap_u64]; omega
      have hw2 : IntKind.u64.wrap r.tail = r.tail := by rw [IntKind.wrap_u64]; omega
      have HC : As (r.closed = false) := HC0
      have f0 := h.fz 0
      clear hf hb c0 f0
      go_enter Try.func50, Try.ntmps50
      go_wp2_with fail
      refine (Full_any hs).mono ?_
      rintro e w1 ⟨rfl, hq⟩
      rw [hH.out]
      have hs2 := hs.qd hq
      have c0 := hs2.c0
      have f0 := hs2.fz 0
      go_wp2
      go_ret2
      have hf := hs2.setTail (t := r.tail + 1) (by omega) hB.out
      rw [HC.out] at hf
      exact ⟨rfl, hf, (Kp.of_qd hq).setCell _ (.inl rfl) _⟩
theorem Claim_nil : Calls Try.prog 50 #[.pointer none] w fun e w' => e = .returned (.tuple #[.int .u64 0, .int .i64 15]) ∧ QD w w' := by
  go_enter Try.func50, Try.ntmps50
  go_wp2
  go_ret2
  exact ⟨rfl, QD.refl _⟩
set_option maxRecDepth 100000 in
set_option maxHeartbeats 1600000 in
theorem Publish_any (h : RingIn w B r) (ht : 0 ≤ t) : Calls Try.prog 51 #[.pointer (some ⟨B.g, 0, none⟩), .int .u64 t, .int .u64 v] w fun e w' =>
    e = .returned (.int .i64 (rPublish r t v).1) ∧ RingIn w' B (rPublish r t v).2 ∧ Kp B.own w w' := by
  have c0 := h.c0
  have c2 := h.c2
  have hs := h
  unfold rPublish
  by_cases h1 : r.tail ≤ t
  · rw [if_pos h1]
    go_enter Try.func51, Try.ntmps51
    go_wp2
    go_ret
    exact ⟨rfl, hs, Kp.refl _ _⟩
  · rw [if_neg h1]
    go_enter Try.func51, Try.ntmps51
    go_wp2_with fail
    refine (Put_any hs.s ht).mono ?_
    rintro e w1 ⟨rfl, hS, hK⟩
    have hf := hs.setSlots hK hS (sPut_len _ _ _ _)
    go_wp2
    go_ret
    exact ⟨rfl, hf, hK.mono (fun k hk => .inr (.inr (.inr hk)))⟩
theorem Publish_nil : Calls Try.prog 51 #[.pointer none, .int .u64 t, .int .u64 v] w fun e w' => e = .returned (.int .i64 15) ∧ QD w w' := by
  go_enter Try.func51, Try.ntmps51
  go_wp2
  go_ret
  exact ⟨rfl, QD.refl _⟩
set_option maxRecDepth 100000 in
set_option maxHeartbeats 3200000 in
theorem Take_any (h : RingIn w B r) (j : Int) : Calls Try.prog 53 #[.pointer (some ⟨B.g, 0, none⟩), .int .i64 j] w fun e w' =>
    e = .returned (.tuple #[.int .u64 (rTake r j).1, .int .i64 (rTake r j).2.1]) ∧ RingIn w' B (rTake r j).2.2 ∧ Kp B.own w w' := by
  have hs := h
  unfold rTake
  cases hj : rIs r j with
  | false =>
    have hH := As.mk hj
    clear hj
    rw [if_neg (by decide)]
    go_enter Try.func53, Try.ntmps53
    go_wp2_with fail
    refine (reader_any hs j).mono ?_
    rintro e w1 ⟨rfl, rfl⟩
    rw [hH.out]
    go_wp2
    go_ret2
    exact ⟨rfl, hs, Kp.refl _ _⟩
  | true =>
    rw [if_pos rfl]
    have hH := As.mk hj
    have hle := As.mk (hs.head_le hj)
    have hb : (0 : Int) ≤ j ∧ j < (r.heads.length : Int) := by simp [rIs] at hj; exact hj
    obtain ⟨hb0, hb1⟩ := hb
    by_cases h1 : rHead r j = r.tail
    · rw [if_pos h1]
      have hE := As.mk (show rEmpty r j = true from by unfold rEmpty; rw [hj, h1]; simp)
      clear h1 hj
      cases hc : r.closed with
      | true =>
        have HC := As.mk hc
        clear hc
        go_enter Try.func53, Try.ntmps53
        go_wp2_with fail
        refine (reader_any hs j).mono ?_
        rintro e w1 ⟨rfl, rfl⟩
        rw [hH.out]
        go_wp2_with fail
        refine (Empty_any hs j).mono ?_
        rintro e w2 ⟨rfl, hq⟩
        rw [hE.out]
        have hs2 := hs.qd hq
        have c4 := hs2.c4
        rw [HC.out] at c4
        go_wp2
        go_ret2
        exact ⟨rfl, hs2, Kp.of_qd hq⟩
      | false =>
        have HC := As.mk hc
        clear hc
        go_enter Try.func53, Try.ntmps53
        go_wp2_with fail
        refine (reader_any hs j).mono ?_
        rintro e w1 ⟨rfl, rfl⟩
        rw [hH.out]
        go_wp2_with fail
        refine (Empty_any hs j).mono ?_
        rintro e w2 ⟨rfl, hq⟩
        rw [hE.out]
        have hs2 := hs.qd hq
        have c4 := hs2.c4
        rw [HC.out] at c4
        go_wp2_with fail
        refine (Empty_any hs2 j).mono ?_
        rintro e w3 ⟨rfl, hq2⟩
        rw [hE.out]
        go_wp2
        go_ret2
        exact ⟨rfl, hs2.qd hq2, Kp.of_qd (hq.trans hq2)⟩
    · rw [if_neg h1]
      have hE := As.mk (show rEmpty r j = false from by unfold rEmpty; rw [hj]; simpa using h1)
      have hlt := As.mk (show rHead r j + 1 ≤ r.tail from by have := hle.out; omega)
      have ht1 := As.mk h.t1
      have hw : IntKind.u64.wrap (rHead r j + 1) = rHead r j + 1 := by have q1 := hle.out; have q2 := ht1.out; rw [IntKind.wrap_u64]; omega
      have hw2 : IntKind.u64.wrap (rHead r j) = rHead r j := by have q1 := hle.out; have q2 := ht1.out; rw [IntKind.wrap_u64]; omega
      clear h1 hj
      go_enter Try.func53, Try.ntmps53
      go_wp2_with fail
      refine (reader_any hs j).mono ?_
      rintro e w1 ⟨rfl, rfl⟩
      rw [hH.out]
      go_wp2_with fail
      refine (Empty_any hs j).mono ?_
      rintro e w2 ⟨rfl, hq⟩
      rw [hE.out]
      have hs2 := hs.qd hq
      go_wp2_with fail
      refine (Empty_any hs2 j).mono ?_
      rintro e w3 ⟨rfl, hq2⟩
      rw [hE.out]
      have hs3 := hs2.qd hq2
      have c1 := hs3.c1
      have hc := hs3.ch (i := j.toNat) (by omega)
      change w3.cell? _ = some (.int .u64 (rHead r j)) at hc
      have hfz := hs3.hfz j.toNat
      have hne : ¬ (⟨B.g, 1, none⟩ : Addr) = ⟨B.hb, j.toNat, none⟩ := fun e => hs3.g_hb (by injection e)
      have hc1' : (w3.setCell ⟨B.hb, j.toNat, none⟩ (.int .u64 (rHead r j + 1))).cell? ⟨B.g, 1, none⟩ = some (.slice (some ⟨B.hb, 0, none⟩) r.heads.length B.hcap) := by
        have hf := hs3.setHead (i := j.toNat) (by omega) (t := rHead r j + 1) (by have := hle.out; omega) hlt.out
        have := hf.c1
        simpa using this
      go_wp2
      go_ret2
      have hf := hs3.setHead (i := j.toNat) (by omega) (t := rHead r j + 1) (by have := hle.out; omega) hlt.out
      exact ⟨rfl, hf, (Kp.of_qd (hq.trans hq2)).setCell _ (.inr (.inl rfl)) _⟩
theorem Take_nil : Calls Try.prog 53 #[.pointer none, .int .i64 j] w fun e w' => e = .returned (.tuple #[.int .u64 0, .int .i64 15]) ∧ QD w w' := by
  go_enter Try.func53, Try.ntmps53
  go_wp2
  go_ret2
  exact ⟨rfl, QD.refl _⟩
set_option maxRecDepth 100000 in
set_option maxHeartbeats 3200000 in
theorem Release_any (h : RingIn w B r) (ht : 0 ≤ t) (j : Int) : Calls Try.prog 54 #[.pointer (some ⟨B.g, 0, none⟩), .int .i64 j, .int .u64 t] w fun e w' =>
    e = .returned (.tuple #[.int .u64 (rRelease r j t).1, .int .i64 (rRelease r j t).2.1]) ∧ RingIn w' B (rRelease r j t).2.2 ∧ Kp B.own w w' := by
  have hs := h
  have c1 := h.c1
  have c2 := h.c2
  unfold rRelease
  cases hj : rIs r j with
  | false =>
    have hH := As.mk hj
    clear hj
    rw [if_neg (by decide)]
    go_enter Try.func54, Try.ntmps54
    go_wp2_with fail
    refine (reader_any hs j).mono ?_
    rintro e w1 ⟨rfl, rfl⟩
    rw [hH.out]
    go_wp2
    go_ret2
    exact ⟨rfl, hs, Kp.refl _ _⟩
  | true =>
    rw [if_pos rfl]
    have hH := As.mk hj
    have hb : (0 : Int) ≤ j ∧ j < (r.heads.length : Int) := by simp [rIs] at hj; exact hj
    obtain ⟨hb0, hb1⟩ := hb
    have hc := h.ch (i := j.toNat) (by omega)
    change w.cell? _ = some (.int .u64 (rHead r j)) at hc
    clear hj
    by_cases h1 : rHead r j ≤ t
    · rw [if_pos h1]
      go_enter Try.func54, Try.ntmps54
      go_wp2_with fail
      refine (reader_any hs j).mono ?_
      rintro e w1 ⟨rfl, rfl⟩
      rw [hH.out]
      go_wp2
      go_ret2
      exact ⟨rfl, hs, Kp.refl _ _⟩
    · rw [if_neg h1]
      go_enter Try.func54, Try.ntmps54
      go_wp2_with fail
      refine (reader_any hs j).mono ?_
      rintro e w1 ⟨rfl, rfl⟩
      rw [hH.out]
      go_wp2_with fail
      refine (Get_any hs.s ht).mono ?_
      rintro e w1 ⟨rfl, hS, hK⟩
      have hf := hs.setSlots hK hS (sGet_len _ _ _ _)
      go_wp2
      go_ret2
      exact ⟨rfl, hf, hK.mono (fun k hk => .inr (.inr (.inr hk)))⟩
theorem Release_nil : Calls Try.prog 54 #[.pointer none, .int .i64 j, .int .u64 t] w fun e w' => e = .returned (.tuple #[.int .u64 0, .int .i64 15]) ∧ QD w w' := by
  go_enter Try.func54, Try.ntmps54
  go_wp2
  go_ret2
  exact ⟨rfl, QD.refl _⟩
set_option maxRecDepth 100000 in
set_option maxHeartbeats 1600000 in
theorem Close_any (h : RingIn w B r) : Calls Try.prog 52 #[.pointer (some ⟨B.g, 0, none⟩)] w fun e w' => e = .returned (.int .i64 0) ∧ RingIn w' B { r with closed := true } ∧ Kp B.own w w' := by
  have c4 := h.c4
  have f4 := h.fz 4
  have hs := h
  go_enter Try.func52, Try.ntmps52
  go_wp2
  go_ret
  exact ⟨rfl, hs.setClosed true, (Kp.refl _ _).setCell _ (.inl rfl) _⟩
theorem Close_nil : Calls Try.prog 52 #[.pointer none] w fun e w' => e = .returned (.int .i64 15) ∧ QD w w' := by
  go_enter Try.func52, Try.ntmps52
  go_wp2
  go_ret
  exact ⟨rfl, QD.refl _⟩
end Go.Proofs.Ytmejnhfggmmefaa.H
