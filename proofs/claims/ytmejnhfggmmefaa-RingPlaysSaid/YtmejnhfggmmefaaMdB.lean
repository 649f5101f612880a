/- Layer 14: what model's Rest and New do. No condition. -/
import Derived.Test.YtmejnhfggmmefaaMdA
namespace Go.Proofs.Ytmejnhfggmmefaa.H
open Go.RowKit
set_option linter.unusedVariables false
set_option linter.unusedSimpArgs false
variable {w : World} {B : MB} {m : Md} {t j v : Int}

set_option maxRecDepth 100000 in
set_option maxHeartbeats 3200000 in
theorem MRest_at (h : MdIn w B m) (hj : mIs m j = true) (lb : Nat) (hA : B.A = some ⟨lb, 0, none⟩) : Calls Try.prog 31 #[.pointer (some ⟨B.g, 0, none⟩), .int .i64 j] w fun e w' => ∃ v, e = .returned v ∧ w'.ownsRow w.heap.size 36 1 v (mRest m j).length (u64s (mRest m j)) ∧ Kp no w w' := by
  obtain ⟨Bg, BA, Bc, Bgb, Bgc⟩ := B
  change BA = _ at hA
  subst hA
  have c1 : w.cell? ⟨Bg, 1, none⟩ = some (.slice (some ⟨lb, 0, none⟩) m.l.length Bc) := h.c1
  have c2 : w.cell? ⟨Bg, 2, none⟩ = some (.slice (some ⟨Bgb, 0, none⟩) m.got.length Bgc) := h.c2
  have hs := h
  have hb : (0 : Int) ≤ j ∧ j < (m.got.length : Int) := by simp [mIs] at hj; exact hj
  obtain ⟨hb0, hb1⟩ := hb
  have d1 : decide (j < 0) = false := decide_eq_false (by omega)
  have d2 : decide ((m.got.length : Int) ≤ j) = false := decide_eq_false (by omega)
  have hjl : j.toNat < m.got.length := by omega
  have hin := h.h0 (mGot m j) (by unfold mGot; rw [List.getD_eq_getElem?_getD, List.getElem?_eq_getElem hjl]; exact List.getElem_mem _)
  have hc := h.cg hjl
  change w.cell? ⟨Bgb, j.toNat, none⟩ = some (.int .i64 (mGot m j)) at hc
  obtain ⟨G, hG⟩ := Int.eq_ofNat_of_zero_le hin.1
  have hGl : G ≤ m.l.length := by omega
  rw [hG] at hc
  have HG := As.mk hG
  have HJ := As.mk hjl
  have hM := As.mk (show mRest m j = m.l.drop G from by unfold mRest; rw [hj, hG]; simp)
  have hcap : m.l.length ≤ Bc := by
    rcases hs.hl.2 with ⟨h0, _⟩ | ⟨g, cap, cur, hv, _, _, h1, _⟩
    · cases h0
    · injection hv with _ _ h3; subst h3; exact h1
  have hGb0 : (0 : Int) ≤ (G : Int) := by omega
  have hGb1 : (G : Int) ≤ (m.l.length : Int) := by omega
  have hGb2 : (G : Int) ≤ (Bc : Int) := by omega
  clear hj hin hG
  go_enter Try.func31, Try.ntmps31
  go_wp2
  refine wp_region_still_tail 12 (by kernel_rfl) (by kernel_rfl) ?_
  generalize hq : ({ w with drawn := w.drawn + 1 } : World) = w1
  replace hq : QD w w1 := ⟨1, hq.symm⟩
  have hs1 := hs.qd hq
  clear c1 c2 hc
  have c1 : w1.cell? ⟨Bg, 1, none⟩ = some (.slice (some ⟨lb, 0, none⟩) m.l.length Bc) := hs1.c1
  have c2 : w1.cell? ⟨Bg, 2, none⟩ = some (.slice (some ⟨Bgb, 0, none⟩) m.got.length Bgc) := hs1.c2
  have hc := hs1.cg HJ.out
  change w1.cell? ⟨Bgb, j.toNat, none⟩ = some (.int .i64 (mGot m j)) at hc
  rw [HG.out] at hc
  simp only [List.take_succ_cons, List.take_zero, List.drop_succ_cons, List.drop_zero]
  repeat still_step
  refine wpStill_nil ?_
  have hQ := As.mk hq
  have hH := As.mk hs1
  clear c1 c2 hc hs1 hq
  go_wp2_with fail
  all_goals
    refine (CloneU_some _ _ _ (u64s (mRest m j)) (by rw [hM.out]; simp [u64s]) (u64s_one _) (by have := hs.big; omega) ?_).mono ?_
  · intro i u hi
    exfalso
    rw [hM.out, List.drop_of_length_le (by omega)] at hi
    simp [u64s] at hi
  · rintro e w2 ⟨v, rfl, hown, hK⟩
    have hK2 : Kp no w w2 := (Kp.of_qd hQ.out).trans hK
    have hw : w1.heap.size = w.heap.size := by obtain ⟨n, rfl⟩ := hQ.out; rfl
    rw [hw] at hown
    have hl : (mRest m j).length = m.l.length - G := by rw [hM.out, List.length_drop]
    rw [← hl] at hown
    go_wp2
    go_ret
    exact ⟨v, rfl, hown, hK2⟩
  · intro i u hi
    rw [hM.out] at hi
    rw [add_none]
    refine or_cell hH.out.hl (G + i) u ?_
    rw [← hi]
    simp [u64s, List.getElem?_drop]
  · rintro e w2 ⟨v, rfl, hown, hK⟩
    have hK2 : Kp no w w2 := (Kp.of_qd hQ.out).trans hK
    have hw : w1.heap.size = w.heap.size := by obtain ⟨n, rfl⟩ := hQ.out; rfl
    rw [hw] at hown
    have hl : (mRest m j).length = m.l.length - G := by rw [hM.out, List.length_drop]
    rw [← hl] at hown
    go_wp2
    go_ret
    exact ⟨v, rfl, hown, hK2⟩
set_option maxRecDepth 100000 in
set_option maxHeartbeats 3200000 in
theorem MRest_0 (h : MdIn w B m) (hj : mIs m j = true) (hA : B.A = none) : Calls Try.prog 31 #[.pointer (some ⟨B.g, 0, none⟩), .int .i64 j] w fun e w' => e = .returned (.slice none 0 0) ∧ m.l.length = 0 ∧ QD w w' := by
  obtain ⟨Bg, BA, Bc, Bgb, Bgc⟩ := B
  change BA = _ at hA
  subst hA
  have hz : m.l.length = 0 ∧ Bc = 0 := by
    rcases h.hl.2 with ⟨h0, h1⟩ | ⟨g, cap, cur, hv, _⟩
    · injection h0 with _ _ h3; exact ⟨h1, h3⟩
    · injection hv with h1; cases h1
  obtain ⟨hz1, hz2⟩ := hz
  subst hz2
  have c1 : w.cell? ⟨Bg, 1, none⟩ = some (.slice none 0 0) := by have := h.c1; rw [hz1] at this; exact this
  have c2 : w.cell? ⟨Bg, 2, none⟩ = some (.slice (some ⟨Bgb, 0, none⟩) m.got.length Bgc) := h.c2
  have hs := h
  have hb : (0 : Int) ≤ j ∧ j < (m.got.length : Int) := by simp [mIs] at hj; exact hj
  obtain ⟨hb0, hb1⟩ := hb
  have d1 : decide (j < 0) = false := decide_eq_false (by omega)
  have d2 : decide ((m.got.length : Int) ≤ j) = false := decide_eq_false (by omega)
  have hjl : j.toNat < m.got.length := by omega
  have hin := h.h0 (mGot m j) (by unfold mGot; rw [List.getD_eq_getElem?_getD, List.getElem?_eq_getElem hjl]; exact List.getElem_mem _)
  have hc := h.cg hjl
  change w.cell? ⟨Bgb, j.toNat, none⟩ = some (.int .i64 (mGot m j)) at hc
  rw [show mGot m j = 0 from by omega] at hc
  have HG := As.mk (show mGot m j = 0 from by omega)
  have HJ := As.mk hjl
  have HZ := As.mk hz1
  clear hj hin hz1 hjl
  go_enter Try.func31, Try.ntmps31
  go_wp2
  refine wp_region_still_tail 12 (by kernel_rfl) (by kernel_rfl) ?_
  generalize hq : ({ w with drawn := w.drawn + 1 } : World) = w1
  replace hq : QD w w1 := ⟨1, hq.symm⟩
  have hs1 := hs.qd hq
  clear c1 c2 hc
  have c1 : w1.cell? ⟨Bg, 1, none⟩ = some (.slice none 0 0) := by have := hs1.c1; rw [HZ.out] at this; exact this
  have c2 : w1.cell? ⟨Bg, 2, none⟩ = some (.slice (some ⟨Bgb, 0, none⟩) m.got.length Bgc) := hs1.c2
  have hc := hs1.cg HJ.out
  change w1.cell? ⟨Bgb, j.toNat, none⟩ = some (.int .i64 (mGot m j)) at hc
  rw [HG.out] at hc
  simp only [List.take_succ_cons, List.take_zero, List.drop_succ_cons, List.drop_zero]
  repeat still_step
  refine wpStill_nil ?_
  go_wp2_with fail
  refine CloneU_nil.mono ?_
  rintro e w2 ⟨rfl, hq2⟩
  go_wp2
  go_ret
  exact ⟨rfl, HZ.out, hq.trans hq2⟩
/-- Rest, whatever it is asked. -/
theorem MRest_any (h : MdIn w B m) (j : Int) : Calls Try.prog 31 #[.pointer (some ⟨B.g, 0, none⟩), .int .i64 j] w fun e w' => ∃ v, e = .returned v ∧ w'.ownsRow w.heap.size 36 1 v (mRest m j).length (u64s (mRest m j)) ∧ Kp no w w' := by
  cases hj : mIs m j with
  | false =>
    refine (MRest_none h hj).mono ?_
    rintro e w' ⟨rfl, hq⟩
    have : mRest m j = [] := by unfold mRest; rw [hj]; rfl
    rw [this]
    exact ⟨_, rfl, World.ownsRow_nil _ _ _ _, Kp.of_qd hq⟩
  | true =>
    cases hA : B.A with
    | none =>
      refine (MRest_0 h hj hA).mono ?_
      rintro e w' ⟨rfl, h0, hq⟩
      have : mRest m j = [] := by unfold mRest; rw [hj, List.eq_nil_of_length_eq_zero h0]; simp
      rw [this]
      exact ⟨_, rfl, World.ownsRow_nil _ _ _ _, Kp.of_qd hq⟩
    | some ad =>
      have hv := h.hl.2
      rcases hv with ⟨h0, _⟩ | ⟨g, cap, cur, h0, _⟩
      · unfold MB.v at h0; rw [hA] at h0; injection h0 with h1; cases h1
      · unfold MB.v at h0; rw [hA] at h0; injection h0 with h1; injection h1 with h1
        exact MRest_at h hj g (by rw [hA, h1])
end Go.Proofs.Ytmejnhfggmmefaa.H
