/- Layer 13's reference: Release, Take. No condition. -/
import Derived.Test.YtmejnhfggmmefaaR13C
namespace Go.Proofs.Ytmejnhfggmmefaa.H
open Go.RowKit
set_option linter.unusedVariables false
set_option linter.unusedSimpArgs false
variable {w : World} {bb : Nat → Prop} {S : Nat → Prop} {r : Rg} {t v j : Int}

set_option maxRecDepth 100000 in
set_option maxHeartbeats 6400000 in
theorem RRelease_any {e : Value} (hA : RA13 r) (h : RG bb S w e r) (hbb : ∀ k, bb k → k < w.heap.size) (ht : 0 ≤ t) : Calls Try.prog 84 #[e, .int .i64 j, .int .u64 t] w fun e w' => ∃ vv, e = .returned (.tuple #[.int .u64 (rRelease r j t).1, .int .i64 (rRelease r j t).2.1, vv]) ∧ RG bb S w' vv (rRelease r j t).2.2 ∧ Kp no w w' := by
  have HA := As.mk hA
  have HG := As.mk h
  obtain ⟨tl, hs, CL, L⟩ := r
  obtain ⟨vh, vl, rfl, h1, h2, h3, h4⟩ := h
  obtain ⟨Ah, ch, rfl, -⟩ := id h1
  obtain ⟨Al, cl, rfl, -⟩ := id h2
  dsimp only at hA h1 h2 h3 HA HG ⊢
  have H := As.mk (And.intro h1 (And.intro h2 (And.intro h3 h4)))
  have HP := fun (W : World) (k : Kp no w W) => RGet_any (bb := bb) (w := W) (t := t) (j := j) HA.out.s ⟨_, rfl, h2.kp k (fun _ _ x => x), h4⟩ (fun b hb => by have := k.size; have := hbb b hb; omega) ht
  have HPP := As.mk HP
  have hn0 := hA.n0
  have hn8 := hA.s.hR
  dsimp only at hn0 hn8
  by_cases hj : 0 ≤ j ∧ j < (hs.length : Int)
  · obtain ⟨j0, j1⟩ := hj
    obtain ⟨k, rfl⟩ := Int.eq_ofNat_of_zero_le j0
    have hk : k < hs.length := by omega
    obtain ⟨gh, go, c9, e9, -, -, hc⟩ := h1.form (by simpa [u64s] using hn0)
    injection e9 with e1 e2 e3
    subst e1; subst e3
    clear e2
    have ck := hc k _ (u64s_get hs k hk)
    have hgl := World.block_lt_of_cell? _ _ ck
    simp only at hgl
    have hi : rIs ⟨tl, hs, CL, L⟩ (k : Int) = true := by unfold rIs; simp; exact hk
    have hh : rHead ⟨tl, hs, CL, L⟩ (k : Int) = hs.getD k 0 := by unfold rHead; simp
    generalize hs.getD k 0 = x at ck hh
    have E1 := As.mk (And.intro hi hh)
    clear hA h1 h2 h3 h4 HP hbb ht hc hi hh hn0
    by_cases hlt : x ≤ t
    · have hd : decide (x ≤ t) = true := decide_eq_true hlt
      have e : rRelease ⟨tl, hs, CL, L⟩ k t = (0, 11, ⟨tl, hs, CL, L⟩) := by unfold rRelease; rw [if_pos E1.out.1, E1.out.2, if_pos hlt]
      rw [e]
      clear e hlt
      go_enter Try.func84, Try.ntmps84
      go_wp2_with (first | (refine wpStill_op (by rfl) (by rfl) (fun K hK => ?_)) | (refine wpStill_nil ?_) | (refine wpStill_want (by rfl) (by rfl) (fun K hK => ?_)) | (refine wpStill_skip (by rfl) ?_; simp only [Act.put, List.setIfInBounds_toArray, List.set_cons_zero, List.set_cons_succ]) | (refine reg_tail (id := 2) 3 (by kernel_rfl) (by kernel_rfl) ?_; simp only [List.take_succ_cons, List.take_zero, List.drop_succ_cons, List.drop_zero]) | (refine reg_tail (id := 4) 3 (by kernel_rfl) (by kernel_rfl) ?_; simp only [List.take_succ_cons, List.take_zero, List.drop_succ_cons, List.drop_zero]) | (refine reg_tail (id := 7) 5 (by kernel_rfl) (by kernel_rfl) ?_; simp only [List.take_succ_cons, List.take_zero, List.drop_succ_cons, List.drop_zero]))
      refine bodyPost_ret (results_ttc rfl _ _ (w.heap.size + 1) 104 _ (0, 0) _ (.int .u64 0) (.int .i64 11) rfl rfl rfl (by (with_reducible repeat (first | exact absurd | refine st_drew ?_ | apply st_same | refine st_far (by omega) ?_ | (refine st_new ?_; (first | with_reducible rfl | assumption | (simp; done) | (simp; omega))) | refine st_alloc ?_))) Try.underlying104 rfl (by kernel_rfl)) rfl ?_
      refine (fun (k : Kp no w _) => ⟨_, rfl, RG.same H k, k⟩) ?_
      (with_reducible repeat (first | exact Kp.refl no w | refine kp_drew ?_ | refine kp_new (by omega) ?_ | refine kp_alloc ?_))
    · have hd : decide (x ≤ t) = false := decide_eq_false hlt
      have e : rRelease ⟨tl, hs, CL, L⟩ k t = ((sGet L hs.length k t).1, (sGet L hs.length k t).2.1, ⟨tl, hs, CL, (sGet L hs.length k t).2.2⟩) := by unfold rRelease; rw [if_pos E1.out.1, E1.out.2, if_neg hlt]
      rw [e]
      clear e hlt
      have hl := sGet_len L hs.length k t
      generalize sGet L hs.length k t = q at HPP hl ⊢
      obtain ⟨gv, er, L2⟩ := q
      dsimp only at HPP hl ⊢
      go_enter Try.func84, Try.ntmps84
      go_wp2_with fail
      refine (HPP.out _ (((Kp.refl no w).alloc _).alloc _)).mono ?_
      rintro e w1 ⟨vv, rfl, ⟨v2, rfl, hr2, hf2⟩, hk2⟩
      obtain ⟨A2, c2, rfl, -⟩ := id hr2
      obtain ⟨m0, m1, hK, hsz⟩ := after2 hk2
      have e0 := bk_cell m0
      have z0 := bk_fz m0
      have e1 := bk_cell m1
      have z1 := bk_fz m1
      have M := As.mk (And.intro m0 (And.intro m1 hK))
      have HR := As.mk (And.intro hr2 hf2)
      have HL := As.mk hl
      have l0 : w.heap.size < w1.heap.size := by omega
      have l1 : w.heap.size + 1 < w1.heap.size := hsz
      have n1 : ¬ w1.heap.size = w.heap.size := by omega
      have n2 : ¬ w1.heap.size = w.heap.size + 1 := by omega
      have n3 : ¬ w.heap.size = w1.heap.size := by omega
      have n4 : ¬ w.heap.size + 1 = w1.heap.size := by omega
      clear m0 m1 hK hk2 hr2 hf2 hl hsz ck
      go_wp2_with (first | (refine wpStill_op (by rfl) (by rfl) (fun K hK => ?_)) | (refine wpStill_nil ?_) | (refine wpStill_want (by rfl) (by rfl) (fun K hK => ?_)) | (refine wpStill_skip (by rfl) ?_; simp only [Act.put, List.setIfInBounds_toArray, List.set_cons_zero, List.set_cons_succ]) | (refine reg_tail (id := 2) 3 (by kernel_rfl) (by kernel_rfl) ?_; simp only [List.take_succ_cons, List.take_zero, List.drop_succ_cons, List.drop_zero]) | (refine reg_tail (id := 4) 3 (by kernel_rfl) (by kernel_rfl) ?_; simp only [List.take_succ_cons, List.take_zero, List.drop_succ_cons, List.drop_zero]) | (refine reg_tail (id := 7) 5 (by kernel_rfl) (by kernel_rfl) ?_; simp only [List.take_succ_cons, List.take_zero, List.drop_succ_cons, List.drop_zero]))
      refine bodyPost_ret (results_ttc rfl _ _ (w.heap.size + 1) 104 _ (0, 0) _ (.int .u64 gv) (.int .i64 er) rfl rfl rfl (by (with_reducible repeat (first | exact M.out.2.1 | refine st_drew ?_ | apply st_same | refine st_far (by omega) ?_ | (refine st_new ?_; (first | with_reducible rfl | assumption | (simp; done) | (simp; omega))) | refine st_alloc ?_))) Try.underlying104 rfl (by kernel_rfl)) rfl ?_
      have hp := HA.out.s.pos
      refine (fun (k : Kp no w _) (k2 : Kp (fun i => i = w.heap.size ∨ i = w.heap.size + 1) w1 _) => ⟨_, rfl, RG.two H HR HL.out hp M k k2, k⟩) ?_ ?_
      · (with_reducible repeat (first | exact M.out.2.2 | refine kp_drew ?_ | refine kp_new (by omega) ?_ | refine kp_alloc ?_))
      · (with_reducible repeat (first | exact Kp.refl _ w1 | refine kp_drew ?_ | refine kp_in (by first | exact rfl | exact Or.inl rfl | exact Or.inr rfl | exact Or.inr (Or.inl rfl) | exact Or.inr (Or.inr rfl)) ?_ | refine kp_new (by omega) ?_ | refine kp_alloc ?_))
  · have e : rRelease ⟨tl, hs, CL, L⟩ j t = (0, 1, ⟨tl, hs, CL, L⟩) := by
      unfold rRelease; rw [if_neg]; intro hi; exact hj (by simpa [rIs] using hi)
    rw [e]
    clear e hA h1 h2 h3 h4 HP hbb ht hn0
    by_cases j0 : j < 0
    · have hd : decide (j < 0) = true := decide_eq_true j0
      clear hj
      go_enter Try.func84, Try.ntmps84
      go_wp2_with (first | (refine wpStill_op (by rfl) (by rfl) (fun K hK => ?_)) | (refine wpStill_nil ?_) | (refine wpStill_want (by rfl) (by rfl) (fun K hK => ?_)) | (refine wpStill_skip (by rfl) ?_; simp only [Act.put, List.setIfInBounds_toArray, List.set_cons_zero, List.set_cons_succ]) | (refine reg_tail (id := 2) 3 (by kernel_rfl) (by kernel_rfl) ?_; simp only [List.take_succ_cons, List.take_zero, List.drop_succ_cons, List.drop_zero]) | (refine reg_tail (id := 4) 3 (by kernel_rfl) (by kernel_rfl) ?_; simp only [List.take_succ_cons, List.take_zero, List.drop_succ_cons, List.drop_zero]) | (refine reg_tail (id := 7) 5 (by kernel_rfl) (by kernel_rfl) ?_; simp only [List.take_succ_cons, List.take_zero, List.drop_succ_cons, List.drop_zero]))
      refine bodyPost_ret (results_ttc rfl _ _ (w.heap.size + 1) 104 _ (0, 0) _ (.int .u64 0) (.int .i64 1) rfl rfl rfl (by (with_reducible repeat (first | exact absurd | refine st_drew ?_ | apply st_same | refine st_far (by omega) ?_ | (refine st_new ?_; (first | with_reducible rfl | assumption | (simp; done) | (simp; omega))) | refine st_alloc ?_))) Try.underlying104 rfl (by kernel_rfl)) rfl ?_
      refine (fun (k : Kp no w _) => ⟨_, rfl, RG.same H k, k⟩) ?_
      (with_reducible repeat (first | exact Kp.refl no w | refine kp_drew ?_ | refine kp_new (by omega) ?_ | refine kp_alloc ?_))
    · have hd : decide (j < 0) = false := decide_eq_false j0
      have hd2 : decide ((hs.length : Int) ≤ j) = true := decide_eq_true (by omega)
      clear hj j0
      go_enter Try.func84, Try.ntmps84
      go_wp2_with (first | (refine wpStill_op (by rfl) (by rfl) (fun K hK => ?_)) | (refine wpStill_nil ?_) | (refine wpStill_want (by rfl) (by rfl) (fun K hK => ?_)) | (refine wpStill_skip (by rfl) ?_; simp only [Act.put, List.setIfInBounds_toArray, List.set_cons_zero, List.set_cons_succ]) | (refine reg_tail (id := 2) 3 (by kernel_rfl) (by kernel_rfl) ?_; simp only [List.take_succ_cons, List.take_zero, List.drop_succ_cons, List.drop_zero]) | (refine reg_tail (id := 4) 3 (by kernel_rfl) (by kernel_rfl) ?_; simp only [List.take_succ_cons, List.take_zero, List.drop_succ_cons, List.drop_zero]) | (refine reg_tail (id := 7) 5 (by kernel_rfl) (by kernel_rfl) ?_; simp only [List.take_succ_cons, List.take_zero, List.drop_succ_cons, List.drop_zero]))
      refine bodyPost_ret (results_ttc rfl _ _ (w.heap.size + 1) 104 _ (0, 0) _ (.int .u64 0) (.int .i64 1) rfl rfl rfl (by (with_reducible repeat (first | exact absurd | refine st_drew ?_ | apply st_same | refine st_far (by omega) ?_ | (refine st_new ?_; (first | with_reducible rfl | assumption | (simp; done) | (simp; omega))) | refine st_alloc ?_))) Try.underlying104 rfl (by kernel_rfl)) rfl ?_
      refine (fun (k : Kp no w _) => ⟨_, rfl, RG.same H k, k⟩) ?_
      (with_reducible repeat (first | exact Kp.refl no w | refine kp_drew ?_ | refine kp_new (by omega) ?_ | refine kp_alloc ?_))
end Go.Proofs.Ytmejnhfggmmefaa.H
