/- Layer 13's reference: Claim, Publish. No condition. -/
import Derived.Test.YtmejnhfggmmefaaR13
import Derived.Test.YtmejnhfggmmefaaR14
import Derived.Test.YtmejnhfggmmefaaR12C
import Derived.Test.YtmejnhfggmmefaaSeq
namespace Go.Proofs.Ytmejnhfggmmefaa.H
open Go.RowKit
set_option linter.unusedVariables false
set_option linter.unusedSimpArgs false
variable {w : World} {bb : Nat → Prop} {S : Nat → Prop} {r : Rg} {t v j : Int}

theorem after2 {w w' : World} {c0 c1 : Array Value} {t0 t1 : TypeId} (hk : Kp no ((w.alloc (.cells c0 t0)).alloc (.cells c1 t1)) w') :
    w'.heap[w.heap.size]? = some (.cells c0 t0 (0, 0)) ∧ w'.heap[w.heap.size + 1]? = some (.cells c1 t1 (0, 0)) ∧ Kp no w w' ∧ w.heap.size + 1 < w'.heap.size := by
  obtain ⟨h1, h2, h3, h4⟩ := alloc2 (w := w) c0 c1 t0 t1
  have := bk_kp h2 hk (fun x => x)
  exact ⟨bk_kp h1 hk (fun x => x), this, h3.trans hk, bk_lt this⟩
/-- A ring's value, in a block that is told. -/
theorem RG.same {w' : World} {vh vl : Value} {cl : Bool} {tl : Int} {hs : List Int} {L : List Sl} (h : As (Rd w vh hs.length (u64s hs) ∧ Rd w vl L.length (slCells L) ∧ (∀ k, vh.ownBlock = some k → ¬ S k) ∧ ∀ k, vl.ownBlock = some k → ¬ bb k)) (k : Kp no w w') :
    RG bb S w' (.agg #[.int .u64 L.length, .int .u64 tl, vh, .bool cl, vl, .int .i64 hs.length]) ⟨tl, hs, cl, L⟩ := by
  obtain ⟨h1, h2, h3, h4⟩ := h.out
  exact ⟨_, _, rfl, h1.kp k (fun _ _ x => x), h2.kp k (fun _ _ x => x), h3, h4⟩
set_option maxRecDepth 100000 in
set_option maxHeartbeats 6400000 in
theorem RClaim_any {e : Value} (hA : RA13 r) (h : RG bb S w e r) : Calls Try.prog 87 #[e] w fun e w' => ∃ vv, e = .returned (.tuple #[.int .u64 (rClaim r).1, .int .i64 (rClaim r).2.1, vv]) ∧ RG bb S w' vv (rClaim r).2.2 ∧ Kp no w w' := by
  have HA := As.mk hA
  have HG := As.mk h
  obtain ⟨tl, hs, CL, L⟩ := r
  obtain ⟨vh, vl, rfl, h1, h2, h3, h4⟩ := h
  obtain ⟨Ah, ch, rfl, -⟩ := id h1
  obtain ⟨Al, cl, rfl, -⟩ := id h2
  dsimp only at hA h1 h2 h3 HA HG ⊢
  have ht0 := hA.t0
  have ht1 := hA.t1
  dsimp only at ht0 ht1
  have H := As.mk (And.intro h1 (And.intro h2 (And.intro h3 h4)))
  clear hA h1 h2 h3 h4
  cases CL with
  | true =>
    go_enter Try.func87, Try.ntmps87
    go_wp2_with (first | (refine wpStill_op (by rfl) (by rfl) (fun K hK => ?_)) | (refine wpStill_nil ?_) | (refine wpStill_want (by rfl) (by rfl) (fun K hK => ?_)) | (refine wpStill_skip (by rfl) ?_; simp only [Act.put, List.setIfInBounds_toArray, List.set_cons_zero, List.set_cons_succ]) | (refine reg_tail (id := 2) 3 (by kernel_rfl) (by kernel_rfl) ?_; simp only [List.take_succ_cons, List.take_zero, List.drop_succ_cons, List.drop_zero]) | (refine reg_tail (id := 4) 3 (by kernel_rfl) (by kernel_rfl) ?_; simp only [List.take_succ_cons, List.take_zero, List.drop_succ_cons, List.drop_zero]) | (refine reg_tail (id := 6) 6 (by kernel_rfl) (by kernel_rfl) ?_; simp only [List.take_succ_cons, List.take_zero, List.drop_succ_cons, List.drop_zero]))
    refine bodyPost_ret (results_ttc rfl _ _ (w.heap.size + 1) 104 _ (0, 0) _ (.int .u64 0) (.int .i64 10) rfl rfl rfl (by (with_reducible repeat (first | exact absurd | refine st_drew ?_ | apply st_same | refine st_far (by omega) ?_ | (refine st_new ?_; (first | with_reducible rfl | assumption | (simp; done) | (simp; omega))) | refine st_alloc ?_))) Try.underlying104 rfl (by kernel_rfl)) rfl ?_
    refine (fun (k : Kp no w _) => ⟨_, rfl, RG.same H k, k⟩) ?_
    (with_reducible repeat (first | exact Kp.refl no w | refine kp_drew ?_ | refine kp_new (by omega) ?_ | refine kp_alloc ?_))
  | false =>
    go_enter Try.func87, Try.ntmps87
    go_wp2_with (first | (refine wpStill_op (by rfl) (by rfl) (fun K hK => ?_)) | (refine wpStill_nil ?_) | (refine wpStill_want (by rfl) (by rfl) (fun K hK => ?_)) | (refine wpStill_skip (by rfl) ?_; simp only [Act.put, List.setIfInBounds_toArray, List.set_cons_zero, List.set_cons_succ]) | (refine reg_tail (id := 2) 3 (by kernel_rfl) (by kernel_rfl) ?_; simp only [List.take_succ_cons, List.take_zero, List.drop_succ_cons, List.drop_zero]) | (refine reg_tail (id := 4) 3 (by kernel_rfl) (by kernel_rfl) ?_; simp only [List.take_succ_cons, List.take_zero, List.drop_succ_cons, List.drop_zero]) | (refine reg_tail (id := 6) 6 (by kernel_rfl) (by kernel_rfl) ?_; simp only [List.take_succ_cons, List.take_zero, List.drop_succ_cons, List.drop_zero]))
    refine (RFull_any HA.out (HG.out.kp (((Kp.refl no w).alloc _).alloc _) (fun _ x => x.elim))).mono ?_
    rintro e w1 ⟨rfl, hk⟩
    obtain ⟨m0, m1, hK, hsz⟩ := after2 hk
    have e0 := bk_cell m0
    have z0 := bk_fz m0
    have e1 := bk_cell m1
    have z1 := bk_fz m1
    have M := As.mk (And.intro m0 (And.intro m1 hK))
    clear m0 m1 hK hsz hk
    cases hf : rFull ⟨tl, hs, false, L⟩ with
    | true =>
      have HF := As.mk hf
      clear hf
      go_wp2_with (first | (refine wpStill_op (by rfl) (by rfl) (fun K hK => ?_)) | (refine wpStill_nil ?_) | (refine wpStill_want (by rfl) (by rfl) (fun K hK => ?_)) | (refine wpStill_skip (by rfl) ?_; simp only [Act.put, List.setIfInBounds_toArray, List.set_cons_zero, List.set_cons_succ]) | (refine reg_tail (id := 2) 3 (by kernel_rfl) (by kernel_rfl) ?_; simp only [List.take_succ_cons, List.take_zero, List.drop_succ_cons, List.drop_zero]) | (refine reg_tail (id := 4) 3 (by kernel_rfl) (by kernel_rfl) ?_; simp only [List.take_succ_cons, List.take_zero, List.drop_succ_cons, List.drop_zero]) | (refine reg_tail (id := 6) 6 (by kernel_rfl) (by kernel_rfl) ?_; simp only [List.take_succ_cons, List.take_zero, List.drop_succ_cons, List.drop_zero]))
      refine bodyPost_ret (results_ttc rfl _ _ (w.heap.size + 1) 104 _ (0, 0) _ (.int .u64 0) (.int .i64 8) rfl rfl rfl (by (with_reducible repeat (first | exact M.out.2.1 | refine st_drew ?_ | apply st_same | refine st_far (by omega) ?_ | (refine st_new ?_; (first | with_reducible rfl | assumption | (simp; done) | (simp; omega))) | refine st_alloc ?_))) Try.underlying104 rfl (by kernel_rfl)) rfl ?_
      have e : rClaim ⟨tl, hs, false, L⟩ = (0, 8, ⟨tl, hs, false, L⟩) := by unfold rClaim; rw [HF.out]; rfl
      rw [e]
      refine (fun (k : Kp no w _) => ⟨_, rfl, RG.same H k, k⟩) ?_
      (with_reducible repeat (first | exact M.out.2.2 | refine kp_drew ?_ | refine kp_new (by omega) ?_ | refine kp_alloc ?_))
    | false =>
      have HF := As.mk hf
      clear hf
      go_wp2_with (first | (refine wpStill_op (by rfl) (by rfl) (fun K hK => ?_)) | (refine wpStill_nil ?_) | (refine wpStill_want (by rfl) (by rfl) (fun K hK => ?_)) | (refine wpStill_skip (by rfl) ?_; simp only [Act.put, List.setIfInBounds_toArray, List.set_cons_zero, List.set_cons_succ]) | (refine reg_tail (id := 2) 3 (by kernel_rfl) (by kernel_rfl) ?_; simp only [List.take_succ_cons, List.take_zero, List.drop_succ_cons, List.drop_zero]) | (refine reg_tail (id := 4) 3 (by kernel_rfl) (by kernel_rfl) ?_; simp only [List.take_succ_cons, List.take_zero, List.drop_succ_cons, List.drop_zero]) | (refine reg_tail (id := 6) 6 (by kernel_rfl) (by kernel_rfl) ?_; simp only [List.take_succ_cons, List.take_zero, List.drop_succ_cons, List.drop_zero]))
      refine bodyPost_ret (results_ttc rfl _ _ (w.heap.size + 1) 104 _ (0, 0) _ (.int .u64 tl) (.int .i64 0) rfl rfl rfl (by (with_reducible repeat (first | exact M.out.2.1 | refine st_drew ?_ | apply st_same | refine st_far (by omega) ?_ | (refine st_new ?_; (first | with_reducible rfl | assumption | (simp; done) | (simp; omega))) | refine st_alloc ?_))) Try.underlying104 rfl (by kernel_rfl)) rfl ?_
      have e : rClaim ⟨tl, hs, false, L⟩ = (tl, 0, ⟨tl + 1, hs, false, L⟩) := by unfold rClaim; rw [HF.out]; rfl
      rw [e]
      refine (fun (k : Kp no w _) => ⟨_, rfl, RG.same H k, k⟩) ?_
      (with_reducible repeat (first | exact M.out.2.2 | refine kp_drew ?_ | refine kp_new (by omega) ?_ | refine kp_alloc ?_))
end Go.Proofs.Ytmejnhfggmmefaa.H
