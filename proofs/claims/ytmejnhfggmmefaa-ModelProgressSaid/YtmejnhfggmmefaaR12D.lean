/- Layer 12's reference: Get, that is refused. No condition. -/
import Derived.Test.YtmejnhfggmmefaaR12B
namespace Go.Proofs.Ytmejnhfggmmefaa.H
open Go.RowKit
set_option linter.unusedVariables false
set_option linter.unusedSimpArgs false
variable {bb : Nat → Prop} {w : World} {L : List Sl} {R : Nat} {t v j : Int}

set_option maxRecDepth 100000 in
set_option maxHeartbeats 3200000 in
theorem RGet_arg1 (A : Option Addr) (n c : Nat) (hr : Rd w (.slice A n c) L.length (slCells L)) (hf : ∀ k, (Value.slice A n c).ownBlock = some k → ¬ bb k) (hbb : ∀ k, bb k → k < w.heap.size) (h1 : ¬ t < 4611686018427387904) :
    Calls Try.prog 72 #[.agg #[.slice A n c, .int .i64 R], .int .i64 j, .int .u64 t] w fun e w' => ∃ vv, e = .returned (.tuple #[.int .u64 0, .int .i64 1, vv]) ∧ RS bb w' vv L R ∧ Kp no w w' := by
  have H := As.mk hr
  have HF := As.mk (And.intro hf hbb)
  clear hf hbb
  have h2 : (decide (4611686018427387904 ≤ t)) = true := by rw [decide_eq_true_iff]; omega
  clear hr h1
  go_enter Try.func72, Try.ntmps72
  go_wp2
  obtain ⟨m0, m1, hK, hs⟩ := alloc2 (w := w) #[.slice A n c, .int .i64 R] #[.slice none 0 0, .int .i64 0] 60 60
  generalize (w.alloc (Obj.cells #[.slice A n c, .int .i64 R] 60)).alloc (Obj.cells #[.slice none 0 0, .int .i64 0] 60) = W at m0 m1 hK hs ⊢
  generalize hb0 : w.heap.size = b0 at m0 m1 hs ⊢
  refine wp_region_still_tail 3 (by kernel_rfl) (by kernel_rfl) ?_
  generalize hq : ({ W with drawn := W.drawn + 1 } : World) = W2
  replace hq : QD W W2 := ⟨1, hq.symm⟩
  replace m0 := bk_qd m0 hq
  replace m1 := bk_qd m1 hq
  replace hK := hK.qd hq
  have e0 := bk_cell m0 0
  have e1 := bk_cell m0 1
  have d0 := bk_cell m1 0
  have d1 := bk_cell m1 1
  have z0 := bk_fz m1 0
  have z1 := bk_fz m1 1
  clear hq hs
  simp only [List.take_succ_cons, List.take_zero, List.drop_succ_cons, List.drop_zero]
  repeat still_step
  refine wpStill_nil ?_
  go_wp2
  obtain ⟨f1, hKf⟩ := tell2 (.slice A n c) (.int .i64 R) rfl m1 hK hb0
  refine bodyPost_ret (results_ttc rfl _ _ (b0 + 1) 60 #[.slice A n c, .int .i64 R] (0, 0) _ (.int .u64 0) (.int .i64 1) rfl rfl rfl f1 Try.underlying60 rfl (by kernel_rfl)) rfl ?_
  exact ⟨_, rfl, ⟨_, rfl, H.out.kp hKf (fun _ _ x => x), HF.out.1⟩, hKf⟩
set_option maxRecDepth 100000 in
set_option maxHeartbeats 3200000 in
theorem RGet_arg2 (A : Option Addr) (n c : Nat) (hr : Rd w (.slice A n c) L.length (slCells L)) (hf : ∀ k, (Value.slice A n c).ownBlock = some k → ¬ bb k) (hbb : ∀ k, bb k → k < w.heap.size) (h1 : t < 4611686018427387904) (h3 : j < 0) :
    Calls Try.prog 72 #[.agg #[.slice A n c, .int .i64 R], .int .i64 j, .int .u64 t] w fun e w' => ∃ vv, e = .returned (.tuple #[.int .u64 0, .int .i64 1, vv]) ∧ RS bb w' vv L R ∧ Kp no w w' := by
  have H := As.mk hr
  have HF := As.mk (And.intro hf hbb)
  clear hf hbb
  have h2 : (decide (4611686018427387904 ≤ t)) = false := by rw [decide_eq_false_iff_not]; omega
  have h4 : (decide (j < 0)) = true := by rw [decide_eq_true_iff]; omega
  clear hr h1 h3
  go_enter Try.func72, Try.ntmps72
  go_wp2
  obtain ⟨m0, m1, hK, hs⟩ := alloc2 (w := w) #[.slice A n c, .int .i64 R] #[.slice none 0 0, .int .i64 0] 60 60
  generalize (w.alloc (Obj.cells #[.slice A n c, .int .i64 R] 60)).alloc (Obj.cells #[.slice none 0 0, .int .i64 0] 60) = W at m0 m1 hK hs ⊢
  generalize hb0 : w.heap.size = b0 at m0 m1 hs ⊢
  refine wp_region_still_tail 3 (by kernel_rfl) (by kernel_rfl) ?_
  generalize hq : ({ W with drawn := W.drawn + 1 } : World) = W2
  replace hq : QD W W2 := ⟨1, hq.symm⟩
  replace m0 := bk_qd m0 hq
  replace m1 := bk_qd m1 hq
  replace hK := hK.qd hq
  have e0 := bk_cell m0 0
  have e1 := bk_cell m0 1
  have d0 := bk_cell m1 0
  have d1 := bk_cell m1 1
  have z0 := bk_fz m1 0
  have z1 := bk_fz m1 1
  clear hq hs
  simp only [List.take_succ_cons, List.take_zero, List.drop_succ_cons, List.drop_zero]
  repeat still_step
  refine wpStill_nil ?_
  go_wp2
  obtain ⟨f1, hKf⟩ := tell2 (.slice A n c) (.int .i64 R) rfl m1 hK hb0
  refine bodyPost_ret (results_ttc rfl _ _ (b0 + 1) 60 #[.slice A n c, .int .i64 R] (0, 0) _ (.int .u64 0) (.int .i64 1) rfl rfl rfl f1 Try.underlying60 rfl (by kernel_rfl)) rfl ?_
  exact ⟨_, rfl, ⟨_, rfl, H.out.kp hKf (fun _ _ x => x), HF.out.1⟩, hKf⟩
set_option maxRecDepth 100000 in
set_option maxHeartbeats 3200000 in
theorem RGet_arg3 (A : Option Addr) (n c : Nat) (hr : Rd w (.slice A n c) L.length (slCells L)) (hf : ∀ k, (Value.slice A n c).ownBlock = some k → ¬ bb k) (hbb : ∀ k, bb k → k < w.heap.size) (h1 : t < 4611686018427387904) (h3 : ¬ j < 0) (h5 : ¬ j < (R : Int)) :
    Calls Try.prog 72 #[.agg #[.slice A n c, .int .i64 R], .int .i64 j, .int .u64 t] w fun e w' => ∃ vv, e = .returned (.tuple #[.int .u64 0, .int .i64 1, vv]) ∧ RS bb w' vv L R ∧ Kp no w w' := by
  have H := As.mk hr
  have HF := As.mk (And.intro hf hbb)
  clear hf hbb
  have h2 : (decide (4611686018427387904 ≤ t)) = false := by rw [decide_eq_false_iff_not]; omega
  have h4 : (decide (j < 0)) = false := by rw [decide_eq_false_iff_not]; omega
  have h6 : (decide ((R : Int) ≤ j)) = true := by rw [decide_eq_true_iff]; omega
  clear hr h1 h3 h5
  go_enter Try.func72, Try.ntmps72
  go_wp2
  obtain ⟨m0, m1, hK, hs⟩ := alloc2 (w := w) #[.slice A n c, .int .i64 R] #[.slice none 0 0, .int .i64 0] 60 60
  generalize (w.alloc (Obj.cells #[.slice A n c, .int .i64 R] 60)).alloc (Obj.cells #[.slice none 0 0, .int .i64 0] 60) = W at m0 m1 hK hs ⊢
  generalize hb0 : w.heap.size = b0 at m0 m1 hs ⊢
  refine wp_region_still_tail 3 (by kernel_rfl) (by kernel_rfl) ?_
  generalize hq : ({ W with drawn := W.drawn + 1 } : World) = W2
  replace hq : QD W W2 := ⟨1, hq.symm⟩
  replace m0 := bk_qd m0 hq
  replace m1 := bk_qd m1 hq
  replace hK := hK.qd hq
  have e0 := bk_cell m0 0
  have e1 := bk_cell m0 1
  have d0 := bk_cell m1 0
  have d1 := bk_cell m1 1
  have z0 := bk_fz m1 0
  have z1 := bk_fz m1 1
  clear hq hs
  simp only [List.take_succ_cons, List.take_zero, List.drop_succ_cons, List.drop_zero]
  repeat still_step
  refine wpStill_nil ?_
  go_wp2
  obtain ⟨f1, hKf⟩ := tell2 (.slice A n c) (.int .i64 R) rfl m1 hK hb0
  refine bodyPost_ret (results_ttc rfl _ _ (b0 + 1) 60 #[.slice A n c, .int .i64 R] (0, 0) _ (.int .u64 0) (.int .i64 1) rfl rfl rfl f1 Try.underlying60 rfl (by kernel_rfl)) rfl ?_
  exact ⟨_, rfl, ⟨_, rfl, H.out.kp hKf (fun _ _ x => x), HF.out.1⟩, hKf⟩
end Go.Proofs.Ytmejnhfggmmefaa.H
