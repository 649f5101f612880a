/- Layer 12's reference: Get, refused for a place's state. No condition. -/
import Derived.Test.YtmejnhfggmmefaaR12B
namespace Go.Proofs.Ytmejnhfggmmefaa.H
open Go.RowKit
set_option linter.unusedVariables false
set_option linter.unusedSimpArgs false
variable {bb : Nat → Prop} {w : World} {L : List Sl} {R : Nat} {t v j : Int}

theorem alloc3 {w : World} (c0 c1 c2 : Array Value) (t0 t1 t2 : TypeId) : let W := ((w.alloc (.cells c0 t0)).alloc (.cells c1 t1)).alloc (.cells c2 t2)
    W.heap[w.heap.size]? = some (.cells c0 t0 (0, 0)) ∧ W.heap[w.heap.size + 1]? = some (.cells c1 t1 (0, 0)) ∧ W.heap[w.heap.size + 1 + 1]? = some (.cells c2 t2 (0, 0)) ∧ Kp no w W ∧ W.heap.size = w.heap.size + 1 + 1 + 1 := by
  have e0 := bk_alloc (bk_alloc (heap_alloc_new w (.cells c0 t0)) (.cells c1 t1)) (.cells c2 t2)
  have e1 := bk_alloc (heap_alloc_new (w.alloc (.cells c0 t0)) (.cells c1 t1)) (.cells c2 t2)
  have e2 := heap_alloc_new ((w.alloc (.cells c0 t0)).alloc (.cells c1 t1)) (.cells c2 t2)
  have s1 : (w.alloc (.cells c0 t0)).heap.size = w.heap.size + 1 := by simp
  have s2 : ((w.alloc (.cells c0 t0)).alloc (.cells c1 t1)).heap.size = w.heap.size + 1 + 1 := by simp
  rw [s1] at e1
  rw [s2] at e2
  exact ⟨e0, e1, e2, (((Kp.refl no w).alloc _).alloc _).alloc _, by simp⟩
theorem slOk (hL : RArg L R) (t : Int) : 0 ≤ (slAt L t).st ∧ (slAt L t).st < 18446744073709551616 := by
  have hp := pl_lt hL.pos t
  have e : slAt L t = L[pl L t] := by unfold slAt; simp [List.getD, hp]
  rw [e]
  have := hL.wf _ (List.getElem_mem hp)
  exact ⟨this.1, this.2.1⟩
theorem slOkL (hL : RArg L R) (t : Int) : 0 ≤ (slAt L t).left ∧ (slAt L t).left < 256 := by
  have hp := pl_lt hL.pos t
  have e : slAt L t = L[pl L t] := by unfold slAt; simp [List.getD, hp]
  rw [e]
  have := hL.wf _ (List.getElem_mem hp)
  exact ⟨this.2.2.1, this.2.2.2⟩

set_option maxRecDepth 100000 in
set_option maxHeartbeats 3200000 in
theorem RGet_empty (hL : RArg L R) (ab ao c : Nat) (hr : Rd w (.slice (some ⟨ab, ao, none⟩) L.length c) L.length (slCells L)) (hf : ∀ k, (Value.slice (some ⟨ab, ao, none⟩) L.length c).ownBlock = some k → ¬ bb k) (hbb : ∀ k, bb k → k < w.heap.size) (ht : 0 ≤ t) (h1 : t < 4611686018427387904) (h3 : 0 ≤ j) (h5 : j < (R : Int)) (he : (slAt L t).st < 2 * t + 1) :
    Calls Try.prog 72 #[.agg #[.slice (some ⟨ab, ao, none⟩) L.length c, .int .i64 R], .int .i64 j, .int .u64 t] w fun e w' => ∃ vv, e = .returned (.tuple #[.int .u64 0, .int .i64 9, vv]) ∧ RS bb w' vv L R ∧ Kp no w w' := by
  have H := As.mk hr
  have HF := As.mk (And.intro hf hbb)
  clear hf hbb
  have hpl := pl_lt hL.pos t
  have h2 : (decide (4611686018427387904 ≤ t)) = false := by rw [decide_eq_false_iff_not]; omega
  have h4 : (decide (j < 0)) = false := by rw [decide_eq_false_iff_not]; omega
  have h6 : (decide ((R : Int) ≤ j)) = false := by rw [decide_eq_false_iff_not]; omega
  have hm : IntKind.u64.wrap (2 * t) = 2 * t := by rw [IntKind.wrap_u64]; omega
  have hm1 : IntKind.u64.wrap (2 * t + 1) = 2 * t + 1 := by rw [IntKind.wrap_u64]; omega
  have hok := slOk hL t
  obtain ⟨hI, hW, hlw, hl0, hIw, hsrc, hc0, hc1, hc2⟩ := rfacts hL hr ht
  change w.cell? _ = some (.int .u64 (slAt L t).st) at hc0
  rw [← Nat.add_assoc] at hc1 hc2
  have hle := hL.le
  have hR := hL.hR
  generalize (slAt L t).st = s at hc0 he hok
  generalize (slAt L t).v = vl at hc1
  generalize (slAt L t).left = l at hc2
  generalize pl L t = i at hpl hI hIw hc0 hc1 hc2
  have hd : (decide (s < 2 * t + 1)) = true := by rw [decide_eq_true_iff]; omega
  clear hr hL h1 h3 h5 hok hW hlw hl0 hIw
  go_enter Try.func72, Try.ntmps72
  go_wp2
  obtain ⟨m0, m1, m2, hK, hs⟩ := alloc3 (w := w) #[.slice (some ⟨ab, ao, none⟩) L.length c, .int .i64 R] #[.slice none 0 0, .int .i64 0] #[.int .u64 s, .int .u64 vl, .int .i64 l] 60 60 119
  generalize ((w.alloc (Obj.cells #[.slice (some ⟨ab, ao, none⟩) L.length c, .int .i64 R] 60)).alloc (Obj.cells #[.slice none 0 0, .int .i64 0] 60)).alloc (Obj.cells #[.int .u64 s, .int .u64 vl, .int .i64 l] 119) = W at m0 m1 m2 hK hs ⊢
  generalize hb0 : w.heap.size = b0 at m0 m1 m2 hs hsrc ⊢
  refine wp_region_still_tail 3 (by kernel_rfl) (by kernel_rfl) ?_
  generalize hq : ({ W with drawn := W.drawn + 1 } : World) = W2
  replace hq : QD W W2 := ⟨1, hq.symm⟩
  replace m0 := bk_qd m0 hq
  replace m1 := bk_qd m1 hq
  replace hK := hK.qd hq
  have e0 := bk_cell m0 0
  have e1 := bk_cell m0 1
  have d0 := bk_cell m1 0
  have d1 := bk_cell m1 1
  have z0 := bk_fz m1 0
  have z1 := bk_fz m1 1
  clear hq hs
  simp only [List.take_succ_cons, List.take_zero, List.drop_succ_cons, List.drop_zero]
  repeat still_step
  refine wpStill_nil ?_
  go_wp2
  obtain ⟨f1, hKf⟩ := tell2 (.slice (some ⟨ab, ao, none⟩) L.length c) (.int .i64 R) rfl m1 hK hb0
  refine bodyPost_ret (results_ttc rfl _ _ (b0 + 1) 60 #[.slice (some ⟨ab, ao, none⟩) L.length c, .int .i64 R] (0, 0) _ (.int .u64 0) (.int .i64 9) rfl rfl rfl f1 Try.underlying60 rfl (by kernel_rfl)) rfl ?_
  exact ⟨_, rfl, ⟨_, rfl, H.out.kp hKf (fun _ _ x => x), HF.out.1⟩, hKf⟩
set_option maxRecDepth 100000 in
set_option maxHeartbeats 3200000 in
theorem RGet_order (hL : RArg L R) (ab ao c : Nat) (hr : Rd w (.slice (some ⟨ab, ao, none⟩) L.length c) L.length (slCells L)) (hf : ∀ k, (Value.slice (some ⟨ab, ao, none⟩) L.length c).ownBlock = some k → ¬ bb k) (hbb : ∀ k, bb k → k < w.heap.size) (ht : 0 ≤ t) (h1 : t < 4611686018427387904) (h3 : 0 ≤ j) (h5 : j < (R : Int)) (he : 2 * t + 1 < (slAt L t).st) :
    Calls Try.prog 72 #[.agg #[.slice (some ⟨ab, ao, none⟩) L.length c, .int .i64 R], .int .i64 j, .int .u64 t] w fun e w' => ∃ vv, e = .returned (.tuple #[.int .u64 0, .int .i64 11, vv]) ∧ RS bb w' vv L R ∧ Kp no w w' := by
  have H := As.mk hr
  have HF := As.mk (And.intro hf hbb)
  clear hf hbb
  have hpl := pl_lt hL.pos t
  have h2 : (decide (4611686018427387904 ≤ t)) = false := by rw [decide_eq_false_iff_not]; omega
  have h4 : (decide (j < 0)) = false := by rw [decide_eq_false_iff_not]; omega
  have h6 : (decide ((R : Int) ≤ j)) = false := by rw [decide_eq_false_iff_not]; omega
  have hm : IntKind.u64.wrap (2 * t) = 2 * t := by rw [IntKind.wrap_u64]; omega
  have hm1 : IntKind.u64.wrap (2 * t + 1) = 2 * t + 1 := by rw [IntKind.wrap_u64]; omega
  have hok := slOk hL t
  obtain ⟨hI, hW, hlw, hl0, hIw, hsrc, hc0, hc1, hc2⟩ := rfacts hL hr ht
  change w.cell? _ = some (.int .u64 (slAt L t).st) at hc0
  rw [← Nat.add_assoc] at hc1 hc2
  have hle := hL.le
  have hR := hL.hR
  generalize (slAt L t).st = s at hc0 he hok
  generalize (slAt L t).v = vl at hc1
  generalize (slAt L t).left = l at hc2
  generalize pl L t = i at hpl hI hIw hc0 hc1 hc2
  have hd : (decide (s < 2 * t + 1)) = false := by rw [decide_eq_false_iff_not]; omega
  have hd2 : (decide (2 * t + 1 < s)) = true := by rw [decide_eq_true_iff]; omega
  clear hr hL h1 h3 h5 hok hW hlw hl0 hIw
  go_enter Try.func72, Try.ntmps72
  go_wp2
  obtain ⟨m0, m1, m2, hK, hs⟩ := alloc3 (w := w) #[.slice (some ⟨ab, ao, none⟩) L.length c, .int .i64 R] #[.slice none 0 0, .int .i64 0] #[.int .u64 s, .int .u64 vl, .int .i64 l] 60 60 119
  generalize ((w.alloc (Obj.cells #[.slice (some ⟨ab, ao, none⟩) L.length c, .int .i64 R] 60)).alloc (Obj.cells #[.slice none 0 0, .int .i64 0] 60)).alloc (Obj.cells #[.int .u64 s, .int .u64 vl, .int .i64 l] 119) = W at m0 m1 m2 hK hs ⊢
  generalize hb0 : w.heap.size = b0 at m0 m1 m2 hs hsrc ⊢
  refine wp_region_still_tail 3 (by kernel_rfl) (by kernel_rfl) ?_
  generalize hq : ({ W with drawn := W.drawn + 1 } : World) = W2
  replace hq : QD W W2 := ⟨1, hq.symm⟩
  replace m0 := bk_qd m0 hq
  replace m1 := bk_qd m1 hq
  replace hK := hK.qd hq
  have e0 := bk_cell m0 0
  have e1 := bk_cell m0 1
  have d0 := bk_cell m1 0
  have d1 := bk_cell m1 1
  have z0 := bk_fz m1 0
  have z1 := bk_fz m1 1
  clear hq hs
  simp only [List.take_succ_cons, List.take_zero, List.drop_succ_cons, List.drop_zero]
  repeat still_step
  refine wpStill_nil ?_
  go_wp2
  obtain ⟨f1, hKf⟩ := tell2 (.slice (some ⟨ab, ao, none⟩) L.length c) (.int .i64 R) rfl m1 hK hb0
  refine bodyPost_ret (results_ttc rfl _ _ (b0 + 1) 60 #[.slice (some ⟨ab, ao, none⟩) L.length c, .int .i64 R] (0, 0) _ (.int .u64 0) (.int .i64 11) rfl rfl rfl f1 Try.underlying60 rfl (by kernel_rfl)) rfl ?_
  exact ⟨_, rfl, ⟨_, rfl, H.out.kp hKf (fun _ _ x => x), HF.out.1⟩, hKf⟩
set_option maxRecDepth 100000 in
set_option maxHeartbeats 3200000 in
theorem RGet_bit (hL : RArg L R) (ab ao c : Nat) (hr : Rd w (.slice (some ⟨ab, ao, none⟩) L.length c) L.length (slCells L)) (hf : ∀ k, (Value.slice (some ⟨ab, ao, none⟩) L.length c).ownBlock = some k → ¬ bb k) (hbb : ∀ k, bb k → k < w.heap.size) (ht : 0 ≤ t) (h1 : t < 4611686018427387904) (h3 : 0 ≤ j) (h5 : j < (R : Int)) (he : (slAt L t).st = 2 * t + 1) (hb : bitOf (slAt L t).left j = false) :
    Calls Try.prog 72 #[.agg #[.slice (some ⟨ab, ao, none⟩) L.length c, .int .i64 R], .int .i64 j, .int .u64 t] w fun e w' => ∃ vv, e = .returned (.tuple #[.int .u64 0, .int .i64 11, vv]) ∧ RS bb w' vv L R ∧ Kp no w w' := by
  have H := As.mk hr
  have HF := As.mk (And.intro hf hbb)
  clear hf hbb
  have hpl := pl_lt hL.pos t
  have h2 : (decide (4611686018427387904 ≤ t)) = false := by rw [decide_eq_false_iff_not]; omega
  have h4 : (decide (j < 0)) = false := by rw [decide_eq_false_iff_not]; omega
  have h6 : (decide ((R : Int) ≤ j)) = false := by rw [decide_eq_false_iff_not]; omega
  have hm : IntKind.u64.wrap (2 * t) = 2 * t := by rw [IntKind.wrap_u64]; omega
  have hm1 : IntKind.u64.wrap (2 * t + 1) = 2 * t + 1 := by rw [IntKind.wrap_u64]; omega
  have hok := slOk hL t
  obtain ⟨hI, hW, hlw, hl0, hIw, hsrc, hc0, hc1, hc2⟩ := rfacts hL hr ht
  change w.cell? _ = some (.int .u64 (slAt L t).st) at hc0
  rw [← Nat.add_assoc] at hc1 hc2
  have hle := hL.le
  have hR := hL.hR
  generalize (slAt L t).st = s at hc0 he hok
  generalize (slAt L t).v = vl at hc1
  obtain ⟨l, hl⟩ := Int.eq_ofNat_of_zero_le (slOkL hL t).1
  have hl8 : l < 256 := by have := (slOkL hL t).2; omega
  rw [hl] at hb hc2
  obtain ⟨jn, rfl⟩ := Int.eq_ofNat_of_zero_le h3
  have hj8 : jn < 8 := by omega
  have h6' : (decide (R ≤ jn)) = false := by rw [decide_eq_false_iff_not]; omega
  clear h6
  generalize pl L t = i at hpl hI hIw hc0 hc1 hc2
  have hd : (decide (s < 2 * t + 1)) = false := by rw [decide_eq_false_iff_not]; omega
  have hd2 : (decide (2 * t + 1 < s)) = false := by rw [decide_eq_false_iff_not]; omega
  have HB := As.mk hb
  clear hr hL h1 h3 h5 hok hW hlw hl0 hIw hb hl he
  go_enter Try.func72, Try.ntmps72
  go_wp2_with fail
  refine (RBit l jn hl8 hj8).mono ?_
  rintro e w1 ⟨rfl, rfl⟩
  rw [HB.out]
  go_wp2
  obtain ⟨m0, m1, m2, hK, hs⟩ := alloc3 (w := w) #[.slice (some ⟨ab, ao, none⟩) L.length c, .int .i64 R] #[.slice none 0 0, .int .i64 0] #[.int .u64 s, .int .u64 vl, .int .i64 (l : Int)] 60 60 119
  generalize ((w.alloc (Obj.cells #[.slice (some ⟨ab, ao, none⟩) L.length c, .int .i64 R] 60)).alloc (Obj.cells #[.slice none 0 0, .int .i64 0] 60)).alloc (Obj.cells #[.int .u64 s, .int .u64 vl, .int .i64 (l : Int)] 119) = W at m0 m1 m2 hK hs ⊢
  generalize hb0 : w.heap.size = b0 at m0 m1 m2 hs hsrc ⊢
  refine wp_region_still_tail 3 (by kernel_rfl) (by kernel_rfl) ?_
  generalize hq : ({ W with drawn := W.drawn + 1 } : World) = W2
  replace hq : QD W W2 := ⟨1, hq.symm⟩
  replace m0 := bk_qd m0 hq
  replace m1 := bk_qd m1 hq
  replace hK := hK.qd hq
  have e0 := bk_cell m0 0
  have e1 := bk_cell m0 1
  have d0 := bk_cell m1 0
  have d1 := bk_cell m1 1
  have z0 := bk_fz m1 0
  have z1 := bk_fz m1 1
  clear hq hs
  simp only [List.take_succ_cons, List.take_zero, List.drop_succ_cons, List.drop_zero]
  repeat still_step
  refine wpStill_nil ?_
  go_wp2
  obtain ⟨f1, hKf⟩ := tell2 (.slice (some ⟨ab, ao, none⟩) L.length c) (.int .i64 R) rfl m1 hK hb0
  refine bodyPost_ret (results_ttc rfl _ _ (b0 + 1) 60 #[.slice (some ⟨ab, ao, none⟩) L.length c, .int .i64 R] (0, 0) _ (.int .u64 0) (.int .i64 11) rfl rfl rfl f1 Try.underlying60 rfl (by kernel_rfl)) rfl ?_
  exact ⟨_, rfl, ⟨_, rfl, H.out.kp hKf (fun _ _ x => x), HF.out.1⟩, hKf⟩
end Go.Proofs.Ytmejnhfggmmefaa.H
