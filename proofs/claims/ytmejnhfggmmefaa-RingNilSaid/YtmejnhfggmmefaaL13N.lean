/- Layer 13: RingNil: where there is no ring nothing is done, and nothing is told. No condition. -/
import Derived.Test.YtmejnhfggmmefaaL13A
import Derived.Test.YtmejnhfggmmefaaOpn13
namespace Go.Proofs.Ytmejnhfggmmefaa.H
open Go.RowKit
set_option linter.unusedVariables false
set_option linter.unusedSimpArgs false
variable {w : World}
set_option maxRecDepth 100000 in
set_option maxHeartbeats 6400000 in
theorem RingNil_calls {v0 : Value} (ho : ∃ o : O12, v0 = .agg o.vals.toArray ∧ o.ok) : Calls Try.prog 20 #[v0] w fun e w' => e = .returned (.bool true) ∧ Kp no w w' := by
  obtain ⟨⟨k, j, t, v⟩, rfl, -⟩ := ho
  change Calls Try.prog 20 #[.agg #[.int .i64 k, .int .i64 j, .int .u64 t, .int .u64 v]] w _
  go_enter Try.func20, Try.ntmps20
  go_wp2_with fail
  obtain ⟨m0, hK⟩ := box1 (w := w) #[.int .i64 k, .int .i64 j, .int .u64 t, .int .u64 v] 89
  generalize w.alloc (.cells #[.int .i64 k, .int .i64 j, .int .u64 t, .int .u64 v] 89) = W at m0 hK ⊢
  generalize w.heap.size = g0 at m0 ⊢
  refine (do_nil k j t v).mono ?_
  rintro e w1 ⟨rfl, hk⟩
  replace m0 := bk_kp m0 hk (fun x => x)
  replace hK := hK.trans hk
  clear hk
  go_wp2_with fail
  refine State_nil.mono ?_
  rintro e w2 ⟨rfl, hk⟩
  replace m0 := bk_kp m0 hk (fun x => x)
  replace hK := hK.trans hk
  clear hk
  go_wp2_with fail
  refine awake13.mono ?_
  obtain ⟨s0, hs⟩ := box1 (w := w2) #[.int .u64 0, .slice none 0 0, .bool false, .slice none 0 0] 92
  replace m0 := bk_kp m0 hs (fun x => x)
  replace hK := hK.trans hs
  clear hs
  generalize w2.alloc (.cells #[.int .u64 0, .slice none 0 0, .bool false, .slice none 0 0] 92) = W3 at m0 s0 hK ⊢
  generalize w2.heap.size = gs at s0 ⊢
  rintro e w3 ⟨rfl, hk⟩
  replace m0 := bk_kp m0 hk (fun x => x)
  replace s0 := bk_kp s0 hk (fun x => x)
  replace hK := hK.trans hk
  clear hk
  have d1 := bk_cell m0 1
  have d2 := bk_cell m0 2
  go_wp2_with fail
  refine Full_nil.mono ?_
  rintro e w4 ⟨rfl, hq⟩
  replace m0 := bk_qd m0 hq
  replace s0 := bk_qd s0 hq
  replace hK := hK.qd hq
  clear hq d1 d2
  have d1 := bk_cell m0 1
  have d2 := bk_cell m0 2
  go_wp2_with fail
  refine Empty_nil.mono ?_
  rintro e w4 ⟨rfl, hq⟩
  replace m0 := bk_qd m0 hq
  replace s0 := bk_qd s0 hq
  replace hK := hK.qd hq
  clear hq d1 d2
  have d1 := bk_cell m0 1
  have d2 := bk_cell m0 2
  go_wp2_with fail
  refine RFree_nil.mono ?_
  rintro e w4 ⟨rfl, hq⟩
  replace m0 := bk_qd m0 hq
  replace s0 := bk_qd s0 hq
  replace hK := hK.qd hq
  clear hq d1 d2
  have d1 := bk_cell m0 1
  have d2 := bk_cell m0 2
  go_wp2_with fail
  refine RHas_nil.mono ?_
  rintro e w4 ⟨rfl, hq⟩
  replace m0 := bk_qd m0 hq
  replace s0 := bk_qd s0 hq
  replace hK := hK.qd hq
  clear hq d1 d2
  have d1 := bk_cell m0 1
  have d2 := bk_cell m0 2
  go_wp2_with fail
  refine Tail_nil.mono ?_
  rintro e w5 ⟨rfl, rfl⟩
  clear d1 d2
  have d1 := bk_cell m0 1
  have d2 := bk_cell m0 2
  go_wp2_with fail
  refine Head_nil.mono ?_
  rintro e w5 ⟨rfl, rfl⟩
  clear d1 d2
  have d1 := bk_cell m0 1
  have d2 := bk_cell m0 2
  go_wp2_with fail
  refine Closed_nil.mono ?_
  rintro e w5 ⟨rfl, rfl⟩
  clear d1 d2
  have e0 := bk_cell s0 0
  have e1 := bk_cell s0 1
  have e2 := bk_cell s0 2
  have e3 := bk_cell s0 3
  clear m0 s0
  go_wp2
  go_ret
  exact ⟨rfl, hK⟩
end Go.Proofs.Ytmejnhfggmmefaa.H
