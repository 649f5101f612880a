/- Layer 12: SlotsNil: where there are no places nothing is put, got, free or told. No condition. -/
import Derived.Test.YtmejnhfggmmefaaL12A
namespace Go.Proofs.Ytmejnhfggmmefaa.H
open Go.RowKit
set_option linter.unusedVariables false
set_option linter.unusedSimpArgs false
variable {w : World} {j t v : Int}

set_option maxRecDepth 100000 in
set_option maxHeartbeats 1600000 in
theorem Free_nil : Calls Try.prog 39 #[.pointer none, .int .u64 t] w fun e w' => e = .returned (.bool false) ∧ QD w w' := by
  go_enter Try.func39, Try.ntmps39
  go_wp2
  go_quiet (fail)
  go_wp2
  go_ret
  exact ⟨rfl, QD.n _ _⟩
set_option maxRecDepth 100000 in
set_option maxHeartbeats 3200000 in
theorem SlotsNil_calls (j : Int) (wj : (Lit.int .i64 j).wf = true) (t : Int) (wt : (Lit.int .u64 t).wf = true) (v : Int) (wv : (Lit.int .u64 v).wf = true) : Calls Try.prog 11 #[.int .i64 j, .int .u64 t, .int .u64 v] w fun e w' => e = .returned (.bool true) ∧ Kp no w w' := by
  go_enter Try.func11, Try.ntmps11
  go_wp2_with fail
  refine Get_nil.mono ?_
  rintro e w1 ⟨rfl, hq⟩
  have hK := Kp.of_qd (S := no) hq
  clear hq
  go_wp2_with fail
  refine awake12.mono ?_
  rintro e w2 ⟨rfl, hK'⟩
  replace hK := hK.trans hK'
  clear hK'
  go_wp2_with fail
  refine Free_nil.mono ?_
  rintro e w3 ⟨rfl, hq⟩
  replace hK := hK.qd hq
  clear hq
  go_wp2_with fail
  refine Put_nil.mono ?_
  rintro e w4 ⟨rfl, rfl⟩
  go_wp2_with fail
  refine Has_nil.mono ?_
  rintro e w5 ⟨rfl, hq⟩
  replace hK := hK.qd hq
  clear hq
  go_wp2_with fail
  refine All_nil.mono ?_
  rintro e w6 ⟨rfl, hq⟩
  replace hK := hK.qd hq
  clear hq
  go_wp2
  go_ret
  exact ⟨rfl, hK⟩
end Go.Proofs.Ytmejnhfggmmefaa.H
