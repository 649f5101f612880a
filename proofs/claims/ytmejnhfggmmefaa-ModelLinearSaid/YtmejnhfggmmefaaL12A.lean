/- Layer 12's statements: awake, in whatever world, is true. No condition. -/
import Derived.Test.YtmejnhfggmmefaaSlF
namespace Go.Proofs.Ytmejnhfggmmefaa.H
open Go.RowKit
set_option linter.unusedVariables false
set_option linter.unusedSimpArgs false
variable {w : World}

def aw0 : List Sl := [⟨0, 0, 0⟩, ⟨2, 0, 0⟩]
def aw1 : List Sl := [⟨1, 7, 1⟩, ⟨2, 0, 0⟩]
def aw2 : List Sl := [⟨4, 0, 0⟩, ⟨2, 0, 0⟩]
theorem aw_new : sNew 2 = aw0 := by rfl
theorem aw_p1 : sPut aw0 1 2 7 = (8, aw0) := by rfl
theorem aw_p2 : sPut aw0 1 0 7 = (0, aw1) := by rfl
theorem aw_h : (sGot aw1 1 0 0 == 0) = true := by rfl
theorem aw_g1 : sGet aw1 1 0 0 = (7, 0, aw2) := by rfl
theorem aw_g2 : sGet aw2 1 0 0 = (0, 11, aw2) := by rfl
theorem aw_g3 : sGet aw2 1 0 1 = (0, 9, aw2) := by rfl
theorem aw_g4 : sGet aw2 1 1 1 = (0, 1, aw2) := by rfl
theorem aw_f : sFree aw2 2 = true := by rfl
theorem aw_l1 : loadB (2 : Nat) (1 : Nat) aw2 = true := by rfl
theorem aw_l2 : loadB (3 : Nat) (1 : Nat) aw2 = false := by rfl
theorem aw_eq (w : World) : (binOp .eql 119 (.agg #[.int .u64 4, .int .u64 0, .int .i64 0]) (.agg #[.int .u64 4, .int .u64 0, .int .i64 0])).run Try.prog w = .ok (.bool true) w := by kernel_rfl

set_option maxRecDepth 100000 in
set_option maxHeartbeats 6400000 in
theorem awake12 : Calls Try.prog 33 #[] w fun e w' => e = .returned (.bool true) ∧ Kp no w w' := by
  go_enter Try.func33, Try.ntmps33
  go_wp2_with fail
  refine (SNew_ok 2 1 (by decide) (by decide) (by decide) (by decide)).mono ?_
  rintro e w1 ⟨g, b, rfl, hS, hg, hb, hK⟩
  rw [aw_new] at hS
  go_wp2_with fail
  refine (SNew_no 65 1 (by rfl)).mono ?_
  rintro e w2 ⟨rfl, hq⟩
  replace hS := hS.qd hq
  replace hK := hK.qd hq
  clear hq
  go_wp2_with fail
  refine (Put_any hS (t := 2) (v := 7) (by decide)).mono ?_
  rintro e w3 ⟨rfl, hS3, hK'⟩
  rw [aw_p1] at hS3
  rw [aw_p1]
  replace hK := hK.new hK' (fun i hi => by omega)
  clear hS hK'
  go_wp2_with fail
  refine (Put_any hS3 (t := 0) (v := 7) (by decide)).mono ?_
  rintro e w4 ⟨rfl, hS4, hK'⟩
  rw [aw_p2] at hS4
  rw [aw_p2]
  replace hK := hK.new hK' (fun i hi => by omega)
  clear hS3 hK'
  go_wp2_with fail
  refine (Has_any hS4 (t := 0) (j := 0) (by decide)).mono ?_
  rintro e w5 ⟨rfl, hq⟩
  rw [aw_h]
  replace hS4 := hS4.qd hq
  replace hK := hK.qd hq
  clear hq
  go_wp2_with fail
  refine (Get_any hS4 (t := 0) (j := 0) (by decide)).mono ?_
  rintro e w6 ⟨rfl, hS6, hK'⟩
  rw [aw_g1] at hS6
  rw [aw_g1]
  replace hK := hK.new hK' (fun i hi => by omega)
  clear hS4 hK'
  go_wp2_with fail
  refine (Get_any hS6 (t := 0) (j := 0) (by decide)).mono ?_
  rintro e w7 ⟨rfl, hS7, hK'⟩
  rw [aw_g2] at hS7
  rw [aw_g2]
  replace hK := hK.new hK' (fun i hi => by omega)
  clear hS6 hK'
  go_wp2_with fail
  refine (Get_any hS7 (t := 1) (j := 0) (by decide)).mono ?_
  rintro e w8 ⟨rfl, hS8, hK'⟩
  rw [aw_g3] at hS8
  rw [aw_g3]
  replace hK := hK.new hK' (fun i hi => by omega)
  clear hS7 hK'
  go_wp2_with fail
  refine (Get_any hS8 (t := 1) (j := 1) (by decide)).mono ?_
  rintro e w9 ⟨rfl, hS9, hK'⟩
  rw [aw_g4] at hS9
  rw [aw_g4]
  replace hK := hK.new hK' (fun i hi => by omega)
  clear hS8 hK'
  go_wp2_with fail
  refine (All_any hS9).mono ?_
  rintro e w10 ⟨v, rfl, hown, hK'⟩
  replace hS9 := hS9.kp hK' (fun x => x) (fun x => x)
  have hsz : w.heap.size ≤ w9.heap.size := hK.size
  replace hK := hK.trans hK'
  clear hK'
  obtain ⟨lb, lc, rfl, hlb⟩ := or_some hown (by decide)
  change w10.ownsRow _ _ _ (.slice (some ⟨lb, 0, none⟩) 2 lc) 2 _ at hown
  have hrd := Rd.of_own hown
  change Rd w10 _ aw2.length _ at hrd
  have q0 := or_cell hown 0 (.int .u64 4) rfl
  have q1 := or_cell hown 1 (.int .u64 0) rfl
  have q2 := or_cell hown 2 (.int .i64 0) rfl
  go_wp2_with fail
  refine (SLoad_any 2 1 (by rfl) aw2 (by decide) hrd).mono ?_
  rintro e w11 (⟨_, g2, b2, cap2, rfl, hS2, hg2, hb2, hK'⟩ | ⟨hl, rfl, hK'⟩)
  · replace hS9 := hS9.kp hK' (fun x => x) (fun x => x)
    replace hrd := hrd.kp hK' (fun _ _ x => x)
    replace hown := or_kp hown hK' (fun _ _ x => x)
    replace hK := hK.trans hK'
    clear hK' hS2 q0 q1 q2
    go_wp2_with fail
    refine (SLoad_any 3 1 (by rfl) aw2 (by decide) hrd).mono ?_
    rintro e w12 (⟨hl, _⟩ | ⟨_, rfl, hK'⟩)
    · exact absurd (hl.symm.trans aw_l2) (by decide)
    · replace hS9 := hS9.kp hK' (fun x => x) (fun x => x)
      replace hown := or_kp hown hK' (fun _ _ x => x)
      replace hK := hK.trans hK'
      clear hK' hrd
      go_wp2_with fail
      refine (Free_ok hS9 (t := 2) (by decide)).mono ?_
      rintro e w13 ⟨rfl, hq⟩
      rw [aw_f]
      replace hown := or_qd hown hq
      replace hK := hK.qd hq
      have q0 := or_cell hown 0 (.int .u64 4) rfl
      have q1 := or_cell hown 1 (.int .u64 0) rfl
      have q2 := or_cell hown 2 (.int .i64 0) rfl
      have he := aw_eq
      clear hq hS9 hown
      go_wp2
      go_ret
      exact ⟨rfl, hK⟩
  · exact absurd (hl.symm.trans aw_l1) (by decide)
end Go.Proofs.Ytmejnhfggmmefaa.H
