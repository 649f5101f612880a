/- Layer 11's statements: awake, in whatever world, is true. No condition. -/
import Derived.Test.YthoejimgdhfmiaaChkC
namespace Go.Proofs.Ythoejimgdhfmiaa.H
open Go.RowKit Go.Proofs.Ythoejimgdhfmiaa.PCheckTells Go.Proofs.YthoejimgdhfmiaaW.PrintWords Go.Proofs.YthoejimgdhfmiaaW.PrintLast Go.Proofs.YthoejimgdhfmiaaW.PrintMore
set_option linter.unusedVariables false
set_option linter.unusedSimpArgs false
variable {w : World}

theorem c1_ : check_Check.f 40 sampR [samp 1] = some (0, 1, 7) := by decide +kernel
theorem c0_ : check_Check.f 40 sampR [samp 0] = some (0, 0, 0) := by decide +kernel
theorem cn_ : check_Check.f 40 [] [] = some (0, 0, 1) := by decide +kernel
theorem r0_ : check_Reach.f 40 sampR [samp 0] 0 = some ([true, true, true, false, false], 0) := by decide +kernel
theorem r1_ : check_Reach.f 40 sampR [samp 0] 1 = some ([], 5) := by decide +kernel
theorem e0_ : check_Ends.f 40 sampR [samp 0] 0 = some (true, 0) := by decide +kernel
theorem e1_ : check_Ends.f 40 sampR [samp 1] 0 = some (false, 1) := by decide +kernel
theorem t0_ : check_Right.f 40 sampR [samp 0] = some true := by decide +kernel
theorem t1_ : check_Right.f 40 sampR [samp 1] = some false := by decide +kernel
/-- the example, in memory -/
structure SmIn (w : World) (a : Int) (A0 : Option Addr) (c0 : Nat) (A1 : Option Addr) (c1 : Nat) : Prop where
  r : Kd.C k55 w A0 sampR.length sampR
  l0 : sampR.length ≤ c0
  t : Kd.C (Kd.slice 48 k48) w A1 [samp a].length [samp a]
  l1 : [samp a].length ≤ c1
theorem sample_any (a : Int) : Calls Try.prog 22 #[.int .i64 a] w fun e w' => ∃ A0 c0 A1 c1, e = .returned (.agg #[.slice A0 1 c0, .slice A1 1 c1]) ∧ SmIn w' a A0 c0 A1 c1 ∧ Kp no w w' := by
  refine (rondeaulaw11_sample.calls a sampR [samp a] w rfl).mono ?_
  rintro e w' ⟨v0, v1, rfl, h0, h1, hb⟩
  obtain ⟨A0, c0, rfl, l0, hc0⟩ := Kd.R_reads h0
  obtain ⟨A1, c1, rfl, l1, hc1⟩ := Kd.N_reads h1
  exact ⟨A0, c0, A1, c1, rfl, ⟨hc0, l0, hc1, l1⟩, Kp.of_below hb⟩
theorem bk_b {w w' : World} (h : Below w.heap.size w w') : Kp no w w' := Kp.of_below h
set_option maxRecDepth 100000 in
set_option maxHeartbeats 6400000 in
theorem awake11 : Calls Try.prog 9 #[] w fun e w' => e = .returned (.bool true) ∧ Kp no w w' := by
  go_enter Try.func9, Try.ntmps9
  go_wp2_with fail
  refine (sample_any 1).mono ?_
  rintro e wx ⟨A0, c0, A1, c1, rfl, hs, hk⟩
  have hK := As.mk hk
  clear hk
  go_wp2_with fail
  refine (check_Check.calls 40 A0 c0 sampR A1 c1 [samp 1] 0 1 7 _ hs.r hs.l0 hs.t hs.l1 c1_).mono ?_
  rintro e wy ⟨rfl, hb⟩
  have hk := bk_b hb
  replace hK := As.mk (hK.out.trans hk)
  clear hk hb
  clear hs
  go_wp2_with fail
  refine (sample_any 0).mono ?_
  rintro e wx ⟨A0, c0, A1, c1, rfl, hs, hk⟩
  replace hK := As.mk (hK.out.trans hk)
  clear hk
  go_wp2_with fail
  refine (check_Check.calls 40 A0 c0 sampR A1 c1 [samp 0] 0 0 0 _ hs.r hs.l0 hs.t hs.l1 c0_).mono ?_
  rintro e wy ⟨rfl, hb⟩
  have hk := bk_b hb
  replace hK := As.mk (hK.out.trans hk)
  clear hk hb
  clear hs
  go_wp2_with fail
  refine (sample_any 0).mono ?_
  rintro e wx ⟨A0, c0, A1, c1, rfl, hs, hk⟩
  replace hK := As.mk (hK.out.trans hk)
  clear hk
  go_wp2_with fail
  refine (check_Reach.calls 40 A0 c0 sampR A1 c1 [samp 0] 0 [true, true, true, false, false] 0 _ hs.r hs.l0 hs.t hs.l1 r0_).mono ?_
  rintro e wy ⟨v0, rfl, hv, hb⟩
  have hk := bk_b hb
  replace hK := As.mk (hK.out.trans hk)
  clear hk hb
  obtain ⟨A3, c3, rfl, hc3, hC3⟩ := Kd.R_reads hv
  obtain ⟨b3, o3, rfl, hin⟩ := Cb_cells hC3 (by decide)
  have q2 := As.mk (hin 2 (by decide))
  have q3 := As.mk (hin 3 (by decide))
  have q4 := As.mk (hin 4 (by decide))
  have hK2 := As.mk (Kp.refl no wy)
  have HB3 := As.mk (World.block_lt_of_cell? _ _ q2.out)
  obtain ⟨w3, hw3⟩ : ∃ w3 : World, w3 = wy := ⟨_, rfl⟩
  rw [← hw3] at q2 q3 q4 HB3
  replace hK2 : As (Kp no w3 wy) := by rw [hw3]; exact hK2
  clear hs hv hC3 hin hc3 hw3
  go_wp2_with fail
  refine (sample_any 0).mono ?_
  rintro e wx ⟨A0, c0, A1, c1, rfl, hs, hk⟩
  replace hK := As.mk (hK.out.trans hk)
  replace hK2 := As.mk (hK2.out.trans hk)
  clear hk
  go_wp2_with fail
  refine (check_Ends.calls 40 A0 c0 sampR A1 c1 [samp 0] 0 true 0 _ hs.r hs.l0 hs.t hs.l1 e0_).mono ?_
  rintro e wy ⟨rfl, hb⟩
  have hk := bk_b hb
  replace hK := As.mk (hK.out.trans hk)
  replace hK2 := As.mk (hK2.out.trans hk)
  clear hk hb
  clear hs
  go_wp2_with fail
  refine (sample_any 0).mono ?_
  rintro e wx ⟨A0, c0, A1, c1, rfl, hs, hk⟩
  replace hK := As.mk (hK.out.trans hk)
  replace hK2 := As.mk (hK2.out.trans hk)
  clear hk
  go_wp2_with fail
  refine (touches_s A0 c0 A1 c1 hs.r hs.l0 hs.t hs.l1).mono ?_
  rintro e wy ⟨g, c4, rfl, hcell, hb⟩
  have hk := bk_b hb
  replace hK := As.mk (hK.out.trans hk)
  replace hK2 := As.mk (hK2.out.trans hk)
  clear hk hb
  have q5 := As.mk hcell
  have HB4 := As.mk (World.block_lt_of_cell? _ _ hcell)
  have hK4 := As.mk (Kp.refl no wy)
  obtain ⟨w5, hw5⟩ : ∃ w5 : World, w5 = wy := ⟨_, rfl⟩
  rw [← hw5] at q5 HB4
  replace hK4 : As (Kp no w5 wy) := by rw [hw5]; exact hK4
  clear hs hcell hw5
  go_wp2_with fail
  refine (sample_any 0).mono ?_
  rintro e wx ⟨A0, c0, A1, c1, rfl, hs, hk⟩
  replace hK := As.mk (hK.out.trans hk)
  replace hK2 := As.mk (hK2.out.trans hk)
  replace hK4 := As.mk (hK4.out.trans hk)
  clear hk
  go_wp2_with fail
  refine (check_Reach.calls 40 A0 c0 sampR A1 c1 [samp 0] 1 [] 5 _ hs.r hs.l0 hs.t hs.l1 r1_).mono ?_
  rintro e wy ⟨v0, rfl, hv, hb⟩
  have hk := bk_b hb
  replace hK := As.mk (hK.out.trans hk)
  replace hK2 := As.mk (hK2.out.trans hk)
  replace hK4 := As.mk (hK4.out.trans hk)
  clear hk hb
  clear hs hv
  go_wp2_with fail
  refine (sample_any 1).mono ?_
  rintro e wx ⟨A0, c0, A1, c1, rfl, hs, hk⟩
  replace hK := As.mk (hK.out.trans hk)
  replace hK2 := As.mk (hK2.out.trans hk)
  replace hK4 := As.mk (hK4.out.trans hk)
  clear hk
  go_wp2_with fail
  refine (check_Ends.calls 40 A0 c0 sampR A1 c1 [samp 1] 0 false 1 _ hs.r hs.l0 hs.t hs.l1 e1_).mono ?_
  rintro e wy ⟨rfl, hb⟩
  have hk := bk_b hb
  replace hK := As.mk (hK.out.trans hk)
  replace hK2 := As.mk (hK2.out.trans hk)
  replace hK4 := As.mk (hK4.out.trans hk)
  clear hk hb
  clear hs
  go_wp2_with fail
  refine (check_Check.calls 40 none 0 [] none 0 [] 0 0 1 _ ⟨rfl, by decide, fun h => absurd h (by decide)⟩ (Nat.le_refl _) ⟨rfl, by decide, fun h => absurd h (by decide)⟩ (Nat.le_refl _) cn_).mono ?_
  rintro e wy ⟨rfl, hb⟩
  have hk := bk_b hb
  replace hK := As.mk (hK.out.trans hk)
  replace hK2 := As.mk (hK2.out.trans hk)
  replace hK4 := As.mk (hK4.out.trans hk)
  clear hk hb
  go_wp2_with fail
  refine (sample_any 0).mono ?_
  rintro e wx ⟨A0, c0, A1, c1, rfl, hs, hk⟩
  replace hK := As.mk (hK.out.trans hk)
  replace hK2 := As.mk (hK2.out.trans hk)
  replace hK4 := As.mk (hK4.out.trans hk)
  clear hk
  go_wp2_with fail
  refine (check_Right.calls 40 A0 c0 sampR A1 c1 [samp 0] true _ hs.r hs.l0 hs.t hs.l1 t0_).mono ?_
  rintro e wy ⟨rfl, hb⟩
  have hk := bk_b hb
  replace hK := As.mk (hK.out.trans hk)
  replace hK2 := As.mk (hK2.out.trans hk)
  replace hK4 := As.mk (hK4.out.trans hk)
  clear hk hb
  clear hs
  go_wp2_with fail
  refine (sample_any 1).mono ?_
  rintro e wx ⟨A0, c0, A1, c1, rfl, hs, hk⟩
  replace hK := As.mk (hK.out.trans hk)
  replace hK2 := As.mk (hK2.out.trans hk)
  replace hK4 := As.mk (hK4.out.trans hk)
  clear hk
  go_wp2_with fail
  refine (check_Right.calls 40 A0 c0 sampR A1 c1 [samp 1] false _ hs.r hs.l0 hs.t hs.l1 t1_).mono ?_
  rintro e wy ⟨rfl, hb⟩
  have hk := bk_b hb
  replace hK := As.mk (hK.out.trans hk)
  replace hK2 := As.mk (hK2.out.trans hk)
  replace hK4 := As.mk (hK4.out.trans hk)
  clear hk hb
  clear hs
  have p2 := (World.cell?_of_block (hK2.out.block b3 HB3.out (fun x => x))).trans q2.out
  have p3 := (World.cell?_of_block (hK2.out.block b3 HB3.out (fun x => x))).trans q3.out
  have p4 := (World.cell?_of_block (hK2.out.block b3 HB3.out (fun x => x))).trans q4.out
  have p5 := (World.cell?_of_block (hK4.out.block g HB4.out (fun x => x))).trans q5.out
  change wy.cell? ⟨b3, o3 + 2, none⟩ = some (.bool true) at p2
  change wy.cell? ⟨b3, o3 + 3, none⟩ = some (.bool false) at p3
  change wy.cell? ⟨b3, o3 + 4, none⟩ = some (.bool false) at p4
  go_wp2
  go_ret
  exact ⟨rfl, hK.out⟩
end Go.Proofs.Ythoejimgdhfmiaa.H
