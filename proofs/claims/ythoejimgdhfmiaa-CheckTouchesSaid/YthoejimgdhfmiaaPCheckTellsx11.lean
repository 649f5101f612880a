-- PRINTED BY print.sh 35421559b90ae4d0a3588c463048766b98c2df88dd9212a6774a882060cdf62d: not written by this session
import Derived.Test.YthoejimgdhfmiaaPCheckTellsx0
namespace Go.Proofs.Ythoejimgdhfmiaa.PCheckTells
open Go.RowKit Go.Proofs.YthoejimgdhfmiaaW.PrintWords Go.Proofs.YthoejimgdhfmiaaW.PrintLast Go.Proofs.YthoejimgdhfmiaaW.PrintMore
attribute [local go_sem] max2_int min2_int max_two min_two max_three min_three max_four min_four   -- for this text's walks alone
set_option linter.unusedVariables false
set_option linter.unusedSimpArgs false

-- NOT PRINTED: function 49 (slices_partitionOrdered_int)

-- NOT PRINTED: function 38 (slices_pdqsortOrdered_int)

-- NOT PRINTED: function 31 (slices_Sort_int_int)

-- NOT PRINTED: function 32 (slices_Compact_int_int)

-- NOT PRINTED: function 17 (check_Touches)

/-! ### rondeaulaw11_sample: function 22 -/
def rondeaulaw11_sample.f (a0 : Int) : Option ((List (S55)) × (List (List (S48)))) := some ((([(⟨1, 1, 1⟩ : S55)] : List (S55))), (([(([(⟨16, 0, 0, 0, 0, 2⟩ : S48), (⟨20, 0, 0, a0, 0, 0⟩ : S48), (⟨25, 0, 0, 0, 0, 0⟩ : S48), (⟨24, 0, 0, 0, 0, 0⟩ : S48)] : List (S48)))] : List (List (S48)))))
set_option maxHeartbeats 8000000 in
set_option maxRecDepth 100000 in
theorem rondeaulaw11_sample.calls (a0 : Int) (r1 : List (S55)) (r2 : List (List (S48))) (w : World) (h : rondeaulaw11_sample.f a0 = some (r1, r2)) :
    Calls Try.prog 22 #[.int .i64 a0] w fun e w' => ∃ v0_ v1_ : Value, e = .returned (.agg #[v0_, v1_]) ∧ Kd.R k55 55 w' w.heap.size (fun k_ => (w.heap.size ≤ k_)) v0_ r1 ∧ Kd.N (Kd.slice 48 k48) 44 w' w.heap.size (fun k_ => (w.heap.size ≤ k_) ∧ some k_ ≠ (v0_ : Value).ownBlock) v1_ r2 ∧ Below w.heap.size w w' := by
  have hu25 := Try.underlying25
  have hu55 := Try.underlying55
  have hu48 := Try.underlying48
  have HB := Aside0.mk (Below.refl w.heap.size w)
  have H : (some ((([(⟨1, 1, 1⟩ : S55)] : List (S55))), (([(([(⟨16, 0, 0, 0, 0, 2⟩ : S48), (⟨20, 0, 0, a0, 0, 0⟩ : S48), (⟨25, 0, 0, 0, 0, 0⟩ : S48), (⟨24, 0, 0, 0, 0, 0⟩ : S48)] : List (S48)))] : List (List (S48)))))) = some (r1, r2) := h
  clear h
  obtain ⟨y329, hy329⟩ : ∃ y_ : List (S55), y_ = (([(⟨1, 1, 1⟩ : S55)] : List (S55))) := ⟨_, rfl⟩
  replace H : (some (y329, (([(([(⟨16, 0, 0, 0, 0, 2⟩ : S48), (⟨20, 0, 0, a0, 0, 0⟩ : S48), (⟨25, 0, 0, 0, 0, 0⟩ : S48), (⟨24, 0, 0, 0, 0, 0⟩ : S48)] : List (S48)))] : List (List (S48)))))) = some (r1, r2) := by first | (rw [hy329]; with_reducible exact H) | (have H2_ := (Option.bind_some _ _).symm.trans H; rw [hy329]; with_reducible exact H2_) | (have H2_ := (Option.bind_some _ _).symm.trans H; with_reducible exact H2_) | with_reducible exact H | (rw [hy329]; exact H) | exact H
  have Ny329 := Aside0.mk hy329
  clear hy329
  obtain ⟨y332, hy332⟩ : ∃ y_ : List (S48), y_ = (([(⟨16, 0, 0, 0, 0, 2⟩ : S48), (⟨20, 0, 0, a0, 0, 0⟩ : S48), (⟨25, 0, 0, 0, 0, 0⟩ : S48), (⟨24, 0, 0, 0, 0, 0⟩ : S48)] : List (S48))) := ⟨_, rfl⟩
  replace H : (some (y329, (([y332] : List (List (S48)))))) = some (r1, r2) := by first | (rw [hy332]; with_reducible exact H) | (have H2_ := (Option.bind_some _ _).symm.trans H; rw [hy332]; with_reducible exact H2_) | (have H2_ := (Option.bind_some _ _).symm.trans H; with_reducible exact H2_) | with_reducible exact H | (rw [hy332]; exact H) | exact H
  have Ny332 := Aside0.mk hy332
  clear hy332
  obtain ⟨y335, hy335⟩ : ∃ y_ : List (List (S48)), y_ = (([y332] : List (List (S48)))) := ⟨_, rfl⟩
  replace H : (some (y329, y335)) = some (r1, r2) := by first | (rw [hy335]; with_reducible exact H) | (have H2_ := (Option.bind_some _ _).symm.trans H; rw [hy335]; with_reducible exact H2_) | (have H2_ := (Option.bind_some _ _).symm.trans H; with_reducible exact H2_) | with_reducible exact H | (rw [hy335]; exact H) | exact H
  have Ny335 := Aside0.mk hy335
  clear hy335
  simp only [Option.some.injEq, Prod.mk.injEq] at H
  obtain ⟨rfl, rfl⟩ := H
  go_enter Try.func22, Try.ntmps22
  go_wp2_with (first | ((with_reducible refine gate_dst (N := 2) rfl ?_); refine box_event ?hg (N := 2) ?hd (cs := #[.slice none 0 0, .slice none 0 0]) (t := 25) ?hr ?_; (case hd => rfl); (case hg => rfl); (case hr => first | (go_simp; done) | (go_simp; rfl)); intro gb328 hg w2 hbox hb; have n0_ := Aside0.mk (below_step (by repeat (first | (with_reducible first | exact HB.out | apply below_alloc | apply pw_below_drewN | apply below_drew1) | exact HB.out)) hb); have n1_ := Aside0.mk (hbox); have n2_ := Aside0.mk ((by rw [hg]; exact (below_size (by repeat (first | (with_reducible first | exact HB.out | apply below_alloc | apply pw_below_drewN | apply below_drew1) | exact HB.out))) : w.heap.size ≤ gb328)); have n3_ := Aside0.mk ((by rw [hg]; exact (below_size (by repeat (first | (with_reducible first | exact HB.out | apply below_alloc | apply pw_below_drewN | apply below_drew1) | exact HB.out))) : w.heap.size ≤ gb328)); clear HB; have HB := n0_; have BK328 := n1_; have GW328 := n2_; have GE328 := n3_; clear n0_ n1_ n2_ n3_; clear hb hbox hg) | ((with_reducible refine gate_dst (N := 4) rfl ?_); refine Kd.R_lit k55 _ 55 ?hg (N := 4) ?hd (xs := ([(⟨1, 1, 1⟩ : S55)] : List (S55))) (inner := [.int .i64 1, .int .i64 1, .int .i64 1]) (ok := fun _ => True) (okp := fun _ => True) ?hr ?hp (fun _ hk => hk) trivial (Below.refl _ _) (Nat.le_refl _) (by simp) ?_; (case hd => rfl); (case hg => rfl); (case hr => first | (go_simp; done) | (go_simp; rfl)); (case hp => exact (Reps.c3 (show Kd.M k55 _ _ _ (⟨1, 1, 1⟩ : S55) [.int .i64 1, .int .i64 1, .int .i64 1] from (k55_mkM _ _ _ (⟨1, 1, 1⟩ : S55) )) (Reps.none _ _))); intro v330 w3 ho4 hb hg_ hnew_; clear hg_ hnew_; (first | rw [← Ny329.out] at ho4 | (simp only [Int.reduceToNat] at ho4; rw [← Ny329.out] at ho4)); have n0_ := Aside0.mk (Kd.R_lower (Kd.R_newM (M := fun k_ => (w.heap.size ≤ k_)) ho4 (below_size (by repeat (first | (with_reducible first | exact HB.out | apply below_alloc | apply pw_below_drewN | apply below_drew1 | refine below_set ?_ GE328.out) | exact HB.out))) (fun k_ h_ => h_)) (below_size (by repeat (first | (with_reducible first | exact HB.out | apply below_alloc | apply pw_below_drewN | apply below_drew1 | refine below_set ?_ GE328.out) | exact HB.out)))); have n1_ := Aside0.mk (blk_below (g := gb328) (o := .cells #[.slice none 0 0, .slice none 0 0] 25 (0, 0)) (by (with_reducible repeat (first | refine blk_drewN ?_ _ | refine blk_drew ?_ | refine blk_alloc ?_ _)); exact BK328.out) hb); have n2_ := Aside0.mk (below_step (by repeat (first | (with_reducible first | exact HB.out | apply below_alloc | apply pw_below_drewN | apply below_drew1 | refine below_set ?_ GE328.out) | exact HB.out)) hb); clear BK328; clear HB; have HO331 := n0_; have BK328 := n1_; have HB := n2_; clear n0_ n1_ n2_; clear hb ho4) | ((with_reducible refine gate_dst (N := 10) rfl ?_); refine Kd.R_lit k48 _ 48 ?hg (N := 10) ?hd (xs := ([(⟨16, 0, 0, 0, 0, 2⟩ : S48), (⟨20, 0, 0, a0, 0, 0⟩ : S48), (⟨25, 0, 0, 0, 0, 0⟩ : S48), (⟨24, 0, 0, 0, 0, 0⟩ : S48)] : List (S48))) (inner := [.int .i64 16, .int .i64 0, .int .i64 0, .int .i64 0, .int .i64 0, .int .u64 2, .int .i64 20, .int .i64 0, .int .i64 0, .int .i64 a0, .int .i64 0, .int .u64 0, .int .i64 25, .int .i64 0, .int .i64 0, .int .i64 0, .int .i64 0, .int .u64 0, .int .i64 24, .int .i64 0, .int .i64 0, .int .i64 0, .int .i64 0, .int .u64 0]) (ok := fun _ => True) (okp := fun _ => True) ?hr ?hp (fun _ hk => hk) trivial (Below.refl _ _) (Nat.le_refl _) (by simp) ?_; (case hd => rfl); (case hg => rfl); (case hr => first | (go_simp; done) | (go_simp; rfl)); (case hp => exact (Reps.c6 (show Kd.M k48 _ _ _ (⟨16, 0, 0, 0, 0, 2⟩ : S48) [.int .i64 16, .int .i64 0, .int .i64 0, .int .i64 0, .int .i64 0, .int .u64 2] from (k48_mkM _ _ _ (⟨16, 0, 0, 0, 0, 2⟩ : S48) )) (Reps.c6 (show Kd.M k48 _ _ _ (⟨20, 0, 0, a0, 0, 0⟩ : S48) [.int .i64 20, .int .i64 0, .int .i64 0, .int .i64 a0, .int .i64 0, .int .u64 0] from (k48_mkM _ _ _ (⟨20, 0, 0, a0, 0, 0⟩ : S48) )) (Reps.c6 (show Kd.M k48 _ _ _ (⟨25, 0, 0, 0, 0, 0⟩ : S48) [.int .i64 25, .int .i64 0, .int .i64 0, .int .i64 0, .int .i64 0, .int .u64 0] from (k48_mkM _ _ _ (⟨25, 0, 0, 0, 0, 0⟩ : S48) )) (Reps.c6 (show Kd.M k48 _ _ _ (⟨24, 0, 0, 0, 0, 0⟩ : S48) [.int .i64 24, .int .i64 0, .int .i64 0, .int .i64 0, .int .i64 0, .int .u64 0] from (k48_mkM _ _ _ (⟨24, 0, 0, 0, 0, 0⟩ : S48) )) (Reps.none _ _)))))); intro v333 w5 ho6 hb hg_ hnew_; clear hg_ hnew_; (first | rw [← Ny332.out] at ho6 | (simp only [Int.reduceToNat] at ho6; rw [← Ny332.out] at ho6)); have n0_ := Aside0.mk (Kd.R_below (by (with_reducible repeat (first | apply Kd.R_alloc | apply Kd.R_drewN | apply Kd.R_drew)); exact HO331.out) hb); have n1_ := Aside0.mk (Kd.R_lower (Kd.R_newM (M := fun k_ => (w.heap.size ≤ k_)) ho6 (below_size (by repeat (first | (with_reducible first | exact HB.out | apply below_alloc | apply pw_below_drewN | apply below_drew1 | refine below_set ?_ GE328.out) | exact HB.out))) (fun k_ h_ => h_)) (below_size (by repeat (first | (with_reducible first | exact HB.out | apply below_alloc | apply pw_below_drewN | apply below_drew1 | refine below_set ?_ GE328.out) | exact HB.out)))); have n2_ := Aside0.mk (blk_below (g := gb328) (o := .cells #[.slice none 0 0, .slice none 0 0] 25 (0, 0)) (by (with_reducible repeat (first | refine blk_drewN ?_ _ | refine blk_drew ?_ | refine blk_alloc ?_ _)); exact BK328.out) hb); have n3_ := Aside0.mk (below_step (by repeat (first | (with_reducible first | exact HB.out | apply below_alloc | apply pw_below_drewN | apply below_drew1 | refine below_set ?_ GE328.out) | exact HB.out)) hb); clear HO331; clear BK328; clear HB; have HO331 := n0_; have HO334 := n1_; have BK328 := n2_; have HB := n3_; clear n0_ n1_ n2_ n3_; clear hb ho6; obtain ⟨Ao7, co7, eo7⟩ := Kd.R_slice HO334.out; subst eo7) | ((with_reducible refine gate_dst (N := 11) rfl ?_); refine Kd.N_lit (Kd.slice 48 k48) _ 44 ?hg (N' := 11) ?hd (xs := ([y332] : List (List (S48)))) (inner := [.slice Ao7 y332.length co7]) (ok := (fun k_ => (w.heap.size ≤ k_) ∧ some k_ ≠ (v330 : Value).ownBlock ∧ k_ ≠ gb328)) (okp := (fun k_ => (w.heap.size ≤ k_) ∧ some k_ ≠ (v330 : Value).ownBlock ∧ k_ ≠ gb328)) ?hr ?hp (fun _ hk => hk) ((show ∀ k_, w5.heap.size ≤ k_ → (fun k_ => (w.heap.size ≤ k_) ∧ some k_ ≠ (v330 : Value).ownBlock ∧ k_ ≠ gb328) k_ from fun k_ hk => ⟨(Nat.le_trans (below_size (by repeat (first | (with_reducible first | exact HB.out | apply below_alloc | apply pw_below_drewN | apply below_drew1 | refine below_set ?_ GE328.out) | exact HB.out))) hk), Kd.fresh' (Kd.R_lt (by (with_reducible repeat (first | apply Kd.R_alloc | apply Kd.R_drewN | apply Kd.R_drew)); exact HO331.out)) k_ hk, Kd.freshB (g := gb328) (o := .cells #[.slice none 0 0, .slice none 0 0] 25 (0, 0)) (by (with_reducible repeat (first | refine blk_drewN ?_ _ | refine blk_drew ?_ | refine blk_alloc ?_ _)); exact BK328.out) k_ hk⟩) _ (Nat.le_refl _)) (Below.refl _ _) (Nat.le_refl _) (by simp) ?_; (case hd => rfl); (case hg => rfl); (case hr => first | (go_simp; done) | (go_simp; rfl)); (case hp => exact (Reps.one (show Kd.FK (Kd.slice 48 k48) _ _ y332 [.slice Ao7 y332.length co7] from (Kd.FK_slice_mk (Kd.R_reads' (Kd.R_mono (ok' := (fun k_ => (w.heap.size ≤ k_) ∧ some k_ ≠ (v330 : Value).ownBlock ∧ k_ ≠ gb328)) (Kd.R_types (Kd.R_apart' (HO334.out) (Kd.R_typed HO331.out) (by decide)) BK328.out (by decide)) (fun k_ hk => ⟨hk.1.1.1, ⟨hk.1.2, hk.2⟩⟩))).2.1 (Kd.R_F (Kd.R_mono (ok' := (fun k_ => (w.heap.size ≤ k_) ∧ some k_ ≠ (v330 : Value).ownBlock ∧ k_ ≠ gb328)) (Kd.R_types (Kd.R_apart' (HO334.out) (Kd.R_typed HO331.out) (by decide)) BK328.out (by decide)) (fun k_ hk => ⟨hk.1.1.1, ⟨hk.1.2, hk.2⟩⟩))))) (Reps.none _ _))); intro v336 w8 ho9 hb hg_ hnew_; clear hg_ hnew_; (first | rw [← Ny335.out] at ho9 | (simp only [Int.reduceToNat] at ho9; rw [← Ny335.out] at ho9)); have n0_ := Aside0.mk (Kd.R_below (by (with_reducible repeat (first | apply Kd.R_alloc | apply Kd.R_drewN | apply Kd.R_drew)); exact HO331.out) hb); have n1_ := Aside0.mk (Kd.N_lower ho9 (below_size (by repeat (first | (with_reducible first | exact HB.out | apply below_alloc | apply pw_below_drewN | apply below_drew1 | refine below_set ?_ GE328.out) | exact HB.out)))); have n2_ := Aside0.mk (blk_below (g := gb328) (o := .cells #[.slice none 0 0, .slice none 0 0] 25 (0, 0)) (by (with_reducible repeat (first | refine blk_drewN ?_ _ | refine blk_drew ?_ | refine blk_alloc ?_ _)); exact BK328.out) hb); have n3_ := Aside0.mk (below_step (by repeat (first | (with_reducible first | exact HB.out | apply below_alloc | apply pw_below_drewN | apply below_drew1 | refine below_set ?_ GE328.out) | exact HB.out)) hb); clear HO331; clear BK328; clear HB; clear HO334; have HO331 := n0_; have HO337 := n1_; have BK328 := n2_; have HB := n3_; clear n0_ n1_ n2_ n3_; clear hb ho9; obtain ⟨Ao10, co10, eo10⟩ := Kd.N_slice HO337.out; subst eo10; obtain ⟨Ao11, co11, eo11⟩ := Kd.R_slice HO331.out; subst eo11; have hcz12_0 : w8.cell? ⟨gb328, 0, none⟩ = some (.slice none 0 0) := (blk_cell BK328.out 0).trans rfl; have hcz12_1 : w8.cell? ⟨gb328, 1, none⟩ = some (.slice none 0 0) := (blk_cell BK328.out 1).trans rfl; have hfz12_0 := blk_frozen BK328.out 0; have hfz12_1 := blk_frozen BK328.out 1))
  refine bodyPost_ret (results_cell_row rfl _ _ gb328 25 #[.slice Ao11 y329.length co11, .slice Ao10 y335.length co10] (0, 0) _ rfl (by (with_reducible repeat (first | refine blk_drewN ?_ _ | refine blk_drew ?_ | refine blk_alloc ?_ _)); refine blk_put (cs := #[.slice Ao11 y329.length co11, .slice none 0 0]) ?_ 1 _ rfl; (with_reducible repeat (first | refine blk_drewN ?_ _ | refine blk_drew ?_ | refine blk_alloc ?_ _)); refine blk_put (cs := #[.slice none 0 0, .slice none 0 0]) ?_ 0 _ rfl; (with_reducible repeat (first | refine blk_drewN ?_ _ | refine blk_drew ?_ | refine blk_alloc ?_ _)); exact BK328.out) Try.underlying25 rfl (by kernel_rfl)) rfl ?_
  exact ⟨_, _, by first | rfl | (simp [errW_none, errW_some] <;> rfl) | (simp [*, errW_none, errW_some] <;> rfl), by (with_reducible repeat (first | apply Kd.R_alloc | apply Kd.R_drewN | apply Kd.R_drew)); exact Kd.R_mono (Kd.R_far (p := ⟨gb328, 1, none⟩) (Kd.R_far (p := ⟨gb328, 0, none⟩) (Kd.R_types HO331.out BK328.out (by decide)) (fun _ hk => hk.2) (.slice Ao11 y329.length co11)) (fun _ hk => hk.2) (.slice Ao10 y335.length co10)) (fun _ hk => hk.1.1), by (with_reducible repeat (first | apply Kd.N_alloc | apply Kd.N_drewN | apply Kd.N_drew)); exact Kd.N_mono (Kd.N_far (p := ⟨gb328, 1, none⟩) (Kd.N_far (p := ⟨gb328, 0, none⟩) (Kd.N_mono HO337.out (fun k_ hk => (⟨hk, hk.2.2⟩ : _ ∧ k_ ≠ gb328))) (fun _ hk => hk.2) (.slice Ao11 y329.length co11)) (fun _ hk => hk.2) (.slice Ao10 y335.length co10)) (fun _ hk => ⟨hk.1.1, hk.1.2.1⟩), by repeat (first | (with_reducible first | exact HB.out | apply below_alloc | apply pw_below_drewN | apply below_drew1 | refine below_set ?_ GE328.out) | exact HB.out)⟩

-- NOT PRINTED: function 9 (rondeaulaw11_awake)

/-! ### rondeauref09_Few: function 10 -/
mutual
def rondeauref09_Few.j0 : Nat → Int → Bool → List (S55) → List (List (S48)) → Option (Bool)
  | 0, _, _, _, _ => none
  | k + 1, x1, x16, x381000, x381001 => if x16 = true then (some false) else (rondeauref09_Few.l0 k x1 0 0 x381000 x381001)
def rondeauref09_Few.l0 : Nat → Int → Int → Int → List (S55) → List (List (S48)) → Option (Bool)
  | 0, _, _, _, _, _ => none
  | k + 1, x1, x5, x6, x381000, x381001 => if x6 < (x381001.length : Int) then (if 0 ≤ x6 then (if ((rd_L4 x381001 x6).length : Int) > x1 then (some false) else (rondeauref09_Few.l0 k x1 (wrap64 (x5 + ((rd_L4 x381001 x6).length : Int))) (wrap64 (x6 + 1)) x381000 x381001)) else (none)) else (some (decide (x5 ≤ x1)))
end
def rondeauref09_Few.f (k : Nat) (l0_0 : List (S55)) (l0_1 : List (List (S48))) (a1 : Int) : Option (Bool) := if (l0_0.length : Int) > 10 then (rondeauref09_Few.j0 k a1 true l0_0 l0_1) else (rondeauref09_Few.j0 k a1 (decide ((l0_1.length : Int) > 10)) l0_0 l0_1)
theorem rondeauref09_Few.mono_l : ∀ k, (∀ y0 y1 y2 y3, LeO (rondeauref09_Few.j0 k y0 y1 y2 y3) (rondeauref09_Few.j0 (k + 1) y0 y1 y2 y3)) ∧ (∀ y0 y1 y2 y3 y4, LeO (rondeauref09_Few.l0 k y0 y1 y2 y3 y4) (rondeauref09_Few.l0 (k + 1) y0 y1 y2 y3 y4))
  | 0 => ⟨fun _ _ _ _ r h => by simp [rondeauref09_Few.j0] at h, fun _ _ _ _ _ r h => by simp [rondeauref09_Few.l0] at h⟩
  | k + 1 => by
    obtain ⟨ih0, ih1⟩ := rondeauref09_Few.mono_l k
    refine ⟨?_, ?_⟩
    · intro y0 y1 y2 y3
      unfold rondeauref09_Few.j0
      repeat' first
      | (with_reducible exact ih0 _ _ _ _)
      | (with_reducible exact ih1 _ _ _ _ _)
      | (with_reducible exact LeO.refl _)
      | (with_reducible exact LeO.none _)
      | (with_reducible refine LeO.ite ?_ ?_)
      | (with_reducible refine LeO.bind ?_ (fun _ => ?_))
      | exact ih0 _ _ _ _
      | exact ih1 _ _ _ _ _
      | exact LeO.none _
      | refine LeO.ite ?_ ?_
      | refine LeO.bind ?_ (fun _ => ?_)
    · intro y0 y1 y2 y3 y4
      unfold rondeauref09_Few.l0
      repeat' first
      | (with_reducible exact ih0 _ _ _ _)
      | (with_reducible exact ih1 _ _ _ _ _)
      | (with_reducible exact LeO.refl _)
      | (with_reducible exact LeO.none _)
      | (with_reducible refine LeO.ite ?_ ?_)
      | (with_reducible refine LeO.bind ?_ (fun _ => ?_))
      | exact ih0 _ _ _ _
      | exact ih1 _ _ _ _ _
      | exact LeO.none _
      | refine LeO.ite ?_ ?_
      | refine LeO.bind ?_ (fun _ => ?_)
theorem rondeauref09_Few.mono : ∀ a0 a1 a2 k, LeO (rondeauref09_Few.f k a0 a1 a2) (rondeauref09_Few.f (k + 1) a0 a1 a2) := by
  intro a0 a1 a2 k
  obtain ⟨ih0, ih1⟩ := rondeauref09_Few.mono_l k
  unfold rondeauref09_Few.f
  repeat' first
      | (with_reducible exact ih0 _ _ _ _)
      | (with_reducible exact ih1 _ _ _ _ _)
      | (with_reducible exact LeO.refl _)
      | (with_reducible exact LeO.none _)
      | (with_reducible refine LeO.ite ?_ ?_)
      | (with_reducible refine LeO.bind ?_ (fun _ => ?_))
      | exact ih0 _ _ _ _
      | exact ih1 _ _ _ _ _
      | exact LeO.none _
      | refine LeO.ite ?_ ?_
      | refine LeO.bind ?_ (fun _ => ?_)
set_option maxHeartbeats 8000000 in
set_option maxRecDepth 100000 in
theorem rondeauref09_Few.calls (k : Nat) (A0_0 : Option Addr) (c0_0 : Nat) (l0_0 : List (S55)) (A0_1 : Option Addr) (c0_1 : Nat) (l0_1 : List (List (S48))) (a1 : Int) (r : Bool) (w : World) (hr0_0 : Kd.C k55 w A0_0 l0_0.length l0_0) (hc0_0 : l0_0.length ≤ c0_0) (hr0_1 : Kd.C (Kd.slice 48 k48) w A0_1 l0_1.length l0_1) (hc0_1 : l0_1.length ≤ c0_1) (h : rondeauref09_Few.f k l0_0 l0_1 a1 = some r) :
    Calls Try.prog 10 #[.agg #[.slice A0_0 l0_0.length c0_0, .slice A0_1 l0_1.length c0_1], .int .i64 a1] w fun e w' => e = .returned (.bool r) ∧ Below w.heap.size w w' := by
  have hu25 := Try.underlying25
  have HR0_0 := Aside0.mk hr0_0
  have HC0_0 := Aside0.mk hc0_0
  clear hr0_0 hc0_0
  have HR0_1 := Aside0.mk hr0_1
  have HC0_1 := Aside0.mk hc0_1
  clear hr0_1 hc0_1
  have HB := Aside0.mk (Below.refl w.heap.size w)
  have H : (if (l0_0.length : Int) > 10 then (rondeauref09_Few.j0 k a1 true l0_0 l0_1) else (rondeauref09_Few.j0 k a1 (decide ((l0_1.length : Int) > 10)) l0_0 l0_1)) = some r := h
  clear h
  have HC3 := Aside0.mk H
  clear H
  go_enter Try.func10, Try.ntmps10
  go_upto_region 1 with (first | ((with_reducible refine gate_dst (N := 2) rfl ?_); (try (refine gate_guard (by rfl) ?_; dsimp only)); refine box_event ?hg (N := 2) ?hd (cs := #[.slice A0_0 l0_0.length c0_0, .slice A0_1 l0_1.length c0_1]) (t := 25) ?hr ?_; (case hd => rfl); (case hg => rfl); (case hr => first | (go_simp; done) | (go_simp; rfl)); intro gb380 hg w4 hbox hb; have n0_ := Aside0.mk (below_step (by repeat (first | (with_reducible first | exact HB.out | apply below_alloc | apply pw_below_drewN | apply below_drew1) | exact HB.out)) hb); have n1_ := Aside0.mk (hbox); have n2_ := Aside0.mk ((by rw [hg]; exact (below_size (by repeat (first | (with_reducible first | exact HB.out | apply below_alloc | apply pw_below_drewN | apply below_drew1) | exact HB.out))) : w.heap.size ≤ gb380)); have n3_ := Aside0.mk ((by rw [hg]; exact (below_size (by repeat (first | (with_reducible first | exact HB.out | apply below_alloc | apply pw_below_drewN | apply below_drew1) | exact HB.out))) : w.heap.size ≤ gb380)); clear HB; have HB := n0_; have BK380 := n1_; have GW380 := n2_; have GE380 := n3_; clear n0_ n1_ n2_ n3_; clear hb hbox hg))
  (try simp only [Act.put, List.setIfInBounds_toArray, List.set_cons_zero, List.set_cons_succ])
  go_cut [16] (fun v16 wc => ∃ (kq : Nat) (x16_2 : Bool), v16 = .bool x16_2 ∧ Aside0 (rondeauref09_Few.j0 kq a1 x16_2 l0_0 l0_1 = some r) ∧ Aside0 (kq ≤ k) ∧ Aside0 (wc.heap[gb380]? = some (.cells #[(.slice A0_0 l0_0.length c0_0), (.slice A0_1 l0_1.length c0_1)] 25 (0, 0))) ∧ Aside0 (Below w.heap.size w wc))
  case first =>
    have H := HC3.out
    clear HC3
    by_cases c5 : (l0_0.length : Int) > 10
    · rw [if_pos c5] at H
      have c5b0 : decide (10 < (l0_0.length : Int)) = true := decide_eq_true c5
      have c5b1 : decide (10 < l0_0.length) = true := decide_eq_true (by omega)
      clear c5
      (first | rw [c5b0] | (simp only [i64_w, i32_w]; rw [c5b0]) | skip)
      have H' := Aside0.mk H
      clear H
      have hcz6_0 : w4.cell? ⟨gb380, 0, none⟩ = some (.slice A0_0 l0_0.length c0_0) := (blk_cell BK380.out 0).trans rfl
      have hcz6_1 : w4.cell? ⟨gb380, 1, none⟩ = some (.slice A0_1 l0_1.length c0_1) := (blk_cell BK380.out 1).trans rfl
      have hfz6_0 := blk_frozen BK380.out 0
      have hfz6_1 := blk_frozen BK380.out 1
      go_wp2
      go_meet
      case rel => exact ⟨_, (true), (by first | rfl | (simp; done) | (simp [*]; done)), H', ⟨by first | omega | exact Nat.le_refl _⟩, ⟨by (with_reducible repeat (first | refine blk_drewN ?_ _ | refine blk_drew ?_ | refine blk_alloc ?_ _)); exact BK380.out⟩, ⟨by repeat (first | (with_reducible first | exact HB.out | apply below_alloc | apply pw_below_drewN | apply below_drew1 | refine below_set ?_ GE380.out) | exact HB.out)⟩⟩
    · rw [if_neg c5] at H
      have c5b0 : decide (10 < (l0_0.length : Int)) = false := decide_eq_false c5
      have c5b1 : decide (10 < l0_0.length) = false := decide_eq_false (by omega)
      clear c5
      (first | rw [c5b0] | (simp only [i64_w, i32_w]; rw [c5b0]) | skip)
      have H' := Aside0.mk H
      clear H
      have hcz7_0 : w4.cell? ⟨gb380, 0, none⟩ = some (.slice A0_0 l0_0.length c0_0) := (blk_cell BK380.out 0).trans rfl
      have hcz7_1 : w4.cell? ⟨gb380, 1, none⟩ = some (.slice A0_1 l0_1.length c0_1) := (blk_cell BK380.out 1).trans rfl
      have hfz7_0 := blk_frozen BK380.out 0
      have hfz7_1 := blk_frozen BK380.out 1
      go_wp2
      go_meet
      case rel => exact ⟨_, (decide ((l0_1.length : Int) > 10)), (by first | rfl | (simp; done) | (simp [*]; done)), H', ⟨by first | omega | exact Nat.le_refl _⟩, ⟨by (with_reducible repeat (first | refine blk_drewN ?_ _ | refine blk_drew ?_ | refine blk_alloc ?_ _)); exact BK380.out⟩, ⟨by repeat (first | (with_reducible first | exact HB.out | apply below_alloc | apply pw_below_drewN | apply below_drew1 | refine below_set ?_ GE380.out) | exact HB.out)⟩⟩
  case rest =>
    clear HC3
    try clear c1
    try clear p2
    try clear c5
    try clear c5b0
    try clear c5b1
    try clear hcz6_0
    try clear hcz6_1
    try clear hcz7_0
    try clear hcz7_1
    try clear hfz6_0
    try clear hfz6_1
    try clear hfz7_0
    try clear hfz7_1
    obtain ⟨kq, x16_2, rfl, HA, HJ2, BK380, HB⟩ := hcut
    cases kq with
    | zero => exact absurd HA.out (by simp [rondeauref09_Few.j0])
    | succ kj2 =>
      have H := HA.out
      clear HA
      simp only [rondeauref09_Few.j0] at H
      by_cases c8 : x16_2 = true
      · subst c8
        have H1 : (some false) = some r := by rw [if_pos rfl] at H; exact H
        clear H
        have H := H1
        clear H1
        obtain rfl := Option.some.inj H
        go_wp2
        go_ret
        exact ⟨by first | rfl | (simp [errW_none, errW_some] <;> rfl) | (simp [*, errW_none, errW_some] <;> rfl), by repeat (first | (with_reducible first | exact HB.out | apply below_alloc | apply pw_below_drewN | apply below_drew1 | refine below_set ?_ GE380.out) | exact HB.out)⟩
      · replace c8 := Bool.eq_false_iff.mpr c8
        subst c8
        have H1 : (rondeauref09_Few.l0 kj2 a1 0 0 l0_0 l0_1) = some r := by rw [if_neg (show ¬ (false = true) by decide)] at H; exact H
        clear H
        have H := H1
        clear H1
        have H' := Aside0.mk H
        clear H
        go_wp2
        go_loopg [5, 6] kj2 (fun kq v5 v6 w' => ∃ (x5_2 : Int) (x6_2 : Int), v5 = .int .i64 x5_2 ∧ v6 = .int .i64 x6_2 ∧ Aside0 (rondeauref09_Few.l0 kq a1 x5_2 x6_2 l0_0 l0_1 = some r) ∧ Aside0 (kq ≤ kj2) ∧ Aside0 (w'.heap[gb380]? = some (.cells #[(.slice A0_0 l0_0.length c0_0), (.slice A0_1 l0_1.length c0_1)] 25 (0, 0))) ∧ Aside0 (Below w.heap.size w w'))
        case atStart => exact ⟨(0), (0), (by first | rfl | (simp; done) | (simp [*]; done)), (by first | rfl | (simp; done) | (simp [*]; done)), H', ⟨Nat.le_refl _⟩, ⟨by (with_reducible repeat (first | refine blk_drewN ?_ _ | refine blk_drew ?_ | refine blk_alloc ?_ _)); exact BK380.out⟩, ⟨by repeat (first | (with_reducible first | exact HB.out | apply below_alloc | apply pw_below_drewN | apply below_drew1 | refine below_set ?_ GE380.out) | exact HB.out)⟩⟩
        case round =>
          clear H'
          try clear c1
          try clear p2
          try clear c5
          try clear c5b0
          try clear c5b1
          try clear c8
          try clear hcz6_0
          try clear hcz6_1
          try clear hcz7_0
          try clear hcz7_1
          try clear hfz6_0
          try clear hfz6_1
          try clear hfz7_0
          try clear hfz7_1
          try clear p2
          obtain ⟨x5_2, x6_2, rfl, rfl, HA, HK2, BK380, HB⟩ := hrel
          cases gk with
          | zero => exact absurd HA.out (by simp [rondeauref09_Few.l0])
          | succ k2 =>
            have H := HA.out
            clear HA
            simp only [rondeauref09_Few.l0] at H
            by_cases c9 : x6_2 < (l0_1.length : Int)
            · rw [if_pos c9] at H
              have c9b0 : decide (x6_2 < (l0_1.length : Int)) = true := decide_eq_true c9
              clear c9
              by_cases c10 : 0 ≤ x6_2
              · rw [if_pos c10] at H
                have c10b0 : decide (0 ≤ x6_2) = true := decide_eq_true c10
                clear c10
                by_cases c11 : ((rd_L4 l0_1 x6_2).length : Int) > a1
                · rw [if_pos c11] at H
                  have c11b0 : decide (a1 < ((rd_L4 l0_1 x6_2).length : Int)) = true := decide_eq_true c11
                  clear c11
                  obtain rfl := Option.some.inj H
                  have hcz12_0 : wr.cell? ⟨gb380, 0, none⟩ = some (.slice A0_0 l0_0.length c0_0) := (blk_cell BK380.out 0).trans rfl
                  have hcz12_1 : wr.cell? ⟨gb380, 1, none⟩ = some (.slice A0_1 l0_1.length c0_1) := (blk_cell BK380.out 1).trans rfl
                  have hfz12_0 := blk_frozen BK380.out 0
                  have hfz12_1 := blk_frozen BK380.out 1
                  have p381 : 0 ≤ (x6_2 : Int) := of_decide_eq_true (by first | (with_reducible assumption) | assumption)
                  have q381 : x6_2 < (l0_1.length : Int) := of_decide_eq_true (by first | (with_reducible assumption) | assumption)
                  obtain ⟨ad381, A381_0, c381_0, e381, hx381_0, hl381_0, hi381_0⟩ := at_L4 HR0_1.out x6_2 p381 q381
                  cases e381
                  replace hx381_0 := (HB.out.cell (World.block_lt_of_cell? w _ hx381_0)).trans hx381_0
                  have HR381_0 := Aside0.mk hi381_0
                  have HC381_0 := Aside0.mk hl381_0
                  clear hi381_0 hl381_0
                  replace p381 := eq_true p381
                  replace q381 := eq_true q381
                  go_wp2
                  go_ret
                  exact ⟨by first | rfl | (simp [errW_none, errW_some] <;> rfl) | (simp [*, errW_none, errW_some] <;> rfl), by repeat (first | (with_reducible first | exact HB.out | apply below_alloc | apply pw_below_drewN | apply below_drew1 | refine below_set ?_ GE380.out) | exact HB.out)⟩
                · rw [if_neg c11] at H
                  have c11b0 : decide (a1 < ((rd_L4 l0_1 x6_2).length : Int)) = false := decide_eq_false c11
                  clear c11
                  have H' := Aside0.mk H
                  clear H
                  have hcz13_0 : wr.cell? ⟨gb380, 0, none⟩ = some (.slice A0_0 l0_0.length c0_0) := (blk_cell BK380.out 0).trans rfl
                  have hcz13_1 : wr.cell? ⟨gb380, 1, none⟩ = some (.slice A0_1 l0_1.length c0_1) := (blk_cell BK380.out 1).trans rfl
                  have hfz13_0 := blk_frozen BK380.out 0
                  have hfz13_1 := blk_frozen BK380.out 1
                  have p381 : 0 ≤ (x6_2 : Int) := of_decide_eq_true (by first | (with_reducible assumption) | assumption)
                  have q381 : x6_2 < (l0_1.length : Int) := of_decide_eq_true (by first | (with_reducible assumption) | assumption)
                  obtain ⟨ad381, A381_0, c381_0, e381, hx381_0, hl381_0, hi381_0⟩ := at_L4 HR0_1.out x6_2 p381 q381
                  cases e381
                  replace hx381_0 := (HB.out.cell (World.block_lt_of_cell? w _ hx381_0)).trans hx381_0
                  have HR381_0 := Aside0.mk hi381_0
                  have HC381_0 := Aside0.mk hl381_0
                  clear hi381_0 hl381_0
                  replace p381 := eq_true p381
                  replace q381 := eq_true q381
                  have p382 : 0 ≤ (x6_2 : Int) := of_decide_eq_true (by first | (with_reducible assumption) | assumption)
                  have q382 : x6_2 < (l0_1.length : Int) := of_decide_eq_true (by first | (with_reducible assumption) | assumption)
                  obtain ⟨ad382, A382_0, c382_0, e382, hx382_0, hl382_0, hi382_0⟩ := at_L4 HR0_1.out x6_2 p382 q382
                  obtain rfl : ad381 = ad382 := (by injection e382)
                  replace hx382_0 := (HB.out.cell (World.block_lt_of_cell? w _ hx382_0)).trans hx382_0
                  have HR382_0 := Aside0.mk hi382_0
                  have HC382_0 := Aside0.mk hl382_0
                  clear hi382_0 hl382_0
                  replace p382 := eq_true p382
                  replace q382 := eq_true q382
                  have ea_ := Option.some.inj (hx381_0.symm.trans hx382_0)
                  injection ea_ with ea_ en_ ec_
                  subst ea_
                  subst ec_
                  clear en_
                  go_wp2
                  go_roundg k2
                  case measure => have := HJ2.out; have := HK2.out; omega
                  case rel => exact ⟨(wrap64 (x5_2 + ((rd_L4 l0_1 x6_2).length : Int))), (wrap64 (x6_2 + 1)), (by first | rfl | (simp; done) | (simp [*]; done)), (by first | rfl | (simp; done) | (simp [*]; done)), H', ⟨by have := HJ2.out; have := HK2.out; omega⟩, ⟨by (with_reducible repeat (first | refine blk_drewN ?_ _ | refine blk_drew ?_ | refine blk_alloc ?_ _)); exact BK380.out⟩, ⟨by repeat (first | (with_reducible first | exact HB.out | apply below_alloc | apply pw_below_drewN | apply below_drew1 | refine below_set ?_ GE380.out) | exact HB.out)⟩⟩
              · rw [if_neg c10] at H
                exact absurd H (by simp)
            · rw [if_neg c9] at H
              have c9b0 : decide (x6_2 < (l0_1.length : Int)) = false := decide_eq_false c9
              clear c9
              obtain rfl := Option.some.inj H
              have hcz14_0 : wr.cell? ⟨gb380, 0, none⟩ = some (.slice A0_0 l0_0.length c0_0) := (blk_cell BK380.out 0).trans rfl
              have hcz14_1 : wr.cell? ⟨gb380, 1, none⟩ = some (.slice A0_1 l0_1.length c0_1) := (blk_cell BK380.out 1).trans rfl
              have hfz14_0 := blk_frozen BK380.out 0
              have hfz14_1 := blk_frozen BK380.out 1
              go_wp2
              go_ret
              exact ⟨by first | rfl | (simp [errW_none, errW_some] <;> rfl) | (simp [*, errW_none, errW_some] <;> rfl), by repeat (first | (with_reducible first | exact HB.out | apply below_alloc | apply pw_below_drewN | apply below_drew1 | refine below_set ?_ GE380.out) | exact HB.out)⟩

/-! ### rondeauref09_Copy: function 12 -/
def rondeauref09_Copy.l0 : Nat → Int → List (S55) → List (List (S48)) → List (S55) → List (List (S48)) → Option ((List (S55)) × (List (List (S48))))
  | 0, _, _, _, _, _ => none
  | k + 1, x4, x384000, x384001, x392000, x392001 => if x4 < (x384001.length : Int) then ((some (([] : List (S48)) : List (S48))).bind fun y392 => (if 0 ≤ x4 then (if y392.length + (rd_L4 x384001 x4).length < 2932031007402 then (if x392001.length < 5864062014805 then (rondeauref09_Copy.l0 k (wrap64 (x4 + 1)) x384000 x384001 x392000 (x392001 ++ [(y392 ++ (rd_L4 x384001 x4))])) else (none)) else (none)) else (none))) else (some (x392000, x392001))
def rondeauref09_Copy.f (k : Nat) (l0_0 : List (S55)) (l0_1 : List (List (S48))) : Option ((List (S55)) × (List (List (S48)))) := (some (([] : List (S55)) : List (S55))).bind fun y385 => (if y385.length + l0_0.length < 5864062014805 then (rondeauref09_Copy.l0 k 0 l0_0 l0_1 (y385 ++ l0_0) ([] : List (List (S48)))) else (none))
theorem rondeauref09_Copy.mono_l : ∀ k, (∀ y0 y1 y2 y3 y4, LeO (rondeauref09_Copy.l0 k y0 y1 y2 y3 y4) (rondeauref09_Copy.l0 (k + 1) y0 y1 y2 y3 y4))
  | 0 => fun _ _ _ _ _ r h => by simp [rondeauref09_Copy.l0] at h
  | k + 1 => by
    have ih0 := rondeauref09_Copy.mono_l k
    · intro y0 y1 y2 y3 y4
      unfold rondeauref09_Copy.l0
      repeat' first
      | (with_reducible exact ih0 _ _ _ _ _)
      | (with_reducible exact LeO.refl _)
      | (with_reducible exact LeO.none _)
      | (with_reducible refine LeO.ite ?_ ?_)
      | (with_reducible refine LeO.bind ?_ (fun _ => ?_))
      | exact ih0 _ _ _ _ _
      | exact LeO.none _
      | refine LeO.ite ?_ ?_
      | refine LeO.bind ?_ (fun _ => ?_)
theorem rondeauref09_Copy.mono : ∀ a0 a1 k, LeO (rondeauref09_Copy.f k a0 a1) (rondeauref09_Copy.f (k + 1) a0 a1) := by
  intro a0 a1 k
  have ih0 := rondeauref09_Copy.mono_l k
  unfold rondeauref09_Copy.f
  repeat' first
      | (with_reducible exact ih0 _ _ _ _ _)
      | (with_reducible exact LeO.refl _)
      | (with_reducible exact LeO.none _)
      | (with_reducible refine LeO.ite ?_ ?_)
      | (with_reducible refine LeO.bind ?_ (fun _ => ?_))
      | exact ih0 _ _ _ _ _
      | exact LeO.none _
      | refine LeO.ite ?_ ?_
      | refine LeO.bind ?_ (fun _ => ?_)
def rondeauref09_Copy.T5 : Bool × List (List Nat × List Nat) := (true, [([], []), ([0], [0]), ([], []), ([], []), ([3], [3]), ([], []), ([4, 5], [4, 5]), ([6], [6]), ([2, 7], [2, 7]), ([8], [8]), ([1, 9, 8], [1, 9]), ([0, 1, 2, 3, 4, 5, 6, 7, 8, 9, 10], []), ([11, 10, 10, 0, 1, 2, 3, 4, 5, 6, 7, 8, 9, 10], [10, 11])])
def rondeauref09_Copy.B5 : List Nat := [0, 1, 0, 0, 8, 0, 56, 120, 252, 508, 1023, 2047, 4095]
theorem rondeauref09_Copy.tab5 : rtab .any (opsOf Try.f12 5) = rondeauref09_Copy.T5 := by kernel_rfl
theorem rondeauref09_Copy.bits5 : waitsOk rondeauref09_Copy.T5.2 rondeauref09_Copy.B5 = true := by kernel_rfl
set_option maxHeartbeats 8000000 in
set_option maxRecDepth 100000 in
theorem rondeauref09_Copy.calls (k : Nat) (A0_0 : Option Addr) (c0_0 : Nat) (l0_0 : List (S55)) (A0_1 : Option Addr) (c0_1 : Nat) (l0_1 : List (List (S48))) (r1 : List (S55)) (r2 : List (List (S48))) (w : World) (hr0_0 : Kd.C k55 w A0_0 l0_0.length l0_0) (hc0_0 : l0_0.length ≤ c0_0) (hr0_1 : Kd.C (Kd.slice 48 k48) w A0_1 l0_1.length l0_1) (hc0_1 : l0_1.length ≤ c0_1) (h : rondeauref09_Copy.f k l0_0 l0_1 = some (r1, r2)) :
    Calls Try.prog 12 #[.agg #[.slice A0_0 l0_0.length c0_0, .slice A0_1 l0_1.length c0_1]] w fun e w' => ∃ v0_ v1_ : Value, e = .returned (.agg #[v0_, v1_]) ∧ Kd.R k55 55 w' w.heap.size (fun _ => True) v0_ r1 ∧ Kd.S (Kd.slice 48 k48) 44 w' w.heap.size (fun _ => True) v1_ r2 ∧ Below w.heap.size w w' := by
  have hu25 := Try.underlying25
  have HR0_0 := Aside0.mk hr0_0
  have HC0_0 := Aside0.mk hc0_0
  clear hr0_0 hc0_0
  have HR0_1 := Aside0.mk hr0_1
  have HC0_1 := Aside0.mk hc0_1
  clear hr0_1 hc0_1
  have HB := Aside0.mk (Below.refl w.heap.size w)
  have H : ((some (([] : List (S55)) : List (S55))).bind fun y385 => (if y385.length + l0_0.length < 5864062014805 then (rondeauref09_Copy.l0 k 0 l0_0 l0_1 (y385 ++ l0_0) ([] : List (List (S48)))) else (none))) = some (r1, r2) := h
  clear h
  obtain ⟨y385, hy385⟩ : ∃ y_ : List (S55), y_ = (([] : List (S55))) := ⟨_, rfl⟩
  replace H : (if y385.length + l0_0.length < 5864062014805 then (rondeauref09_Copy.l0 k 0 l0_0 l0_1 (y385 ++ l0_0) ([] : List (List (S48)))) else (none)) = some (r1, r2) := by first | (rw [hy385]; with_reducible exact H) | (have H2_ := (Option.bind_some _ _).symm.trans H; rw [hy385]; with_reducible exact H2_) | (have H2_ := (Option.bind_some _ _).symm.trans H; with_reducible exact H2_) | with_reducible exact H | (rw [hy385]; exact H) | exact H
  have Ny385 := Aside0.mk hy385
  clear hy385
  by_cases c2 : y385.length + l0_0.length < 5864062014805
  · rw [if_pos c2] at H
    have LMc2 := Aside0.mk c2
    clear c2
    obtain ⟨y388, hy388⟩ : ∃ y_ : List (S55), y_ = (y385 ++ l0_0) := ⟨_, rfl⟩
    replace H : (rondeauref09_Copy.l0 k 0 l0_0 l0_1 y388 ([] : List (List (S48)))) = some (r1, r2) := by first | (rw [hy388]; with_reducible exact H) | (have H2_ := (Option.bind_some _ _).symm.trans H; rw [hy388]; with_reducible exact H2_) | (have H2_ := (Option.bind_some _ _).symm.trans H; with_reducible exact H2_) | with_reducible exact H | (rw [hy388]; exact H) | exact H
    have Ny388 := Aside0.mk hy388
    clear hy388
    have H' := Aside0.mk H
    clear H
    go_enter Try.func12, Try.ntmps12
    go_wp2_with (first | ((with_reducible refine gate_dst (N := 1) rfl ?_); refine box_event ?hg (N := 1) ?hd (cs := #[.slice A0_0 l0_0.length c0_0, .slice A0_1 l0_1.length c0_1]) (t := 25) ?hr ?_; (case hd => rfl); (case hg => rfl); (case hr => first | (go_simp; done) | (go_simp; rfl)); intro gb383 hg w3 hbox hb; have n0_ := Aside0.mk (below_step (by repeat (first | (with_reducible first | exact HB.out | apply below_alloc | apply pw_below_drewN | apply below_drew1) | exact HB.out)) hb); have n1_ := Aside0.mk (hbox); have n2_ := Aside0.mk ((by rw [hg]; exact (below_size (by repeat (first | (with_reducible first | exact HB.out | apply below_alloc | apply pw_below_drewN | apply below_drew1) | exact HB.out))) : w.heap.size ≤ gb383)); have n3_ := Aside0.mk ((by rw [hg]; exact (below_size (by repeat (first | (with_reducible first | exact HB.out | apply below_alloc | apply pw_below_drewN | apply below_drew1) | exact HB.out))) : w.heap.size ≤ gb383)); clear HB; have HB := n0_; have BK383 := n1_; have GW383 := n2_; have GE383 := n3_; clear n0_ n1_ n2_ n3_; clear hb hbox hg) | ((with_reducible refine gate_dst (N := 2) rfl ?_); refine box_event ?hg (N := 2) ?hd (cs := #[.slice none 0 0, .slice none 0 0]) (t := 25) ?hr ?_; (case hd => rfl); (case hg => rfl); (case hr => first | (go_simp; done) | (go_simp; rfl)); intro gb384 hg w4 hbox hb; have n0_ := Aside0.mk (blk_below (g := gb383) (o := .cells #[.slice A0_0 l0_0.length c0_0, .slice A0_1 l0_1.length c0_1] 25 (0, 0)) (by (with_reducible repeat (first | refine blk_drewN ?_ _ | refine blk_drew ?_ | refine blk_alloc ?_ _)); exact BK383.out) hb); have n1_ := Aside0.mk (below_step (by repeat (first | (with_reducible first | exact HB.out | apply below_alloc | apply pw_below_drewN | apply below_drew1 | refine below_set ?_ GE383.out) | exact HB.out)) hb); have n2_ := Aside0.mk (hbox); have n3_ := Aside0.mk ((by rw [hg]; exact (below_size (by repeat (first | (with_reducible first | exact HB.out | apply below_alloc | apply pw_below_drewN | apply below_drew1 | refine below_set ?_ GE383.out) | exact HB.out))) : w.heap.size ≤ gb384)); have n4_ := Aside0.mk ((by rw [hg]; exact (below_size (by repeat (first | (with_reducible first | exact HB.out | apply below_alloc | apply pw_below_drewN | apply below_drew1 | refine below_set ?_ GE383.out) | exact HB.out))) : w.heap.size ≤ gb384)); have n5_ := Aside0.mk ((by rw [hg]; exact Nat.ne_of_lt (blk_lt (g := gb383) (o := .cells #[.slice A0_0 l0_0.length c0_0, .slice A0_1 l0_1.length c0_1] 25 (0, 0)) (by (with_reducible repeat (first | refine blk_drewN ?_ _ | refine blk_drew ?_ | refine blk_alloc ?_ _)); exact BK383.out)) : gb383 ≠ gb384)); have n6_ := Aside0.mk ((by rw [hg]; exact Nat.ne_of_gt (blk_lt (g := gb383) (o := .cells #[.slice A0_0 l0_0.length c0_0, .slice A0_1 l0_1.length c0_1] 25 (0, 0)) (by (with_reducible repeat (first | refine blk_drewN ?_ _ | refine blk_drew ?_ | refine blk_alloc ?_ _)); exact BK383.out)) : gb384 ≠ gb383)); clear BK383; clear HB; have BK383 := n0_; have HB := n1_; have BK384 := n2_; have GW384 := n3_; have GE384 := n4_; have NB383_384 := n5_; have NB384_383 := n6_; clear n0_ n1_ n2_ n3_ n4_ n5_ n6_; clear hb hbox hg) | ((with_reducible refine gate_dst (N := 5) rfl ?_); refine Kd.R_lit k55 _ 55 ?hg (N := 5) ?hd (xs := ([] : List (S55))) (inner := []) (ok := fun _ => True) (okp := fun _ => True) ?hr ?hp (fun _ hk => hk) trivial (Below.refl _ _) (Nat.le_refl _) (by simp) ?_; (case hd => rfl); (case hg => rfl); (case hr => first | (go_simp; done) | (go_simp; rfl)); (case hp => exact (Reps.none _ _)); intro v386 w5 ho6 hb hg_ hnew_; clear hg_ hnew_; (first | rw [← Ny385.out] at ho6 | (simp only [Int.reduceToNat] at ho6; rw [← Ny385.out] at ho6)); have n0_ := Aside0.mk (Kd.R_lower ho6 (below_size (by repeat (first | (with_reducible first | exact HB.out | apply below_alloc | apply pw_below_drewN | apply below_drew1 | refine below_set ?_ GE383.out | refine below_set ?_ GE384.out) | exact HB.out)))); have n1_ := Aside0.mk (blk_below (g := gb383) (o := .cells #[.slice A0_0 l0_0.length c0_0, .slice A0_1 l0_1.length c0_1] 25 (0, 0)) (by (with_reducible repeat (first | refine blk_drewN ?_ _ | refine blk_drew ?_ | refine blk_alloc ?_ _)); exact BK383.out) hb); have n2_ := Aside0.mk (blk_below (g := gb384) (o := .cells #[.slice none 0 0, .slice none 0 0] 25 (0, 0)) (by (with_reducible repeat (first | refine blk_drewN ?_ _ | refine blk_drew ?_ | refine blk_alloc ?_ _)); exact BK384.out) hb); have n3_ := Aside0.mk (below_step (by repeat (first | (with_reducible first | exact HB.out | apply below_alloc | apply pw_below_drewN | apply below_drew1 | refine below_set ?_ GE383.out | refine below_set ?_ GE384.out) | exact HB.out)) hb); clear BK383; clear BK384; clear HB; have HO387 := n0_; have BK383 := n1_; have BK384 := n2_; have HB := n3_; clear n0_ n1_ n2_ n3_; clear hb ho6; have hnb7 := NB383_384.out; have hnc7 := NB384_383.out; have hcz8_0 : w5.cell? ⟨gb383, 0, none⟩ = some (.slice A0_0 l0_0.length c0_0) := (blk_cell BK383.out 0).trans rfl; have hcz8_1 : w5.cell? ⟨gb383, 1, none⟩ = some (.slice A0_1 l0_1.length c0_1) := (blk_cell BK383.out 1).trans rfl; have hfz8_0 := blk_frozen BK383.out 0; have hfz8_1 := blk_frozen BK383.out 1) | ((with_reducible refine gate_builtin (b := .append) (xs := #[.tmp 5, .tmp 7]) rfl ?_); at_builtin; refine Kd.R_append_rows k55 (w0 := w) w.heap.size rfl (.tmp 5) (.tmp 7) 22 55 (.agg #[(.int .i64 0), (.int .i64 0), (.int .i64 0)]) 24 rfl Try.underlying22 info55 rfl (by decide) (by omega) v386 y385 l0_0 _ _ _ (fun _ => True) (fun _ => False) rfl rfl ?aO ?aR (fun _ _ h => h) (fun _ h => h.elim) ?aF ?aB ?aS ?aL ?_; (case aR => repeat (first | exact (Kd.C_below HR0_0.out HB.out) | (with_reducible refine Kd.C_alloc ?_ _) | (with_reducible refine Kd.C_drewN ?_ _) | (with_reducible refine Kd.C_drew ?_))); (case aB => exact (by repeat (first | (with_reducible first | exact HB.out | apply below_alloc | apply pw_below_drewN | apply below_drew1 | refine below_set ?_ GE383.out | refine below_set ?_ GE384.out) | exact HB.out))); (case aF => exact (fun _ _ => trivial)); (case aO => exact (by (with_reducible repeat (first | apply Kd.R_alloc | apply Kd.R_drewN | apply Kd.R_drew)); exact HO387.out)); (case aS => exact (below_size (by repeat (first | (with_reducible first | exact HB.out | apply below_alloc | apply pw_below_drewN | apply below_drew1 | refine below_set ?_ GE383.out | refine below_set ?_ GE384.out) | exact HB.out)))); (case aL => have := LMc2.out; omega); intro v389 w9 ho hb hg hat; rw [← Ny388.out] at ho; have n0_ := Aside0.mk (blk_grown (g := gb383) (o := .cells #[.slice A0_0 l0_0.length c0_0, .slice A0_1 l0_1.length c0_1] 25 (0, 0)) (by (with_reducible repeat (first | refine blk_drewN ?_ _ | refine blk_drew ?_ | refine blk_alloc ?_ _)); exact BK383.out) hg (Kd.R_ne HO387.out BK383.out (by decide))); have n1_ := Aside0.mk (blk_grown (g := gb384) (o := .cells #[.slice none 0 0, .slice none 0 0] 25 (0, 0)) (by (with_reducible repeat (first | refine blk_drewN ?_ _ | refine blk_drew ?_ | refine blk_alloc ?_ _)); exact BK384.out) hg (Kd.R_ne HO387.out BK384.out (by decide))); have n2_ := Aside0.mk (hb); have n3_ := Aside0.mk (ho); clear BK383; clear BK384; clear HB; clear HO387; have BK383 := n0_; have BK384 := n1_; have HB := n2_; have HO390 := n3_; clear n0_ n1_ n2_ n3_; clear ho hb hg hat; obtain ⟨Ao10, co10, eo10⟩ := Kd.R_slice HO390.out; subst eo10) | ((with_reducible refine gate_dst (N := 3) rfl ?_); refine box_event ?hg (N := 3) ?hd (cs := #[.slice none 0 0, .slice none 0 0]) (t := 25) ?hr ?_; (case hd => rfl); (case hg => rfl); (case hr => first | (go_simp; done) | (go_simp; rfl)); intro gb391 hg w11 hbox hb; have n0_ := Aside0.mk (Kd.R_below (by (with_reducible repeat (first | apply Kd.R_alloc | apply Kd.R_drewN | apply Kd.R_drew)); exact HO390.out) hb); have n1_ := Aside0.mk (blk_below (g := gb383) (o := .cells #[.slice A0_0 l0_0.length c0_0, .slice A0_1 l0_1.length c0_1] 25 (0, 0)) (by (with_reducible repeat (first | refine blk_drewN ?_ _ | refine blk_drew ?_ | refine blk_alloc ?_ _)); exact BK383.out) hb); have n2_ := Aside0.mk (blk_below (g := gb384) (o := .cells #[.slice none 0 0, .slice none 0 0] 25 (0, 0)) (by (with_reducible repeat (first | refine blk_drewN ?_ _ | refine blk_drew ?_ | refine blk_alloc ?_ _)); exact BK384.out) hb); have n3_ := Aside0.mk (below_step (by repeat (first | (with_reducible first | exact HB.out | apply below_alloc | apply pw_below_drewN | apply below_drew1 | refine below_set ?_ GE383.out | refine below_set ?_ GE384.out) | exact HB.out)) hb); have n4_ := Aside0.mk (hbox); have n5_ := Aside0.mk ((by rw [hg]; exact (below_size (by repeat (first | (with_reducible first | exact HB.out | apply below_alloc | apply pw_below_drewN | apply below_drew1 | refine below_set ?_ GE383.out | refine below_set ?_ GE384.out) | exact HB.out))) : w.heap.size ≤ gb391)); have n6_ := Aside0.mk ((by rw [hg]; exact (below_size (by repeat (first | (with_reducible first | exact HB.out | apply below_alloc | apply pw_below_drewN | apply below_drew1 | refine below_set ?_ GE383.out | refine below_set ?_ GE384.out) | exact HB.out))) : w.heap.size ≤ gb391)); have n7_ := Aside0.mk ((by rw [hg]; exact Nat.ne_of_lt (blk_lt (g := gb383) (o := .cells #[.slice A0_0 l0_0.length c0_0, .slice A0_1 l0_1.length c0_1] 25 (0, 0)) (by (with_reducible repeat (first | refine blk_drewN ?_ _ | refine blk_drew ?_ | refine blk_alloc ?_ _)); exact BK383.out)) : gb383 ≠ gb391)); have n8_ := Aside0.mk ((by rw [hg]; exact Nat.ne_of_gt (blk_lt (g := gb383) (o := .cells #[.slice A0_0 l0_0.length c0_0, .slice A0_1 l0_1.length c0_1] 25 (0, 0)) (by (with_reducible repeat (first | refine blk_drewN ?_ _ | refine blk_drew ?_ | refine blk_alloc ?_ _)); exact BK383.out)) : gb391 ≠ gb383)); have n9_ := Aside0.mk ((by rw [hg]; exact Nat.ne_of_lt (blk_lt (g := gb384) (o := .cells #[.slice none 0 0, .slice none 0 0] 25 (0, 0)) (by (with_reducible repeat (first | refine blk_drewN ?_ _ | refine blk_drew ?_ | refine blk_alloc ?_ _)); exact BK384.out)) : gb384 ≠ gb391)); have n10_ := Aside0.mk ((by rw [hg]; exact Nat.ne_of_gt (blk_lt (g := gb384) (o := .cells #[.slice none 0 0, .slice none 0 0] 25 (0, 0)) (by (with_reducible repeat (first | refine blk_drewN ?_ _ | refine blk_drew ?_ | refine blk_alloc ?_ _)); exact BK384.out)) : gb391 ≠ gb384)); clear HO390; clear BK383; clear BK384; clear HB; have HO390 := n0_; have BK383 := n1_; have BK384 := n2_; have HB := n3_; have BK391 := n4_; have GW391 := n5_; have GE391 := n6_; have NB383_391 := n7_; have NB391_383 := n8_; have NB384_391 := n9_; have NB391_384 := n10_; clear n0_ n1_ n2_ n3_ n4_ n5_ n6_ n7_ n8_ n9_ n10_; clear hb hbox hg; have hnb12 := NB391_383.out; have hnc12 := NB383_391.out; have hnb13 := NB391_384.out; have hnc13 := NB384_391.out; have hcz14_0 : w11.cell? ⟨gb391, 0, none⟩ = some (.slice none 0 0) := (blk_cell BK391.out 0).trans rfl; have hcz14_1 : w11.cell? ⟨gb391, 1, none⟩ = some (.slice none 0 0) := (blk_cell BK391.out 1).trans rfl; have hfz14_0 := blk_frozen BK391.out 0; have hfz14_1 := blk_frozen BK391.out 1))
    go_loopg [4] k (fun kq v4 w' => ∃ (x4_1 : Int) (x392001_1 : List (List (S48))) (u392001 : Value), v4 = .int .i64 x4_1 ∧ Aside0 (rondeauref09_Copy.l0 kq x4_1 l0_0 l0_1 y388 x392001_1 = some (r1, r2)) ∧ Aside0 (kq ≤ k) ∧ Aside0 (Kd.R k55 55 w' w.heap.size (fun _ => True) (.slice Ao10 y388.length co10) y388) ∧ Aside0 (Kd.S (Kd.slice 48 k48) 44 w' w.heap.size (fun _ => True) u392001 x392001_1) ∧ Aside0 (w'.heap[gb383]? = some (.cells #[(.slice A0_0 l0_0.length c0_0), (.slice A0_1 l0_1.length c0_1)] 25 (0, 0))) ∧ Aside0 (w'.heap[gb384]? = some (.cells #[(.slice none 0 0), (.slice none 0 0)] 25 (0, 0))) ∧ Aside0 (w'.heap[gb391]? = some (.cells #[(.slice Ao10 y388.length co10), u392001] 25 (0, 0))) ∧ Aside0 (Below w.heap.size w w'))
    case atStart => exact ⟨(0), (([] : List (List (S48)))), (.slice none 0 0), (by first | rfl | (simp; done) | (simp [*]; done)), H', ⟨Nat.le_refl _⟩, ⟨by (with_reducible repeat (first | apply Kd.R_alloc | apply Kd.R_drewN | apply Kd.R_drew)); exact Kd.R_mono (Kd.R_far (p := ⟨gb391, 1, none⟩) (Kd.R_far (p := ⟨gb391, 0, none⟩) (Kd.R_types HO390.out BK391.out (by decide)) (fun _ hk => hk.2) (.slice Ao10 y388.length co10)) (fun _ hk => hk.2) (.slice none 0 0)) (fun _ hk => trivial)⟩, ⟨by first | exact Kd.S_nil _ _ _ _ _ | exact Kd.N_nil _ _ _ _ _ | exact Kd.V_nil _ _ _ _ _ | exact Kd.Q_nil _ _ _ _ _ | exact Kd.R_nil _ _ _ _ _⟩, ⟨by (with_reducible repeat (first | refine blk_drewN ?_ _ | refine blk_drew ?_ | refine blk_alloc ?_ _)); refine blk_far ?_ NB383_391.out _; (with_reducible repeat (first | refine blk_drewN ?_ _ | refine blk_drew ?_ | refine blk_alloc ?_ _)); refine blk_far ?_ NB383_391.out _; (with_reducible repeat (first | refine blk_drewN ?_ _ | refine blk_drew ?_ | refine blk_alloc ?_ _)); exact BK383.out⟩, ⟨by (with_reducible repeat (first | refine blk_drewN ?_ _ | refine blk_drew ?_ | refine blk_alloc ?_ _)); refine blk_far ?_ NB384_391.out _; (with_reducible repeat (first | refine blk_drewN ?_ _ | refine blk_drew ?_ | refine blk_alloc ?_ _)); refine blk_far ?_ NB384_391.out _; (with_reducible repeat (first | refine blk_drewN ?_ _ | refine blk_drew ?_ | refine blk_alloc ?_ _)); exact BK384.out⟩, ⟨by (with_reducible repeat (first | refine blk_drewN ?_ _ | refine blk_drew ?_ | refine blk_alloc ?_ _)); refine blk_put (cs := #[.slice Ao10 y388.length co10, .slice none 0 0]) ?_ 1 _ rfl; (with_reducible repeat (first | refine blk_drewN ?_ _ | refine blk_drew ?_ | refine blk_alloc ?_ _)); refine blk_put (cs := #[.slice none 0 0, .slice none 0 0]) ?_ 0 _ rfl; (with_reducible repeat (first | refine blk_drewN ?_ _ | refine blk_drew ?_ | refine blk_alloc ?_ _)); exact BK391.out⟩, ⟨by repeat (first | (with_reducible first | exact HB.out | apply below_alloc | apply pw_below_drewN | apply below_drew1 | refine below_set ?_ GE383.out | refine below_set ?_ GE384.out | refine below_set ?_ GE391.out) | exact HB.out)⟩⟩
    case round =>
      clear H'
      try clear c1
      try clear c2
      try clear p2
      try clear c7
      try clear c12
      try clear c13
      try clear hcz14_0
      try clear hcz14_1
      try clear hcz8_0
      try clear hcz8_1
      try clear hfz14_0
      try clear hfz14_1
      try clear hfz8_0
      try clear hfz8_1
      obtain ⟨x4_1, x392001_1, u392001, rfl, HA, HK1, HO_392000, HO_392001, BK383, BK384, BK391, HB⟩ := hrel
      cases gk with
      | zero => exact absurd HA.out (by simp [rondeauref09_Copy.l0])
      | succ k1 =>
        have H := HA.out
        clear HA
        simp only [rondeauref09_Copy.l0] at H
        by_cases c15 : x4_1 < (l0_1.length : Int)
        · rw [if_pos c15] at H
          have c15b0 : decide (x4_1 < (l0_1.length : Int)) = true := decide_eq_true c15
          clear c15
          obtain ⟨y392, hy392⟩ : ∃ y_ : List (S48), y_ = (([] : List (S48))) := ⟨_, rfl⟩
          replace H : (if 0 ≤ x4_1 then (if y392.length + (rd_L4 l0_1 x4_1).length < 2932031007402 then (if x392001_1.length < 5864062014805 then (rondeauref09_Copy.l0 k1 (wrap64 (x4_1 + 1)) l0_0 l0_1 y388 (x392001_1 ++ [(y392 ++ (rd_L4 l0_1 x4_1))])) else (none)) else (none)) else (none)) = some (r1, r2) := by first | (rw [hy392]; with_reducible exact H) | (have H2_ := (Option.bind_some _ _).symm.trans H; rw [hy392]; with_reducible exact H2_) | (have H2_ := (Option.bind_some _ _).symm.trans H; with_reducible exact H2_) | with_reducible exact H | (rw [hy392]; exact H) | exact H
          have Ny392 := Aside0.mk hy392
          clear hy392
          by_cases c16 : 0 ≤ x4_1
          · rw [if_pos c16] at H
            have c16b0 : decide (0 ≤ x4_1) = true := decide_eq_true c16
            clear c16
            by_cases c17 : y392.length + (rd_L4 l0_1 x4_1).length < 2932031007402
            · rw [if_pos c17] at H
              have LMc17 := Aside0.mk c17
              clear c17
              obtain ⟨y396, hy396⟩ : ∃ y_ : List (S48), y_ = (y392 ++ (rd_L4 l0_1 x4_1)) := ⟨_, rfl⟩
              replace H : (if x392001_1.length < 5864062014805 then (rondeauref09_Copy.l0 k1 (wrap64 (x4_1 + 1)) l0_0 l0_1 y388 (x392001_1 ++ [y396])) else (none)) = some (r1, r2) := by first | (rw [hy396]; with_reducible exact H) | (have H2_ := (Option.bind_some _ _).symm.trans H; rw [hy396]; with_reducible exact H2_) | (have H2_ := (Option.bind_some _ _).symm.trans H; with_reducible exact H2_) | with_reducible exact H | (rw [hy396]; exact H) | exact H
              have Ny396 := Aside0.mk hy396
              clear hy396
              by_cases c18 : x392001_1.length < 5864062014805
              · rw [if_pos c18] at H
                have LMc18 := Aside0.mk c18
                clear c18
                obtain ⟨y399, hy399⟩ : ∃ y_ : List (List (S48)), y_ = (x392001_1 ++ [y396]) := ⟨_, rfl⟩
                replace H : (rondeauref09_Copy.l0 k1 (wrap64 (x4_1 + 1)) l0_0 l0_1 y388 y399) = some (r1, r2) := by first | (rw [hy399]; with_reducible exact H) | (have H2_ := (Option.bind_some _ _).symm.trans H; rw [hy399]; with_reducible exact H2_) | (have H2_ := (Option.bind_some _ _).symm.trans H; with_reducible exact H2_) | with_reducible exact H | (rw [hy399]; exact H) | exact H
                have Ny399 := Aside0.mk hy399
                clear hy399
                have H' := Aside0.mk H
                clear H
                have hnb19 := NB383_384.out
                have hnc19 := NB384_383.out
                have hnb20 := NB383_391.out
                have hnc20 := NB391_383.out
                have hcz21_0 : wr.cell? ⟨gb383, 0, none⟩ = some (.slice A0_0 l0_0.length c0_0) := (blk_cell BK383.out 0).trans rfl
                have hcz21_1 : wr.cell? ⟨gb383, 1, none⟩ = some (.slice A0_1 l0_1.length c0_1) := (blk_cell BK383.out 1).trans rfl
                have hfz21_0 := blk_frozen BK383.out 0
                have hfz21_1 := blk_frozen BK383.out 1
                try go_wp2
                have n0_ := Aside0.mk (Kd.R_drew HO_392000.out)
                have n1_ := Aside0.mk (Kd.S_drew HO_392001.out)
                have n2_ := Aside0.mk (blk_drew BK383.out)
                have n3_ := Aside0.mk (blk_drew BK384.out)
                have n4_ := Aside0.mk (blk_drew BK391.out)
                have n5_ := Aside0.mk (below_drew1 HB.out)
                clear HO_392000
                clear HO_392001
                clear BK383
                clear BK384
                clear BK391
                clear HB
                have HO_392000 := n0_
                have HO_392001 := n1_
                have BK383 := n2_
                have BK384 := n3_
                have BK391 := n4_
                have HB := n5_
                clear n0_ n1_ n2_ n3_ n4_ n5_
                have p395 : 0 ≤ (x4_1 : Int) := of_decide_eq_true (by first | (with_reducible assumption) | assumption)
                have q395 : x4_1 < (l0_1.length : Int) := of_decide_eq_true (by first | (with_reducible assumption) | assumption)
                obtain ⟨ad395, A395_0, c395_0, e395, hx395_0, hl395_0, hi395_0⟩ := at_L4 HR0_1.out x4_1 p395 q395
                have hw395_0 := hx395_0
                cases e395
                replace hx395_0 := (HB.out.cell (World.block_lt_of_cell? w _ hx395_0)).trans hx395_0
                have HR395_0 := Aside0.mk hi395_0
                have HC395_0 := Aside0.mk hl395_0
                clear hi395_0 hl395_0
                replace p395 := eq_true p395
                replace q395 := eq_true q395
                refine start_ (n := 13) (S := fun w' => w'.cell? ⟨gb391, 0, none⟩ = some (.slice Ao10 y388.length co10) ∧ w'.cell? ⟨gb391, 1, none⟩ = some (u392001) ∧ w'.cell? ⟨gb383, 0, none⟩ = some (.slice A0_0 l0_0.length c0_0) ∧ w'.cell? ⟨gb383, 1, none⟩ = some (.slice (some ad395) l0_1.length c0_1) ∧ w'.cell? (ad395.add (x4_1).toNat) = some (.slice A395_0 (rd_L4 l0_1 x4_1).length c395_0)) (ds := [12]) #[false, false, false, false, false, false, false, false, false, false, false, false, false] (by kernel_rfl) rfl rfl ⟨(blk_cell BK391.out 0).trans rfl, (blk_cell BK391.out 1).trans rfl, (blk_cell BK383.out 0).trans rfl, (blk_cell BK383.out 1).trans rfl, ((HB.out.cell (World.block_lt_of_cell? w _ hw395_0)).trans hw395_0)⟩ (fun hHeld => ?_); refine with_tabW rondeauref09_Copy.tab5 rondeauref09_Copy.bits5 (fun HT_ HW_ => ?_)
                generalize wr.drew = w22 at HO_392000 HO_392001 BK383 BK384 BK391 HB HR395_0 hx395_0 hHeld ⊢
                refine pure_ (i := 0) (N := some 17) (v := ?_) (a' := ?_) #[true, false, false, false, false, false, false, false, false, false, false, false, false] rfl rfl (any_of HT_.out (by kernel_rfl)) (fun _ _ _ h => h) (Or.inl ⟨by rfl, ?_⟩) ?_ ?_
                rotate_left
                · intro w'
                  go_simp
                  with_reducible rfl
                rotate_left
                · simp only [Act.put, List.setIfInBounds_toArray, List.set_cons_zero, List.set_cons_succ, i64_w, i32_w]
                  rfl
                refine pure_ (i := 3) (N := some 20) (v := ?_) (a' := ?_) #[true, false, false, true, false, false, false, false, false, false, false, false, false] rfl rfl (any_of HT_.out (by kernel_rfl)) (fun _ _ _ h => h) (Or.inl ⟨by rfl, ?_⟩) ?_ ?_
                rotate_left
                · intro w'
                  go_simp
                  with_reducible rfl
                rotate_left
                · simp only [Act.put, List.setIfInBounds_toArray, List.set_cons_zero, List.set_cons_succ, i64_w, i32_w]
                  rfl
                refine pure_ (i := 5) (N := some 22) (v := ?_) (a' := ?_) #[true, false, false, true, false, true, false, false, false, false, false, false, false] rfl rfl (any_of HT_.out (by kernel_rfl)) (fun _ _ _ h => h) (Or.inl ⟨by rfl, ?_⟩) ?_ ?_
                rotate_left
                · intro w'
                  go_simp
                  with_reducible rfl
                rotate_left
                · simp only [Act.put, List.setIfInBounds_toArray, List.set_cons_zero, List.set_cons_succ, i64_w, i32_w]
                  rfl
                refine take_ (i := 1) (N := some 18) (v := ?_) (a' := ?_) #[true, true, false, true, false, true, false, false, false, false, false, false, false] rfl rfl (take_ofW HT_.out HW_.out (by kernel_rfl)) (fun _ _ _ h => h) (Or.inl ⟨by rfl, ?_⟩) hHeld ?_ ?_
                rotate_left
                · rintro w' ⟨s0, s1, s2, s3, s4⟩
                  go_simp
                  with_reducible rfl
                rotate_left
                · simp only [Act.put, List.setIfInBounds_toArray, List.set_cons_zero, List.set_cons_succ, i64_w, i32_w]
                  rfl
                refine take_ (i := 4) (N := some 21) (v := ?_) (a' := ?_) #[true, true, false, true, true, true, false, false, false, false, false, false, false] rfl rfl (take_ofW HT_.out HW_.out (by kernel_rfl)) (fun _ _ _ h => h) (Or.inl ⟨by rfl, ?_⟩) hHeld ?_ ?_
                rotate_left
                · rintro w' ⟨s0, s1, s2, s3, s4⟩
                  go_simp
                  with_reducible rfl
                rotate_left
                · simp only [Act.put, List.setIfInBounds_toArray, List.set_cons_zero, List.set_cons_succ, i64_w, i32_w]
                  rfl
                refine pure_ (i := 6) (N := some 23) (v := ?_) (a' := ?_) #[true, true, false, true, true, true, true, false, false, false, false, false, false] rfl rfl (any_of HT_.out (by kernel_rfl)) (fun _ _ _ h => h) (Or.inl ⟨by rfl, ?_⟩) ?_ ?_
                rotate_left
                · intro w'
                  go_simp
                  with_reducible rfl
                rotate_left
                · simp only [Act.put, List.setIfInBounds_toArray, List.set_cons_zero, List.set_cons_succ, i64_w, i32_w]
                  rfl
                refine take_ (i := 7) (N := some 24) (v := ?_) (a' := ?_) #[true, true, false, true, true, true, true, true, false, false, false, false, false] rfl rfl (take_ofW HT_.out HW_.out (by kernel_rfl)) (fun _ _ _ h => h) (Or.inl ⟨by rfl, ?_⟩) hHeld ?_ ?_
                rotate_left
                · rintro w' ⟨s0, s1, s2, s3, s4⟩
                  go_simp
                  with_reducible rfl
                rotate_left
                · simp only [Act.put, List.setIfInBounds_toArray, List.set_cons_zero, List.set_cons_succ, i64_w, i32_w]
                  rfl
                refine one_ (i := 2) (N := some 19) #[true, true, true, true, true, true, true, true, false, false, false, false, false] rfl rfl (one_of HT_.out (by kernel_rfl)) (by decide) (fun K hK => ?_)
                refine Kd.R_lit_step k48 _ 48 ?hg (N := 19) ?hd (xs := ([] : List (S48))) (inner := []) (ok := fun _ => True) (okp := fun _ => True) ?hr ?hp (fun _ hk => hk) trivial (Below.refl _ _) (Nat.le_refl _) (by simp) ?_; (case hd => rfl); (case hg => rfl); (case hr => first | (go_simp; done) | (go_simp; rfl)); (case hp => exact (Reps.none _ _))
                intro v393 w23 ho24 hb hg_ hnew_
                clear hg_ hnew_
                (first | rw [← Ny392.out] at ho24 | (simp only [Int.reduceToNat] at ho24; rw [← Ny392.out] at ho24))
                have n0_ := Aside0.mk (Kd.R_below (by (with_reducible repeat (first | apply Kd.R_alloc | apply Kd.R_drewN | apply Kd.R_drew)); exact HO_392000.out) hb)
                have n1_ := Aside0.mk (Kd.S_elder' (by (with_reducible repeat (first | apply Kd.S_alloc | apply Kd.S_drewN | apply Kd.S_drew)); exact HO_392001.out) (Kd.R_base ho24) hb)
                have n2_ := Aside0.mk (Kd.R_lower ho24 (below_size (by repeat (first | (with_reducible first | exact HB.out | apply below_alloc | apply pw_below_drewN | apply below_drew1 | refine below_set ?_ GE383.out | refine below_set ?_ GE384.out | refine below_set ?_ GE391.out) | exact HB.out))))
                have n3_ := Aside0.mk (blk_below (g := gb383) (o := .cells #[.slice A0_0 l0_0.length c0_0, .slice (some ad395) l0_1.length c0_1] 25 (0, 0)) (by (with_reducible repeat (first | refine blk_drewN ?_ _ | refine blk_drew ?_ | refine blk_alloc ?_ _)); exact BK383.out) hb)
                have n4_ := Aside0.mk (blk_below (g := gb384) (o := .cells #[.slice none 0 0, .slice none 0 0] 25 (0, 0)) (by (with_reducible repeat (first | refine blk_drewN ?_ _ | refine blk_drew ?_ | refine blk_alloc ?_ _)); exact BK384.out) hb)
                have n5_ := Aside0.mk (blk_below (g := gb391) (o := .cells #[.slice Ao10 y388.length co10, u392001] 25 (0, 0)) (by (with_reducible repeat (first | refine blk_drewN ?_ _ | refine blk_drew ?_ | refine blk_alloc ?_ _)); exact BK391.out) hb)
                have n6_ := Aside0.mk (below_step (by repeat (first | (with_reducible first | exact HB.out | apply below_alloc | apply pw_below_drewN | apply below_drew1 | refine below_set ?_ GE383.out | refine below_set ?_ GE384.out | refine below_set ?_ GE391.out) | exact HB.out)) hb)
                clear HO_392000
                clear HO_392001
                clear BK383
                clear BK384
                clear BK391
                clear HB
                have HO_392000 := n0_
                have HO_392001 := n1_
                have HO394 := n2_
                have BK383 := n3_
                have BK384 := n4_
                have BK391 := n5_
                have HB := n6_
                clear n0_ n1_ n2_ n3_ n4_ n5_ n6_
                clear hb ho24
                refine hK.out _ _ ⟨(blk_cell BK391.out 0).trans rfl, (blk_cell BK391.out 1).trans rfl, (blk_cell BK383.out 0).trans rfl, (blk_cell BK383.out 1).trans rfl, ((HB.out.cell (World.block_lt_of_cell? w _ hw395_0)).trans hw395_0)⟩ (fun hHeld => ?_)
                clear hK K
                refine norm_ (a' := ?_) ?_ ?_
                rotate_left
                · show Act.put _ (some 19) _ = _
                  simp only [Act.put, List.setIfInBounds_toArray, List.set_cons_zero, List.set_cons_succ, i64_w, i32_w]
                  rfl
                refine one_ (i := 8) (N := some 25) #[true, true, true, true, true, true, true, true, true, false, false, false, false] rfl rfl (one_of HT_.out (by kernel_rfl)) (by decide) (fun K hK => ?_)
                refine Kd.R_append_rows_step k48 (w0 := w) w.heap.size (by rfl) (.tmp 19) (.tmp 24) 44 48 (.agg #[(.int .i64 0), (.int .i64 0), (.int .i64 0), (.int .i64 0), (.int .i64 0), (.int .u64 0)]) 48 rfl Try.underlying44 info48 rfl (by decide) (by omega) v393 y392 (rd_L4 l0_1 x4_1) _ _ _ (fun _ => True) (fun _ => False) rfl rfl ?aO ?aR (fun _ _ h => h) (fun _ h => h.elim) ?aF ?aB ?aS ?aL ?_
                (case aR => repeat (first | exact (Kd.C_below HR395_0.out HB.out) | (with_reducible refine Kd.C_alloc ?_ _) | (with_reducible refine Kd.C_drewN ?_ _) | (with_reducible refine Kd.C_drew ?_)))
                (case aB => exact (by repeat (first | (with_reducible first | exact HB.out | apply below_alloc | apply pw_below_drewN | apply below_drew1 | refine below_set ?_ GE383.out | refine below_set ?_ GE384.out | refine below_set ?_ GE391.out) | exact HB.out)))
                (case aF => exact (fun _ _ => trivial))
                (case aO => exact (by (with_reducible repeat (first | apply Kd.R_alloc | apply Kd.R_drewN | apply Kd.R_drew)); exact HO394.out))
                (case aS => exact (below_size (by repeat (first | (with_reducible first | exact HB.out | apply below_alloc | apply pw_below_drewN | apply below_drew1 | refine below_set ?_ GE383.out | refine below_set ?_ GE384.out | refine below_set ?_ GE391.out) | exact HB.out))))
                (case aL => have := LMc17.out; omega)
                intro v397 w25 ho hb hg hat
                rw [← Ny396.out] at ho
                have n0_ := Aside0.mk (Kd.R_over' (by (with_reducible repeat (first | apply Kd.R_alloc | apply Kd.R_drewN | apply Kd.R_drew)); exact HO_392000.out) (Kd.R_typed (by (with_reducible repeat (first | apply Kd.R_alloc | apply Kd.R_drewN | apply Kd.R_drew)); exact HO394.out)) (by decide) hg)
                have n1_ := Aside0.mk (Kd.S_after (ok := (fun _ => True)) (by (with_reducible repeat (first | apply Kd.S_alloc | apply Kd.S_drewN | apply Kd.S_drew)); exact HO_392001.out) hg hat)
                have n2_ := Aside0.mk (blk_grown (g := gb383) (o := .cells #[.slice A0_0 l0_0.length c0_0, .slice (some ad395) l0_1.length c0_1] 25 (0, 0)) (by (with_reducible repeat (first | refine blk_drewN ?_ _ | refine blk_drew ?_ | refine blk_alloc ?_ _)); exact BK383.out) hg (Kd.R_ne HO394.out BK383.out (by decide)))
                have n3_ := Aside0.mk (blk_grown (g := gb384) (o := .cells #[.slice none 0 0, .slice none 0 0] 25 (0, 0)) (by (with_reducible repeat (first | refine blk_drewN ?_ _ | refine blk_drew ?_ | refine blk_alloc ?_ _)); exact BK384.out) hg (Kd.R_ne HO394.out BK384.out (by decide)))
                have n4_ := Aside0.mk (blk_grown (g := gb391) (o := .cells #[.slice Ao10 y388.length co10, u392001] 25 (0, 0)) (by (with_reducible repeat (first | refine blk_drewN ?_ _ | refine blk_drew ?_ | refine blk_alloc ?_ _)); exact BK391.out) hg (Kd.R_ne HO394.out BK391.out (by decide)))
                have n5_ := Aside0.mk (hb)
                have n6_ := Aside0.mk (ho)
                clear HO_392000
                clear HO_392001
                clear BK383
                clear BK384
                clear BK391
                clear HB
                clear HO394
                have HO_392000 := n0_
                have HO_392001 := n1_
                have BK383 := n2_
                have BK384 := n3_
                have BK391 := n4_
                have HB := n5_
                have HO398 := n6_
                clear n0_ n1_ n2_ n3_ n4_ n5_ n6_
                clear ho hb hg hat
                obtain ⟨Ao27, co27, eo27⟩ := Kd.R_slice HO398.out
                (first | subst eo27 | (injection eo27 with f1_ f2_ f3_; have f4_ := f1_.symm; have f5_ := f3_.symm; clear f1_ f2_ f3_; subst f4_; subst f5_))
                refine hK.out _ _ ⟨(blk_cell BK391.out 0).trans rfl, (blk_cell BK391.out 1).trans rfl, (blk_cell BK383.out 0).trans rfl, (blk_cell BK383.out 1).trans rfl, ((HB.out.cell (World.block_lt_of_cell? w _ hw395_0)).trans hw395_0)⟩ (fun hHeld => ?_)
                clear hK K
                refine norm_ (a' := ?_) ?_ ?_
                rotate_left
                · show Act.put _ (some 25) _ = _
                  simp only [Act.put, List.setIfInBounds_toArray, List.set_cons_zero, List.set_cons_succ, i64_w, i32_w]
                  rfl
                refine one_ (i := 9) (N := some 26) #[true, true, true, true, true, true, true, true, true, true, false, false, false] rfl rfl (one_of HT_.out (by kernel_rfl)) (by decide) (fun K hK => ?_)
                refine value_ (w1 := ?_) (v := ?_) (by rfl) rfl ?_ ?_
                rotate_left 2
                · go_simp
                  constructor
                  · rfl
                  · rfl
                refine hK.out _ _ ⟨(blk_cell (blk_alloc BK391.out _) 0).trans rfl, (blk_cell (blk_alloc BK391.out _) 1).trans rfl, (blk_cell (blk_alloc BK383.out _) 0).trans rfl, (blk_cell (blk_alloc BK383.out _) 1).trans rfl, (World.cell?_alloc_lt _ _ _ (World.block_lt_of_cell? _ _ (((HB.out.cell (World.block_lt_of_cell? w _ hw395_0)).trans hw395_0)))).trans (((HB.out.cell (World.block_lt_of_cell? w _ hw395_0)).trans hw395_0))⟩ (fun hHeld => ?_)
                clear hK K
                refine norm_ (a' := ?_) ?_ ?_
                rotate_left
                · show Act.put _ (some 26) _ = _
                  simp only [Act.put, List.setIfInBounds_toArray, List.set_cons_zero, List.set_cons_succ, i64_w, i32_w]
                  rfl
                refine one_ (i := 10) (N := some 27) #[true, true, true, true, true, true, true, true, true, true, true, false, false] rfl rfl (one_of HT_.out (by kernel_rfl)) (by decide) (fun K hK => ?_)
                refine Kd.S_append_step (Kd.slice 48 k48) (w0 := w) w.heap.size (by rfl) (.tmp 18) (.tmp 26) 23 44 (.slice none 0 0) 24 rfl Try.underlying23 info44 rfl (by decide) (by omega) u392001 x392001_1 y396 [.slice Ao27 y396.length co27] (fun _ => True) (fun k_ => some k_ = (.slice Ao27 y396.length co27 : Value).ownBlock) rfl rfl ?aP (fun k_ hk_ => ((Kd.R_mono (ok' := fun k_ => ((fun _ => True)) k_ ∧ some k_ ≠ (u392001 : Value).ownBlock) (Kd.R_apart' (HO398.out) (Kd.S_typed HO_392001.out) (by decide)) (fun k_ hk => ⟨trivial, hk.2⟩))).1 k_ hk_.symm) ?aF ?aO ?aB ?aS ?aL ?_
                (case aP => exact Kd.M_row (Kd.R_mono (Kd.R_tight rfl (Kd.R_mono (ok' := fun k_ => ((fun _ => True)) k_ ∧ some k_ ≠ (u392001 : Value).ownBlock) (Kd.R_apart' (HO398.out) (Kd.S_typed HO_392001.out) (by decide)) (fun k_ hk => ⟨trivial, hk.2⟩))) (fun _ h_ => h_)))
                (case aB => exact (by repeat (first | (with_reducible first | exact HB.out | apply below_alloc | apply pw_below_drewN | apply below_drew1 | refine below_set ?_ GE383.out | refine below_set ?_ GE384.out | refine below_set ?_ GE391.out) | exact HB.out)))
                (case aF => exact (fun _ _ => trivial))
                (case aO => exact (by (with_reducible repeat (first | apply Kd.S_alloc | apply Kd.S_drewN | apply Kd.S_drew)); exact Kd.S_mono HO_392001.out (fun k_ hk => ⟨trivial, fun e_ => hk.2 e_⟩)))
                (case aS => exact (below_size (by repeat (first | (with_reducible first | exact HB.out | apply below_alloc | apply pw_below_drewN | apply below_drew1 | refine below_set ?_ GE383.out | refine below_set ?_ GE384.out | refine below_set ?_ GE391.out) | exact HB.out))))
                (case aL => have := LMc18.out; omega)
                intro v400 w26 ho hb hg hat
                rw [← Ny399.out] at ho
                have n0_ := Aside0.mk (Kd.R_over' (by (with_reducible repeat (first | apply Kd.R_alloc | apply Kd.R_drewN | apply Kd.R_drew)); exact HO_392000.out) (Kd.S_typed (by (with_reducible repeat (first | apply Kd.S_alloc | apply Kd.S_drewN | apply Kd.S_drew)); exact HO_392001.out)) (by decide) hg)
                have n1_ := Aside0.mk (blk_grown (g := gb383) (o := .cells #[.slice A0_0 l0_0.length c0_0, .slice (some ad395) l0_1.length c0_1] 25 (0, 0)) (by (with_reducible repeat (first | refine blk_drewN ?_ _ | refine blk_drew ?_ | refine blk_alloc ?_ _)); exact BK383.out) hg (Kd.S_ne HO_392001.out BK383.out (by decide)))
                have n2_ := Aside0.mk (blk_grown (g := gb384) (o := .cells #[.slice none 0 0, .slice none 0 0] 25 (0, 0)) (by (with_reducible repeat (first | refine blk_drewN ?_ _ | refine blk_drew ?_ | refine blk_alloc ?_ _)); exact BK384.out) hg (Kd.S_ne HO_392001.out BK384.out (by decide)))
                have n3_ := Aside0.mk (blk_grown (g := gb391) (o := .cells #[.slice Ao10 y388.length co10, u392001] 25 (0, 0)) (by (with_reducible repeat (first | refine blk_drewN ?_ _ | refine blk_drew ?_ | refine blk_alloc ?_ _)); exact BK391.out) hg (Kd.S_ne HO_392001.out BK391.out (by decide)))
                have n4_ := Aside0.mk (hb)
                have n5_ := Aside0.mk (ho)
                clear HO_392000
                clear BK383
                clear BK384
                clear BK391
                clear HB
                clear HO_392001
                clear HO398
                have HO_392000 := n0_
                have BK383 := n1_
                have BK384 := n2_
                have BK391 := n3_
                have HB := n4_
                have HO401 := n5_
                clear n0_ n1_ n2_ n3_ n4_ n5_
                clear ho hb hg hat
                obtain ⟨Ao28, co28, eo28⟩ := Kd.S_slice HO401.out
                (first | subst eo28 | (injection eo28 with f1_ f2_ f3_; have f4_ := f1_.symm; have f5_ := f3_.symm; clear f1_ f2_ f3_; subst f4_; subst f5_))
                refine hK.out _ _ ⟨(blk_cell BK391.out 0).trans rfl, (blk_cell BK391.out 1).trans rfl, (blk_cell BK383.out 0).trans rfl, (blk_cell BK383.out 1).trans rfl, ((HB.out.cell (World.block_lt_of_cell? w _ hw395_0)).trans hw395_0)⟩ (fun hHeld => ?_)
                clear hK K
                refine norm_ (a' := ?_) ?_ ?_
                rotate_left
                · show Act.put _ (some 27) _ = _
                  simp only [Act.put, List.setIfInBounds_toArray, List.set_cons_zero, List.set_cons_succ, i64_w, i32_w]
                  rfl
                refine pure_ (i := 11) (N := some 28) (v := ?_) (a' := ?_) #[true, true, true, true, true, true, true, true, true, true, true, true, false] rfl rfl (any_of HT_.out (by kernel_rfl)) (fun _ _ _ h => h) (Or.inl ⟨by rfl, ?_⟩) ?_ ?_
                rotate_left
                · intro w'
                  go_simp
                  with_reducible rfl
                rotate_left
                · simp only [Act.put, List.setIfInBounds_toArray, List.set_cons_zero, List.set_cons_succ, i64_w, i32_w]
                  rfl
                refine last_ (i := 12) (N := none) #[true, true, true, true, true, true, true, true, true, true, true, true, true] rfl rfl (one_of HT_.out (by kernel_rfl)) (by decide) (fun K hK => ?_)
                have hs29 : w26.cell? ⟨gb391, 1, none⟩ = some (u392001) := (blk_cell BK391.out 1).trans rfl
                have hfs29 := blk_frozen BK391.out 1
                have hns29_0 := NB383_391.out
                have hns29_1 := NB384_391.out
                have hms29_0 := NB391_383.out
                have hms29_1 := NB391_384.out
                refine skip_ (w1 := ?_) (by rfl) rfl ?_ ?_
                rotate_left
                · go_simp
                  rfl
                refine hK.out _ _ ?_
                clear hK K
                refine done_ (done_of HT_.out (by kernel_rfl)) ?_
                try go_wp2
                go_roundg k1
                case measure => have := HK1.out; omega
                case rel => exact ⟨(wrap64 (x4_1 + 1)), (y399), (.slice Ao28 y399.length co28), (by first | rfl | (simp; done) | (simp [*]; done)), H', ⟨by have := HK1.out; omega⟩, ⟨by (with_reducible repeat (first | apply Kd.R_alloc | apply Kd.R_drewN | apply Kd.R_drew)); exact Kd.R_mono (Kd.R_far (p := ⟨gb391, 1, none⟩) (Kd.R_types HO_392000.out BK391.out (by decide)) (fun _ hk => hk.2) (.slice Ao28 y399.length co28)) (fun _ hk => trivial)⟩, ⟨by (with_reducible repeat (first | apply Kd.S_alloc | apply Kd.S_drewN | apply Kd.S_drew)); exact Kd.S_mono (Kd.S_far (p := ⟨gb391, 1, none⟩) (Kd.S_types HO401.out BK391.out (by decide)) (fun _ hk => hk.2) (.slice Ao28 y399.length co28)) (fun _ hk => trivial)⟩, ⟨by (with_reducible repeat (first | refine blk_drewN ?_ _ | refine blk_drew ?_ | refine blk_alloc ?_ _)); refine blk_far ?_ NB383_391.out _; (with_reducible repeat (first | refine blk_drewN ?_ _ | refine blk_drew ?_ | refine blk_alloc ?_ _)); exact BK383.out⟩, ⟨by (with_reducible repeat (first | refine blk_drewN ?_ _ | refine blk_drew ?_ | refine blk_alloc ?_ _)); refine blk_far ?_ NB384_391.out _; (with_reducible repeat (first | refine blk_drewN ?_ _ | refine blk_drew ?_ | refine blk_alloc ?_ _)); exact BK384.out⟩, ⟨by (with_reducible repeat (first | refine blk_drewN ?_ _ | refine blk_drew ?_ | refine blk_alloc ?_ _)); refine blk_put (cs := #[.slice Ao10 y388.length co10, u392001]) ?_ 1 _ rfl; (with_reducible repeat (first | refine blk_drewN ?_ _ | refine blk_drew ?_ | refine blk_alloc ?_ _)); exact BK391.out⟩, ⟨by repeat (first | (with_reducible first | exact HB.out | apply below_alloc | apply pw_below_drewN | apply below_drew1 | refine below_set ?_ GE383.out | refine below_set ?_ GE384.out | refine below_set ?_ GE391.out) | exact HB.out)⟩⟩
              · rw [if_neg c18] at H
                exact absurd H (by simp)
            · rw [if_neg c17] at H
              exact absurd H (by simp)
          · rw [if_neg c16] at H
            exact absurd H (by simp)
        · rw [if_neg c15] at H
          have c15b0 : decide (x4_1 < (l0_1.length : Int)) = false := decide_eq_false c15
          clear c15
          simp only [Option.some.injEq, Prod.mk.injEq] at H
          obtain ⟨rfl, rfl⟩ := H
          have hnb30 := NB383_384.out
          have hnc30 := NB384_383.out
          have hnb31 := NB383_391.out
          have hnc31 := NB391_383.out
          have hcz32_0 : wr.cell? ⟨gb383, 0, none⟩ = some (.slice A0_0 l0_0.length c0_0) := (blk_cell BK383.out 0).trans rfl
          have hcz32_1 : wr.cell? ⟨gb383, 1, none⟩ = some (.slice A0_1 l0_1.length c0_1) := (blk_cell BK383.out 1).trans rfl
          have hfz32_0 := blk_frozen BK383.out 0
          have hfz32_1 := blk_frozen BK383.out 1
          have hnb33 := NB391_384.out
          have hnc33 := NB384_391.out
          have hcz34_0 : wr.cell? ⟨gb391, 0, none⟩ = some (.slice Ao10 y388.length co10) := (blk_cell BK391.out 0).trans rfl
          have hcz34_1 : wr.cell? ⟨gb391, 1, none⟩ = some (u392001) := (blk_cell BK391.out 1).trans rfl
          have hfz34_0 := blk_frozen BK391.out 0
          have hfz34_1 := blk_frozen BK391.out 1
          have hcz35_0 : wr.cell? ⟨gb384, 0, none⟩ = some (.slice none 0 0) := (blk_cell BK384.out 0).trans rfl
          have hcz35_1 : wr.cell? ⟨gb384, 1, none⟩ = some (.slice none 0 0) := (blk_cell BK384.out 1).trans rfl
          have hfz35_0 := blk_frozen BK384.out 0
          have hfz35_1 := blk_frozen BK384.out 1
          obtain ⟨Ao36, co36, eo36⟩ := Kd.S_slice HO_392001.out
          subst eo36
          go_wp2
          refine bodyPost_ret (results_cell_row rfl _ _ gb384 25 #[.slice Ao10 y388.length co10, .slice Ao36 x392001_1.length co36] (0, 0) _ rfl (by (with_reducible repeat (first | refine blk_drewN ?_ _ | refine blk_drew ?_ | refine blk_alloc ?_ _)); refine blk_put (cs := #[.slice Ao10 y388.length co10, .slice none 0 0]) ?_ 1 _ rfl; (with_reducible repeat (first | refine blk_drewN ?_ _ | refine blk_drew ?_ | refine blk_alloc ?_ _)); refine blk_put (cs := #[.slice none 0 0, .slice none 0 0]) ?_ 0 _ rfl; (with_reducible repeat (first | refine blk_drewN ?_ _ | refine blk_drew ?_ | refine blk_alloc ?_ _)); exact BK384.out) Try.underlying25 rfl (by kernel_rfl)) rfl ?_
          exact ⟨_, _, by first | rfl | (simp [errW_none, errW_some] <;> rfl) | (simp [*, errW_none, errW_some] <;> rfl), by (with_reducible repeat (first | apply Kd.R_alloc | apply Kd.R_drewN | apply Kd.R_drew)); exact Kd.R_mono (Kd.R_far (p := ⟨gb384, 1, none⟩) (Kd.R_far (p := ⟨gb384, 0, none⟩) (Kd.R_types HO_392000.out BK384.out (by decide)) (fun _ hk => hk.2) (.slice Ao10 y388.length co10)) (fun _ hk => hk.2) (.slice Ao36 x392001_1.length co36)) (fun _ hk => trivial), by (with_reducible repeat (first | apply Kd.S_alloc | apply Kd.S_drewN | apply Kd.S_drew)); exact Kd.S_mono (Kd.S_far (p := ⟨gb384, 1, none⟩) (Kd.S_far (p := ⟨gb384, 0, none⟩) (Kd.S_types HO_392001.out BK384.out (by decide)) (fun _ hk => hk.2) (.slice Ao10 y388.length co10)) (fun _ hk => hk.2) (.slice Ao36 x392001_1.length co36)) (fun _ hk => trivial), by repeat (first | (with_reducible first | exact HB.out | apply below_alloc | apply pw_below_drewN | apply below_drew1 | refine below_set ?_ GE383.out | refine below_set ?_ GE384.out | refine below_set ?_ GE391.out) | exact HB.out)⟩
  · rw [if_neg c2] at H
    exact absurd H (by simp)

/-! ### rondeauref11_ring: function 25 -/
def rondeauref11_ring.f (a0_0 : Int) (a0_1 : Int) (a0_2 : Int) : Option (Bool) := if a0_1 ≥ 1 then (if a0_1 ≤ 64 then (if a0_0 = 1 then (if a0_2 = 1 then (some true) else (if a0_0 = 2 then (if a0_2 ≥ 1 then (some (decide (a0_2 ≤ 8))) else (some false)) else (some false))) else (if a0_0 = 2 then (if a0_2 ≥ 1 then (some (decide (a0_2 ≤ 8))) else (some false)) else (some false))) else (some false)) else (some false)
set_option maxHeartbeats 8000000 in
set_option maxRecDepth 100000 in
theorem rondeauref11_ring.calls (a0_0 : Int) (a0_1 : Int) (a0_2 : Int) (r : Bool) (w : World) (h : rondeauref11_ring.f a0_0 a0_1 a0_2 = some r) :
    Calls Try.prog 25 #[.agg #[.int .i64 a0_0, .int .i64 a0_1, .int .i64 a0_2]] w fun e w' => e = .returned (.bool r) ∧ Below w.heap.size w w' := by
  have hu55 := Try.underlying55
  have HB := Aside0.mk (Below.refl w.heap.size w)
  have H : (if a0_1 ≥ 1 then (if a0_1 ≤ 64 then (if a0_0 = 1 then (if a0_2 = 1 then (some true) else (if a0_0 = 2 then (if a0_2 ≥ 1 then (some (decide (a0_2 ≤ 8))) else (some false)) else (some false))) else (if a0_0 = 2 then (if a0_2 ≥ 1 then (some (decide (a0_2 ≤ 8))) else (some false)) else (some false))) else (some false)) else (some false)) = some r := h
  clear h
  by_cases c2 : a0_1 ≥ 1
  · rw [if_pos c2] at H
    have c2b0 : decide (1 ≤ a0_1) = true := decide_eq_true c2
    clear c2
    by_cases c3 : a0_1 ≤ 64
    · rw [if_pos c3] at H
      have c3b0 : decide (a0_1 ≤ 64) = true := decide_eq_true c3
      clear c3
      by_cases c4 : a0_0 = 1
      · rw [if_pos c4] at H
        have c4b0 : (a0_0 == 1) = true := beq_iff_eq.mpr c4
        have c4b1 : (a0_0 != 1) = false := bne_eq_false_iff_eq.mpr c4
        clear c4
        by_cases c5 : a0_2 = 1
        · rw [if_pos c5] at H
          have c5b0 : (a0_2 == 1) = true := beq_iff_eq.mpr c5
          have c5b1 : (a0_2 != 1) = false := bne_eq_false_iff_eq.mpr c5
          clear c5
          obtain rfl := Option.some.inj H
          go_enter Try.func25, Try.ntmps25
          go_wp2_with (first | ((with_reducible refine gate_dst (N := 1) rfl ?_); refine box_event ?hg (N := 1) ?hd (cs := #[.int .i64 a0_0, .int .i64 a0_1, .int .i64 a0_2]) (t := 55) ?hr ?_; (case hd => rfl); (case hg => rfl); (case hr => first | (go_simp; done) | (go_simp; rfl)); intro gb402 hg w6 hbox hb; have n0_ := Aside0.mk (below_step (by repeat (first | (with_reducible first | exact HB.out | apply below_alloc | apply pw_below_drewN | apply below_drew1) | exact HB.out)) hb); have n1_ := Aside0.mk (hbox); have n2_ := Aside0.mk ((by rw [hg]; exact (below_size (by repeat (first | (with_reducible first | exact HB.out | apply below_alloc | apply pw_below_drewN | apply below_drew1) | exact HB.out))) : w.heap.size ≤ gb402)); have n3_ := Aside0.mk ((by rw [hg]; exact (below_size (by repeat (first | (with_reducible first | exact HB.out | apply below_alloc | apply pw_below_drewN | apply below_drew1) | exact HB.out))) : w.heap.size ≤ gb402)); clear HB; have HB := n0_; have BK402 := n1_; have GW402 := n2_; have GE402 := n3_; clear n0_ n1_ n2_ n3_; clear hb hbox hg; have hcz7_0 : w6.cell? ⟨gb402, 0, none⟩ = some (.int .i64 a0_0) := (blk_cell BK402.out 0).trans rfl; have hcz7_1 : w6.cell? ⟨gb402, 1, none⟩ = some (.int .i64 a0_1) := (blk_cell BK402.out 1).trans rfl; have hcz7_2 : w6.cell? ⟨gb402, 2, none⟩ = some (.int .i64 a0_2) := (blk_cell BK402.out 2).trans rfl; have hfz7_0 := blk_frozen BK402.out 0; have hfz7_1 := blk_frozen BK402.out 1; have hfz7_2 := blk_frozen BK402.out 2))
          go_ret
          exact ⟨by first | rfl | (simp [errW_none, errW_some] <;> rfl) | (simp [*, errW_none, errW_some] <;> rfl), by repeat (first | (with_reducible first | exact HB.out | apply below_alloc | apply pw_below_drewN | apply below_drew1 | refine below_set ?_ GE402.out) | exact HB.out)⟩
        · rw [if_neg c5] at H
          have c5b0 : (a0_2 == 1) = false := beq_eq_false_iff_ne.mpr c5
          have c5b1 : (a0_2 != 1) = true := bne_iff_ne.mpr c5
          by_cases c8 : a0_0 = 2
          · rw [if_pos c8] at H
            have c8b0 : (a0_0 == 2) = true := beq_iff_eq.mpr c8
            have c8b1 : (a0_0 != 2) = false := bne_eq_false_iff_eq.mpr c8
            clear c8
            by_cases c9 : a0_2 ≥ 1
            · rw [if_pos c9] at H
              have c9b0 : decide (1 ≤ a0_2) = true := decide_eq_true c9
              clear c9
              obtain rfl := Option.some.inj H
              go_enter Try.func25, Try.ntmps25
              go_wp2_with (first | ((with_reducible refine gate_dst (N := 1) rfl ?_); refine box_event ?hg (N := 1) ?hd (cs := #[.int .i64 a0_0, .int .i64 a0_1, .int .i64 a0_2]) (t := 55) ?hr ?_; (case hd => rfl); (case hg => rfl); (case hr => first | (go_simp; done) | (go_simp; rfl)); intro gb402 hg w10 hbox hb; have n0_ := Aside0.mk (below_step (by repeat (first | (with_reducible first | exact HB.out | apply below_alloc | apply pw_below_drewN | apply below_drew1) | exact HB.out)) hb); have n1_ := Aside0.mk (hbox); have n2_ := Aside0.mk ((by rw [hg]; exact (below_size (by repeat (first | (with_reducible first | exact HB.out | apply below_alloc | apply pw_below_drewN | apply below_drew1) | exact HB.out))) : w.heap.size ≤ gb402)); have n3_ := Aside0.mk ((by rw [hg]; exact (below_size (by repeat (first | (with_reducible first | exact HB.out | apply below_alloc | apply pw_below_drewN | apply below_drew1) | exact HB.out))) : w.heap.size ≤ gb402)); clear HB; have HB := n0_; have BK402 := n1_; have GW402 := n2_; have GE402 := n3_; clear n0_ n1_ n2_ n3_; clear hb hbox hg; have hcz11_0 : w10.cell? ⟨gb402, 0, none⟩ = some (.int .i64 a0_0) := (blk_cell BK402.out 0).trans rfl; have hcz11_1 : w10.cell? ⟨gb402, 1, none⟩ = some (.int .i64 a0_1) := (blk_cell BK402.out 1).trans rfl; have hcz11_2 : w10.cell? ⟨gb402, 2, none⟩ = some (.int .i64 a0_2) := (blk_cell BK402.out 2).trans rfl; have hfz11_0 := blk_frozen BK402.out 0; have hfz11_1 := blk_frozen BK402.out 1; have hfz11_2 := blk_frozen BK402.out 2))
              go_ret
              exact ⟨by first | rfl | (simp [errW_none, errW_some] <;> rfl) | (simp [*, errW_none, errW_some] <;> rfl), by repeat (first | (with_reducible first | exact HB.out | apply below_alloc | apply pw_below_drewN | apply below_drew1 | refine below_set ?_ GE402.out) | exact HB.out)⟩
            · rw [if_neg c9] at H
              have c9b0 : decide (1 ≤ a0_2) = false := decide_eq_false c9
              clear c9
              obtain rfl := Option.some.inj H
              go_enter Try.func25, Try.ntmps25
              go_wp2_with (first | ((with_reducible refine gate_dst (N := 1) rfl ?_); refine box_event ?hg (N := 1) ?hd (cs := #[.int .i64 a0_0, .int .i64 a0_1, .int .i64 a0_2]) (t := 55) ?hr ?_; (case hd => rfl); (case hg => rfl); (case hr => first | (go_simp; done) | (go_simp; rfl)); intro gb402 hg w12 hbox hb; have n0_ := Aside0.mk (below_step (by repeat (first | (with_reducible first | exact HB.out | apply below_alloc | apply pw_below_drewN | apply below_drew1) | exact HB.out)) hb); have n1_ := Aside0.mk (hbox); have n2_ := Aside0.mk ((by rw [hg]; exact (below_size (by repeat (first | (with_reducible first | exact HB.out | apply below_alloc | apply pw_below_drewN | apply below_drew1) | exact HB.out))) : w.heap.size ≤ gb402)); have n3_ := Aside0.mk ((by rw [hg]; exact (below_size (by repeat (first | (with_reducible first | exact HB.out | apply below_alloc | apply pw_below_drewN | apply below_drew1) | exact HB.out))) : w.heap.size ≤ gb402)); clear HB; have HB := n0_; have BK402 := n1_; have GW402 := n2_; have GE402 := n3_; clear n0_ n1_ n2_ n3_; clear hb hbox hg; have hcz13_0 : w12.cell? ⟨gb402, 0, none⟩ = some (.int .i64 a0_0) := (blk_cell BK402.out 0).trans rfl; have hcz13_1 : w12.cell? ⟨gb402, 1, none⟩ = some (.int .i64 a0_1) := (blk_cell BK402.out 1).trans rfl; have hcz13_2 : w12.cell? ⟨gb402, 2, none⟩ = some (.int .i64 a0_2) := (blk_cell BK402.out 2).trans rfl; have hfz13_0 := blk_frozen BK402.out 0; have hfz13_1 := blk_frozen BK402.out 1; have hfz13_2 := blk_frozen BK402.out 2))
              go_ret
              exact ⟨by first | rfl | (simp [errW_none, errW_some] <;> rfl) | (simp [*, errW_none, errW_some] <;> rfl), by repeat (first | (with_reducible first | exact HB.out | apply below_alloc | apply pw_below_drewN | apply below_drew1 | refine below_set ?_ GE402.out) | exact HB.out)⟩
          · rw [if_neg c8] at H
            have c8b0 : (a0_0 == 2) = false := beq_eq_false_iff_ne.mpr c8
            have c8b1 : (a0_0 != 2) = true := bne_iff_ne.mpr c8
            obtain rfl := Option.some.inj H
            go_enter Try.func25, Try.ntmps25
            go_wp2_with (first | ((with_reducible refine gate_dst (N := 1) rfl ?_); refine box_event ?hg (N := 1) ?hd (cs := #[.int .i64 a0_0, .int .i64 a0_1, .int .i64 a0_2]) (t := 55) ?hr ?_; (case hd => rfl); (case hg => rfl); (case hr => first | (go_simp; done) | (go_simp; rfl)); intro gb402 hg w14 hbox hb; have n0_ := Aside0.mk (below_step (by repeat (first | (with_reducible first | exact HB.out | apply below_alloc | apply pw_below_drewN | apply below_drew1) | exact HB.out)) hb); have n1_ := Aside0.mk (hbox); have n2_ := Aside0.mk ((by rw [hg]; exact (below_size (by repeat (first | (with_reducible first | exact HB.out | apply below_alloc | apply pw_below_drewN | apply below_drew1) | exact HB.out))) : w.heap.size ≤ gb402)); have n3_ := Aside0.mk ((by rw [hg]; exact (below_size (by repeat (first | (with_reducible first | exact HB.out | apply below_alloc | apply pw_below_drewN | apply below_drew1) | exact HB.out))) : w.heap.size ≤ gb402)); clear HB; have HB := n0_; have BK402 := n1_; have GW402 := n2_; have GE402 := n3_; clear n0_ n1_ n2_ n3_; clear hb hbox hg; have hcz15_0 : w14.cell? ⟨gb402, 0, none⟩ = some (.int .i64 a0_0) := (blk_cell BK402.out 0).trans rfl; have hcz15_1 : w14.cell? ⟨gb402, 1, none⟩ = some (.int .i64 a0_1) := (blk_cell BK402.out 1).trans rfl; have hcz15_2 : w14.cell? ⟨gb402, 2, none⟩ = some (.int .i64 a0_2) := (blk_cell BK402.out 2).trans rfl; have hfz15_0 := blk_frozen BK402.out 0; have hfz15_1 := blk_frozen BK402.out 1; have hfz15_2 := blk_frozen BK402.out 2))
            go_ret
            exact ⟨by first | rfl | (simp [errW_none, errW_some] <;> rfl) | (simp [*, errW_none, errW_some] <;> rfl), by repeat (first | (with_reducible first | exact HB.out | apply below_alloc | apply pw_below_drewN | apply below_drew1 | refine below_set ?_ GE402.out) | exact HB.out)⟩
      · rw [if_neg c4] at H
        have c4b0 : (a0_0 == 1) = false := beq_eq_false_iff_ne.mpr c4
        have c4b1 : (a0_0 != 1) = true := bne_iff_ne.mpr c4
        by_cases c16 : a0_0 = 2
        · rw [if_pos c16] at H
          have c16b0 : (a0_0 == 2) = true := beq_iff_eq.mpr c16
          have c16b1 : (a0_0 != 2) = false := bne_eq_false_iff_eq.mpr c16
          clear c16
          by_cases c17 : a0_2 ≥ 1
          · rw [if_pos c17] at H
            have c17b0 : decide (1 ≤ a0_2) = true := decide_eq_true c17
            clear c17
            obtain rfl := Option.some.inj H
            go_enter Try.func25, Try.ntmps25
            go_wp2_with (first | ((with_reducible refine gate_dst (N := 1) rfl ?_); refine box_event ?hg (N := 1) ?hd (cs := #[.int .i64 a0_0, .int .i64 a0_1, .int .i64 a0_2]) (t := 55) ?hr ?_; (case hd => rfl); (case hg => rfl); (case hr => first | (go_simp; done) | (go_simp; rfl)); intro gb402 hg w18 hbox hb; have n0_ := Aside0.mk (below_step (by repeat (first | (with_reducible first | exact HB.out | apply below_alloc | apply pw_below_drewN | apply below_drew1) | exact HB.out)) hb); have n1_ := Aside0.mk (hbox); have n2_ := Aside0.mk ((by rw [hg]; exact (below_size (by repeat (first | (with_reducible first | exact HB.out | apply below_alloc | apply pw_below_drewN | apply below_drew1) | exact HB.out))) : w.heap.size ≤ gb402)); have n3_ := Aside0.mk ((by rw [hg]; exact (below_size (by repeat (first | (with_reducible first | exact HB.out | apply below_alloc | apply pw_below_drewN | apply below_drew1) | exact HB.out))) : w.heap.size ≤ gb402)); clear HB; have HB := n0_; have BK402 := n1_; have GW402 := n2_; have GE402 := n3_; clear n0_ n1_ n2_ n3_; clear hb hbox hg; have hcz19_0 : w18.cell? ⟨gb402, 0, none⟩ = some (.int .i64 a0_0) := (blk_cell BK402.out 0).trans rfl; have hcz19_1 : w18.cell? ⟨gb402, 1, none⟩ = some (.int .i64 a0_1) := (blk_cell BK402.out 1).trans rfl; have hcz19_2 : w18.cell? ⟨gb402, 2, none⟩ = some (.int .i64 a0_2) := (blk_cell BK402.out 2).trans rfl; have hfz19_0 := blk_frozen BK402.out 0; have hfz19_1 := blk_frozen BK402.out 1; have hfz19_2 := blk_frozen BK402.out 2))
            go_ret
            exact ⟨by first | rfl | (simp [errW_none, errW_some] <;> rfl) | (simp [*, errW_none, errW_some] <;> rfl), by repeat (first | (with_reducible first | exact HB.out | apply below_alloc | apply pw_below_drewN | apply below_drew1 | refine below_set ?_ GE402.out) | exact HB.out)⟩
          · rw [if_neg c17] at H
            have c17b0 : decide (1 ≤ a0_2) = false := decide_eq_false c17
            clear c17
            obtain rfl := Option.some.inj H
            go_enter Try.func25, Try.ntmps25
            go_wp2_with (first | ((with_reducible refine gate_dst (N := 1) rfl ?_); refine box_event ?hg (N := 1) ?hd (cs := #[.int .i64 a0_0, .int .i64 a0_1, .int .i64 a0_2]) (t := 55) ?hr ?_; (case hd => rfl); (case hg => rfl); (case hr => first | (go_simp; done) | (go_simp; rfl)); intro gb402 hg w20 hbox hb; have n0_ := Aside0.mk (below_step (by repeat (first | (with_reducible first | exact HB.out | apply below_alloc | apply pw_below_drewN | apply below_drew1) | exact HB.out)) hb); have n1_ := Aside0.mk (hbox); have n2_ := Aside0.mk ((by rw [hg]; exact (below_size (by repeat (first | (with_reducible first | exact HB.out | apply below_alloc | apply pw_below_drewN | apply below_drew1) | exact HB.out))) : w.heap.size ≤ gb402)); have n3_ := Aside0.mk ((by rw [hg]; exact (below_size (by repeat (first | (with_reducible first | exact HB.out | apply below_alloc | apply pw_below_drewN | apply below_drew1) | exact HB.out))) : w.heap.size ≤ gb402)); clear HB; have HB := n0_; have BK402 := n1_; have GW402 := n2_; have GE402 := n3_; clear n0_ n1_ n2_ n3_; clear hb hbox hg; have hcz21_0 : w20.cell? ⟨gb402, 0, none⟩ = some (.int .i64 a0_0) := (blk_cell BK402.out 0).trans rfl; have hcz21_1 : w20.cell? ⟨gb402, 1, none⟩ = some (.int .i64 a0_1) := (blk_cell BK402.out 1).trans rfl; have hcz21_2 : w20.cell? ⟨gb402, 2, none⟩ = some (.int .i64 a0_2) := (blk_cell BK402.out 2).trans rfl; have hfz21_0 := blk_frozen BK402.out 0; have hfz21_1 := blk_frozen BK402.out 1; have hfz21_2 := blk_frozen BK402.out 2))
            go_ret
            exact ⟨by first | rfl | (simp [errW_none, errW_some] <;> rfl) | (simp [*, errW_none, errW_some] <;> rfl), by repeat (first | (with_reducible first | exact HB.out | apply below_alloc | apply pw_below_drewN | apply below_drew1 | refine below_set ?_ GE402.out) | exact HB.out)⟩
        · rw [if_neg c16] at H
          have c16b0 : (a0_0 == 2) = false := beq_eq_false_iff_ne.mpr c16
          have c16b1 : (a0_0 != 2) = true := bne_iff_ne.mpr c16
          obtain rfl := Option.some.inj H
          go_enter Try.func25, Try.ntmps25
          go_wp2_with (first | ((with_reducible refine gate_dst (N := 1) rfl ?_); refine box_event ?hg (N := 1) ?hd (cs := #[.int .i64 a0_0, .int .i64 a0_1, .int .i64 a0_2]) (t := 55) ?hr ?_; (case hd => rfl); (case hg => rfl); (case hr => first | (go_simp; done) | (go_simp; rfl)); intro gb402 hg w22 hbox hb; have n0_ := Aside0.mk (below_step (by repeat (first | (with_reducible first | exact HB.out | apply below_alloc | apply pw_below_drewN | apply below_drew1) | exact HB.out)) hb); have n1_ := Aside0.mk (hbox); have n2_ := Aside0.mk ((by rw [hg]; exact (below_size (by repeat (first | (with_reducible first | exact HB.out | apply below_alloc | apply pw_below_drewN | apply below_drew1) | exact HB.out))) : w.heap.size ≤ gb402)); have n3_ := Aside0.mk ((by rw [hg]; exact (below_size (by repeat (first | (with_reducible first | exact HB.out | apply below_alloc | apply pw_below_drewN | apply below_drew1) | exact HB.out))) : w.heap.size ≤ gb402)); clear HB; have HB := n0_; have BK402 := n1_; have GW402 := n2_; have GE402 := n3_; clear n0_ n1_ n2_ n3_; clear hb hbox hg; have hcz23_0 : w22.cell? ⟨gb402, 0, none⟩ = some (.int .i64 a0_0) := (blk_cell BK402.out 0).trans rfl; have hcz23_1 : w22.cell? ⟨gb402, 1, none⟩ = some (.int .i64 a0_1) := (blk_cell BK402.out 1).trans rfl; have hcz23_2 : w22.cell? ⟨gb402, 2, none⟩ = some (.int .i64 a0_2) := (blk_cell BK402.out 2).trans rfl; have hfz23_0 := blk_frozen BK402.out 0; have hfz23_1 := blk_frozen BK402.out 1; have hfz23_2 := blk_frozen BK402.out 2))
          go_ret
          exact ⟨by first | rfl | (simp [errW_none, errW_some] <;> rfl) | (simp [*, errW_none, errW_some] <;> rfl), by repeat (first | (with_reducible first | exact HB.out | apply below_alloc | apply pw_below_drewN | apply below_drew1 | refine below_set ?_ GE402.out) | exact HB.out)⟩
    · rw [if_neg c3] at H
      have c3b0 : decide (a0_1 ≤ 64) = false := decide_eq_false c3
      clear c3
      obtain rfl := Option.some.inj H
      go_enter Try.func25, Try.ntmps25
      go_wp2_with (first | ((with_reducible refine gate_dst (N := 1) rfl ?_); refine box_event ?hg (N := 1) ?hd (cs := #[.int .i64 a0_0, .int .i64 a0_1, .int .i64 a0_2]) (t := 55) ?hr ?_; (case hd => rfl); (case hg => rfl); (case hr => first | (go_simp; done) | (go_simp; rfl)); intro gb402 hg w24 hbox hb; have n0_ := Aside0.mk (below_step (by repeat (first | (with_reducible first | exact HB.out | apply below_alloc | apply pw_below_drewN | apply below_drew1) | exact HB.out)) hb); have n1_ := Aside0.mk (hbox); have n2_ := Aside0.mk ((by rw [hg]; exact (below_size (by repeat (first | (with_reducible first | exact HB.out | apply below_alloc | apply pw_below_drewN | apply below_drew1) | exact HB.out))) : w.heap.size ≤ gb402)); have n3_ := Aside0.mk ((by rw [hg]; exact (below_size (by repeat (first | (with_reducible first | exact HB.out | apply below_alloc | apply pw_below_drewN | apply below_drew1) | exact HB.out))) : w.heap.size ≤ gb402)); clear HB; have HB := n0_; have BK402 := n1_; have GW402 := n2_; have GE402 := n3_; clear n0_ n1_ n2_ n3_; clear hb hbox hg; have hcz25_0 : w24.cell? ⟨gb402, 0, none⟩ = some (.int .i64 a0_0) := (blk_cell BK402.out 0).trans rfl; have hcz25_1 : w24.cell? ⟨gb402, 1, none⟩ = some (.int .i64 a0_1) := (blk_cell BK402.out 1).trans rfl; have hcz25_2 : w24.cell? ⟨gb402, 2, none⟩ = some (.int .i64 a0_2) := (blk_cell BK402.out 2).trans rfl; have hfz25_0 := blk_frozen BK402.out 0; have hfz25_1 := blk_frozen BK402.out 1; have hfz25_2 := blk_frozen BK402.out 2))
      go_ret
      exact ⟨by first | rfl | (simp [errW_none, errW_some] <;> rfl) | (simp [*, errW_none, errW_some] <;> rfl), by repeat (first | (with_reducible first | exact HB.out | apply below_alloc | apply pw_below_drewN | apply below_drew1 | refine below_set ?_ GE402.out) | exact HB.out)⟩
  · rw [if_neg c2] at H
    have c2b0 : decide (1 ≤ a0_1) = false := decide_eq_false c2
    clear c2
    obtain rfl := Option.some.inj H
    go_enter Try.func25, Try.ntmps25
    go_wp2_with (first | ((with_reducible refine gate_dst (N := 1) rfl ?_); refine box_event ?hg (N := 1) ?hd (cs := #[.int .i64 a0_0, .int .i64 a0_1, .int .i64 a0_2]) (t := 55) ?hr ?_; (case hd => rfl); (case hg => rfl); (case hr => first | (go_simp; done) | (go_simp; rfl)); intro gb402 hg w26 hbox hb; have n0_ := Aside0.mk (below_step (by repeat (first | (with_reducible first | exact HB.out | apply below_alloc | apply pw_below_drewN | apply below_drew1) | exact HB.out)) hb); have n1_ := Aside0.mk (hbox); have n2_ := Aside0.mk ((by rw [hg]; exact (below_size (by repeat (first | (with_reducible first | exact HB.out | apply below_alloc | apply pw_below_drewN | apply below_drew1) | exact HB.out))) : w.heap.size ≤ gb402)); have n3_ := Aside0.mk ((by rw [hg]; exact (below_size (by repeat (first | (with_reducible first | exact HB.out | apply below_alloc | apply pw_below_drewN | apply below_drew1) | exact HB.out))) : w.heap.size ≤ gb402)); clear HB; have HB := n0_; have BK402 := n1_; have GW402 := n2_; have GE402 := n3_; clear n0_ n1_ n2_ n3_; clear hb hbox hg; have hcz27_0 : w26.cell? ⟨gb402, 0, none⟩ = some (.int .i64 a0_0) := (blk_cell BK402.out 0).trans rfl; have hcz27_1 : w26.cell? ⟨gb402, 1, none⟩ = some (.int .i64 a0_1) := (blk_cell BK402.out 1).trans rfl; have hcz27_2 : w26.cell? ⟨gb402, 2, none⟩ = some (.int .i64 a0_2) := (blk_cell BK402.out 2).trans rfl; have hfz27_0 := blk_frozen BK402.out 0; have hfz27_1 := blk_frozen BK402.out 1; have hfz27_2 := blk_frozen BK402.out 2))
    go_ret
    exact ⟨by first | rfl | (simp [errW_none, errW_some] <;> rfl) | (simp [*, errW_none, errW_some] <;> rfl), by repeat (first | (with_reducible first | exact HB.out | apply below_alloc | apply pw_below_drewN | apply below_drew1 | refine below_set ?_ GE402.out) | exact HB.out)⟩

end Go.Proofs.Ythoejimgdhfmiaa.PCheckTells
