-- PRINTED BY print.sh 35421559b90ae4d0a3588c463048766b98c2df88dd9212a6774a882060cdf62d: not written by this session
import Derived.Test.YthoejimgdhfmiaaPCheckTellsx0
namespace Go.Proofs.Ythoejimgdhfmiaa.PCheckTells
open Go.RowKit Go.Proofs.YthoejimgdhfmiaaW.PrintWords Go.Proofs.YthoejimgdhfmiaaW.PrintLast Go.Proofs.YthoejimgdhfmiaaW.PrintMore
attribute [local go_sem] max2_int min2_int max_two min_two max_three min_three max_four min_four   -- for this text's walks alone
set_option linter.unusedVariables false
set_option linter.unusedSimpArgs false

/-! ### rondeauref11_instr: function 27 -/
def rondeauref11_instr.j0 : Nat → Bool → List (S55) → List (List (S48)) → Int → Int → Int → Int → Int → Int → Option (Int)
  | 0, _, _, _, _, _, _, _, _, _ => none
  | k + 1, x21, x413000, x413001, x414000, x414001, x414002, x414003, x414004, x414005 => if x21 = true then (some 5) else (if x414000 ≥ 18 then (if x414000 ≤ 20 then (if x414003 ≥ (x413000.length : Int) then (some 7) else (if x414000 = 19 then (if 0 ≤ x414003 then (if x414003 < (x413000.length : Int) then (if x414005 ≥ (IntKind.u64.wrap ((rd_T55 x413000 x414003).f2)) then (some 7) else (some 0)) else (none)) else (none)) else (some 0))) else (if x414000 = 19 then (if 0 ≤ x414003 then (if x414003 < (x413000.length : Int) then (if x414005 ≥ (IntKind.u64.wrap ((rd_T55 x413000 x414003).f2)) then (some 7) else (some 0)) else (none)) else (none)) else (some 0))) else (if x414000 = 19 then (if 0 ≤ x414003 then (if x414003 < (x413000.length : Int) then (if x414005 ≥ (IntKind.u64.wrap ((rd_T55 x413000 x414003).f2)) then (some 7) else (some 0)) else (none)) else (none)) else (some 0)))
def rondeauref11_instr.f (k : Nat) (l0_0 : List (S55)) (l0_1 : List (List (S48))) (a1_0 : Int) (a1_1 : Int) (a1_2 : Int) (a1_3 : Int) (a1_4 : Int) (a1_5 : Int) (a2 : Int) : Option (Int) := if a1_0 ≥ 15 then (if a1_0 ≤ 17 then (rondeauref11_instr.j0 k (decide (a1_5 > (IntKind.u64.wrap (a2)))) l0_0 l0_1 a1_0 a1_1 a1_2 a1_3 a1_4 a1_5) else (rondeauref11_instr.j0 k false l0_0 l0_1 a1_0 a1_1 a1_2 a1_3 a1_4 a1_5)) else (rondeauref11_instr.j0 k false l0_0 l0_1 a1_0 a1_1 a1_2 a1_3 a1_4 a1_5)
theorem rondeauref11_instr.mono_l : ∀ k, (∀ y0 y1 y2 y3 y4 y5 y6 y7 y8, LeO (rondeauref11_instr.j0 k y0 y1 y2 y3 y4 y5 y6 y7 y8) (rondeauref11_instr.j0 (k + 1) y0 y1 y2 y3 y4 y5 y6 y7 y8))
  | 0 => fun _ _ _ _ _ _ _ _ _ r h => by simp [rondeauref11_instr.j0] at h
  | k + 1 => by
    have ih0 := rondeauref11_instr.mono_l k
    · intro y0 y1 y2 y3 y4 y5 y6 y7 y8
      unfold rondeauref11_instr.j0
      repeat' first
      | (with_reducible exact ih0 _ _ _ _ _ _ _ _ _)
      | (with_reducible exact LeO.refl _)
      | (with_reducible exact LeO.none _)
      | (with_reducible refine LeO.ite ?_ ?_)
      | (with_reducible refine LeO.bind ?_ (fun _ => ?_))
      | exact ih0 _ _ _ _ _ _ _ _ _
      | exact LeO.none _
      | refine LeO.ite ?_ ?_
      | refine LeO.bind ?_ (fun _ => ?_)
theorem rondeauref11_instr.mono : ∀ a0 a1 a2 a3 a4 a5 a6 a7 a8 k, LeO (rondeauref11_instr.f k a0 a1 a2 a3 a4 a5 a6 a7 a8) (rondeauref11_instr.f (k + 1) a0 a1 a2 a3 a4 a5 a6 a7 a8) := by
  intro a0 a1 a2 a3 a4 a5 a6 a7 a8 k
  have ih0 := rondeauref11_instr.mono_l k
  unfold rondeauref11_instr.f
  repeat' first
      | (with_reducible exact ih0 _ _ _ _ _ _ _ _ _)
      | (with_reducible exact LeO.refl _)
      | (with_reducible exact LeO.none _)
      | (with_reducible refine LeO.ite ?_ ?_)
      | (with_reducible refine LeO.bind ?_ (fun _ => ?_))
      | exact ih0 _ _ _ _ _ _ _ _ _
      | exact LeO.none _
      | refine LeO.ite ?_ ?_
      | refine LeO.bind ?_ (fun _ => ?_)
set_option maxHeartbeats 8000000 in
set_option maxRecDepth 100000 in
theorem rondeauref11_instr.calls (k : Nat) (A0_0 : Option Addr) (c0_0 : Nat) (l0_0 : List (S55)) (A0_1 : Option Addr) (c0_1 : Nat) (l0_1 : List (List (S48))) (a1_0 : Int) (a1_1 : Int) (a1_2 : Int) (a1_3 : Int) (a1_4 : Int) (a1_5 : Int) (a2 : Int) (r : Int) (w : World) (hr0_0 : Kd.C k55 w A0_0 l0_0.length l0_0) (hc0_0 : l0_0.length ≤ c0_0) (hr0_1 : Kd.C (Kd.slice 48 k48) w A0_1 l0_1.length l0_1) (hc0_1 : l0_1.length ≤ c0_1) (h : rondeauref11_instr.f k l0_0 l0_1 a1_0 a1_1 a1_2 a1_3 a1_4 a1_5 a2 = some r) :
    Calls Try.prog 27 #[.agg #[.slice A0_0 l0_0.length c0_0, .slice A0_1 l0_1.length c0_1], .agg #[.int .i64 a1_0, .int .i64 a1_1, .int .i64 a1_2, .int .i64 a1_3, .int .i64 a1_4, .int .u64 a1_5], .int .i64 a2] w fun e w' => e = .returned (.int .i64 r) ∧ Below w.heap.size w w' := by
  have hu25 := Try.underlying25
  have hu48 := Try.underlying48
  have HR0_0 := Aside0.mk hr0_0
  have HC0_0 := Aside0.mk hc0_0
  clear hr0_0 hc0_0
  have HR0_1 := Aside0.mk hr0_1
  have HC0_1 := Aside0.mk hc0_1
  clear hr0_1 hc0_1
  have HB := Aside0.mk (Below.refl w.heap.size w)
  have H : (if a1_0 ≥ 15 then (if a1_0 ≤ 17 then (rondeauref11_instr.j0 k (decide (a1_5 > (IntKind.u64.wrap (a2)))) l0_0 l0_1 a1_0 a1_1 a1_2 a1_3 a1_4 a1_5) else (rondeauref11_instr.j0 k false l0_0 l0_1 a1_0 a1_1 a1_2 a1_3 a1_4 a1_5)) else (rondeauref11_instr.j0 k false l0_0 l0_1 a1_0 a1_1 a1_2 a1_3 a1_4 a1_5)) = some r := h
  clear h
  have HC4 := Aside0.mk H
  clear H
  go_enter Try.func27, Try.ntmps27
  go_upto_region 1 with (first | ((with_reducible refine gate_dst (N := 3) rfl ?_); (try (refine gate_guard (by rfl) ?_; dsimp only)); refine box_event ?hg (N := 3) ?hd (cs := #[.slice A0_0 l0_0.length c0_0, .slice A0_1 l0_1.length c0_1]) (t := 25) ?hr ?_; (case hd => rfl); (case hg => rfl); (case hr => first | (go_simp; done) | (go_simp; rfl)); intro gb412 hg w5 hbox hb; have n0_ := Aside0.mk (below_step (by repeat (first | (with_reducible first | exact HB.out | apply below_alloc | apply pw_below_drewN | apply below_drew1) | exact HB.out)) hb); have n1_ := Aside0.mk (hbox); have n2_ := Aside0.mk ((by rw [hg]; exact (below_size (by repeat (first | (with_reducible first | exact HB.out | apply below_alloc | apply pw_below_drewN | apply below_drew1) | exact HB.out))) : w.heap.size ≤ gb412)); have n3_ := Aside0.mk ((by rw [hg]; exact (below_size (by repeat (first | (with_reducible first | exact HB.out | apply below_alloc | apply pw_below_drewN | apply below_drew1) | exact HB.out))) : w.heap.size ≤ gb412)); clear HB; have HB := n0_; have BK412 := n1_; have GW412 := n2_; have GE412 := n3_; clear n0_ n1_ n2_ n3_; clear hb hbox hg) | ((with_reducible refine gate_dst (N := 4) rfl ?_); (try (refine gate_guard (by rfl) ?_; dsimp only)); refine box_event ?hg (N := 4) ?hd (cs := #[.int .i64 a1_0, .int .i64 a1_1, .int .i64 a1_2, .int .i64 a1_3, .int .i64 a1_4, .int .u64 a1_5]) (t := 48) ?hr ?_; (case hd => rfl); (case hg => rfl); (case hr => first | (go_simp; done) | (go_simp; rfl)); intro gb413 hg w6 hbox hb; have n0_ := Aside0.mk (blk_below (g := gb412) (o := .cells #[.slice A0_0 l0_0.length c0_0, .slice A0_1 l0_1.length c0_1] 25 (0, 0)) (by (with_reducible repeat (first | refine blk_drewN ?_ _ | refine blk_drew ?_ | refine blk_alloc ?_ _)); exact BK412.out) hb); have n1_ := Aside0.mk (below_step (by repeat (first | (with_reducible first | exact HB.out | apply below_alloc | apply pw_below_drewN | apply below_drew1 | refine below_set ?_ GE412.out) | exact HB.out)) hb); have n2_ := Aside0.mk (hbox); have n3_ := Aside0.mk ((by rw [hg]; exact (below_size (by repeat (first | (with_reducible first | exact HB.out | apply below_alloc | apply pw_below_drewN | apply below_drew1 | refine below_set ?_ GE412.out) | exact HB.out))) : w.heap.size ≤ gb413)); have n4_ := Aside0.mk ((by rw [hg]; exact (below_size (by repeat (first | (with_reducible first | exact HB.out | apply below_alloc | apply pw_below_drewN | apply below_drew1 | refine below_set ?_ GE412.out) | exact HB.out))) : w.heap.size ≤ gb413)); have n5_ := Aside0.mk ((by rw [hg]; exact Nat.ne_of_lt (blk_lt (g := gb412) (o := .cells #[.slice A0_0 l0_0.length c0_0, .slice A0_1 l0_1.length c0_1] 25 (0, 0)) (by (with_reducible repeat (first | refine blk_drewN ?_ _ | refine blk_drew ?_ | refine blk_alloc ?_ _)); exact BK412.out)) : gb412 ≠ gb413)); have n6_ := Aside0.mk ((by rw [hg]; exact Nat.ne_of_gt (blk_lt (g := gb412) (o := .cells #[.slice A0_0 l0_0.length c0_0, .slice A0_1 l0_1.length c0_1] 25 (0, 0)) (by (with_reducible repeat (first | refine blk_drewN ?_ _ | refine blk_drew ?_ | refine blk_alloc ?_ _)); exact BK412.out)) : gb413 ≠ gb412)); clear BK412; clear HB; have BK412 := n0_; have HB := n1_; have BK413 := n2_; have GW413 := n3_; have GE413 := n4_; have NB412_413 := n5_; have NB413_412 := n6_; clear n0_ n1_ n2_ n3_ n4_ n5_ n6_; clear hb hbox hg))
  repeat (go_quiet (first | ((with_reducible refine gate_dst (N := 3) rfl ?_); (try (refine gate_guard (by rfl) ?_; dsimp only)); refine box_event ?hg (N := 3) ?hd (cs := #[.slice A0_0 l0_0.length c0_0, .slice A0_1 l0_1.length c0_1]) (t := 25) ?hr ?_; (case hd => rfl); (case hg => rfl); (case hr => first | (go_simp; done) | (go_simp; rfl)); intro gb412 hg w5 hbox hb; have n0_ := Aside0.mk (below_step (by repeat (first | (with_reducible first | exact HB.out | apply below_alloc | apply pw_below_drewN | apply below_drew1) | exact HB.out)) hb); have n1_ := Aside0.mk (hbox); have n2_ := Aside0.mk ((by rw [hg]; exact (below_size (by repeat (first | (with_reducible first | exact HB.out | apply below_alloc | apply pw_below_drewN | apply below_drew1) | exact HB.out))) : w.heap.size ≤ gb412)); have n3_ := Aside0.mk ((by rw [hg]; exact (below_size (by repeat (first | (with_reducible first | exact HB.out | apply below_alloc | apply pw_below_drewN | apply below_drew1) | exact HB.out))) : w.heap.size ≤ gb412)); clear HB; have HB := n0_; have BK412 := n1_; have GW412 := n2_; have GE412 := n3_; clear n0_ n1_ n2_ n3_; clear hb hbox hg) | ((with_reducible refine gate_dst (N := 4) rfl ?_); (try (refine gate_guard (by rfl) ?_; dsimp only)); refine box_event ?hg (N := 4) ?hd (cs := #[.int .i64 a1_0, .int .i64 a1_1, .int .i64 a1_2, .int .i64 a1_3, .int .i64 a1_4, .int .u64 a1_5]) (t := 48) ?hr ?_; (case hd => rfl); (case hg => rfl); (case hr => first | (go_simp; done) | (go_simp; rfl)); intro gb413 hg w6 hbox hb; have n0_ := Aside0.mk (blk_below (g := gb412) (o := .cells #[.slice A0_0 l0_0.length c0_0, .slice A0_1 l0_1.length c0_1] 25 (0, 0)) (by (with_reducible repeat (first | refine blk_drewN ?_ _ | refine blk_drew ?_ | refine blk_alloc ?_ _)); exact BK412.out) hb); have n1_ := Aside0.mk (below_step (by repeat (first | (with_reducible first | exact HB.out | apply below_alloc | apply pw_below_drewN | apply below_drew1 | refine below_set ?_ GE412.out) | exact HB.out)) hb); have n2_ := Aside0.mk (hbox); have n3_ := Aside0.mk ((by rw [hg]; exact (below_size (by repeat (first | (with_reducible first | exact HB.out | apply below_alloc | apply pw_below_drewN | apply below_drew1 | refine below_set ?_ GE412.out) | exact HB.out))) : w.heap.size ≤ gb413)); have n4_ := Aside0.mk ((by rw [hg]; exact (below_size (by repeat (first | (with_reducible first | exact HB.out | apply below_alloc | apply pw_below_drewN | apply below_drew1 | refine below_set ?_ GE412.out) | exact HB.out))) : w.heap.size ≤ gb413)); have n5_ := Aside0.mk ((by rw [hg]; exact Nat.ne_of_lt (blk_lt (g := gb412) (o := .cells #[.slice A0_0 l0_0.length c0_0, .slice A0_1 l0_1.length c0_1] 25 (0, 0)) (by (with_reducible repeat (first | refine blk_drewN ?_ _ | refine blk_drew ?_ | refine blk_alloc ?_ _)); exact BK412.out)) : gb412 ≠ gb413)); have n6_ := Aside0.mk ((by rw [hg]; exact Nat.ne_of_gt (blk_lt (g := gb412) (o := .cells #[.slice A0_0 l0_0.length c0_0, .slice A0_1 l0_1.length c0_1] 25 (0, 0)) (by (with_reducible repeat (first | refine blk_drewN ?_ _ | refine blk_drew ?_ | refine blk_alloc ?_ _)); exact BK412.out)) : gb413 ≠ gb412)); clear BK412; clear HB; have BK412 := n0_; have HB := n1_; have BK413 := n2_; have GW413 := n3_; have GE413 := n4_; have NB412_413 := n5_; have NB413_412 := n6_; clear n0_ n1_ n2_ n3_ n4_ n5_ n6_; clear hb hbox hg)); go_upto_region 1 with (first | ((with_reducible refine gate_dst (N := 3) rfl ?_); (try (refine gate_guard (by rfl) ?_; dsimp only)); refine box_event ?hg (N := 3) ?hd (cs := #[.slice A0_0 l0_0.length c0_0, .slice A0_1 l0_1.length c0_1]) (t := 25) ?hr ?_; (case hd => rfl); (case hg => rfl); (case hr => first | (go_simp; done) | (go_simp; rfl)); intro gb412 hg w5 hbox hb; have n0_ := Aside0.mk (below_step (by repeat (first | (with_reducible first | exact HB.out | apply below_alloc | apply pw_below_drewN | apply below_drew1) | exact HB.out)) hb); have n1_ := Aside0.mk (hbox); have n2_ := Aside0.mk ((by rw [hg]; exact (below_size (by repeat (first | (with_reducible first | exact HB.out | apply below_alloc | apply pw_below_drewN | apply below_drew1) | exact HB.out))) : w.heap.size ≤ gb412)); have n3_ := Aside0.mk ((by rw [hg]; exact (below_size (by repeat (first | (with_reducible first | exact HB.out | apply below_alloc | apply pw_below_drewN | apply below_drew1) | exact HB.out))) : w.heap.size ≤ gb412)); clear HB; have HB := n0_; have BK412 := n1_; have GW412 := n2_; have GE412 := n3_; clear n0_ n1_ n2_ n3_; clear hb hbox hg) | ((with_reducible refine gate_dst (N := 4) rfl ?_); (try (refine gate_guard (by rfl) ?_; dsimp only)); refine box_event ?hg (N := 4) ?hd (cs := #[.int .i64 a1_0, .int .i64 a1_1, .int .i64 a1_2, .int .i64 a1_3, .int .i64 a1_4, .int .u64 a1_5]) (t := 48) ?hr ?_; (case hd => rfl); (case hg => rfl); (case hr => first | (go_simp; done) | (go_simp; rfl)); intro gb413 hg w6 hbox hb; have n0_ := Aside0.mk (blk_below (g := gb412) (o := .cells #[.slice A0_0 l0_0.length c0_0, .slice A0_1 l0_1.length c0_1] 25 (0, 0)) (by (with_reducible repeat (first | refine blk_drewN ?_ _ | refine blk_drew ?_ | refine blk_alloc ?_ _)); exact BK412.out) hb); have n1_ := Aside0.mk (below_step (by repeat (first | (with_reducible first | exact HB.out | apply below_alloc | apply pw_below_drewN | apply below_drew1 | refine below_set ?_ GE412.out) | exact HB.out)) hb); have n2_ := Aside0.mk (hbox); have n3_ := Aside0.mk ((by rw [hg]; exact (below_size (by repeat (first | (with_reducible first | exact HB.out | apply below_alloc | apply pw_below_drewN | apply below_drew1 | refine below_set ?_ GE412.out) | exact HB.out))) : w.heap.size ≤ gb413)); have n4_ := Aside0.mk ((by rw [hg]; exact (below_size (by repeat (first | (with_reducible first | exact HB.out | apply below_alloc | apply pw_below_drewN | apply below_drew1 | refine below_set ?_ GE412.out) | exact HB.out))) : w.heap.size ≤ gb413)); have n5_ := Aside0.mk ((by rw [hg]; exact Nat.ne_of_lt (blk_lt (g := gb412) (o := .cells #[.slice A0_0 l0_0.length c0_0, .slice A0_1 l0_1.length c0_1] 25 (0, 0)) (by (with_reducible repeat (first | refine blk_drewN ?_ _ | refine blk_drew ?_ | refine blk_alloc ?_ _)); exact BK412.out)) : gb412 ≠ gb413)); have n6_ := Aside0.mk ((by rw [hg]; exact Nat.ne_of_gt (blk_lt (g := gb412) (o := .cells #[.slice A0_0 l0_0.length c0_0, .slice A0_1 l0_1.length c0_1] 25 (0, 0)) (by (with_reducible repeat (first | refine blk_drewN ?_ _ | refine blk_drew ?_ | refine blk_alloc ?_ _)); exact BK412.out)) : gb413 ≠ gb412)); clear BK412; clear HB; have BK412 := n0_; have HB := n1_; have BK413 := n2_; have GW413 := n3_; have GE413 := n4_; have NB412_413 := n5_; have NB413_412 := n6_; clear n0_ n1_ n2_ n3_ n4_ n5_ n6_; clear hb hbox hg)))
  (try simp only [Act.put, List.setIfInBounds_toArray, List.set_cons_zero, List.set_cons_succ])
  go_cut [21] (fun v21 wc => ∃ (kq : Nat) (x21_3 : Bool), v21 = .bool x21_3 ∧ Aside0 (rondeauref11_instr.j0 kq x21_3 l0_0 l0_1 a1_0 a1_1 a1_2 a1_3 a1_4 a1_5 = some r) ∧ Aside0 (kq ≤ k) ∧ Aside0 (wc.heap[gb412]? = some (.cells #[(.slice A0_0 l0_0.length c0_0), (.slice A0_1 l0_1.length c0_1)] 25 (0, 0))) ∧ Aside0 (wc.heap[gb413]? = some (.cells #[.int .i64 a1_0, .int .i64 a1_1, .int .i64 a1_2, .int .i64 a1_3, .int .i64 a1_4, .int .u64 a1_5] 48 (0, 0))) ∧ Aside0 (Below w.heap.size w wc))
  case first =>
    have H := HC4.out
    clear HC4
    by_cases c7 : a1_0 ≥ 15
    · rw [if_pos c7] at H
      have c7b0 : decide (15 ≤ a1_0) = true := decide_eq_true c7
      clear c7
      (first | rw [c7b0] | (simp only [i64_w, i32_w]; rw [c7b0]) | skip)
      by_cases c8 : a1_0 ≤ 17
      · rw [if_pos c8] at H
        have c8b0 : decide (a1_0 ≤ 17) = true := decide_eq_true c8
        clear c8
        have H' := Aside0.mk H
        clear H
        have hnb9 := NB413_412.out
        have hnc9 := NB412_413.out
        have hcz10_0 : w6.cell? ⟨gb413, 0, none⟩ = some (.int .i64 a1_0) := (blk_cell BK413.out 0).trans rfl
        have hcz10_1 : w6.cell? ⟨gb413, 1, none⟩ = some (.int .i64 a1_1) := (blk_cell BK413.out 1).trans rfl
        have hcz10_2 : w6.cell? ⟨gb413, 2, none⟩ = some (.int .i64 a1_2) := (blk_cell BK413.out 2).trans rfl
        have hcz10_3 : w6.cell? ⟨gb413, 3, none⟩ = some (.int .i64 a1_3) := (blk_cell BK413.out 3).trans rfl
        have hcz10_4 : w6.cell? ⟨gb413, 4, none⟩ = some (.int .i64 a1_4) := (blk_cell BK413.out 4).trans rfl
        have hcz10_5 : w6.cell? ⟨gb413, 5, none⟩ = some (.int .u64 a1_5) := (blk_cell BK413.out 5).trans rfl
        have hfz10_0 := blk_frozen BK413.out 0
        have hfz10_1 := blk_frozen BK413.out 1
        have hfz10_2 := blk_frozen BK413.out 2
        have hfz10_3 := blk_frozen BK413.out 3
        have hfz10_4 := blk_frozen BK413.out 4
        have hfz10_5 := blk_frozen BK413.out 5
        go_wp2
        repeat (go_quiet (fail); try go_wp2)
        go_meet
        case rel => exact ⟨_, (decide (a1_5 > (IntKind.u64.wrap (a2)))), (by first | rfl | (simp; done) | (simp [*]; done)), H', ⟨by first | omega | exact Nat.le_refl _⟩, ⟨by (with_reducible repeat (first | refine blk_drewN ?_ _ | refine blk_drew ?_ | refine blk_alloc ?_ _)); exact BK412.out⟩, ⟨by (with_reducible repeat (first | refine blk_drewN ?_ _ | refine blk_drew ?_ | refine blk_alloc ?_ _)); exact BK413.out⟩, ⟨by repeat (first | (with_reducible first | exact HB.out | apply below_alloc | apply pw_below_drewN | apply below_drew1 | refine below_set ?_ GE412.out | refine below_set ?_ GE413.out) | exact HB.out)⟩⟩
      · rw [if_neg c8] at H
        have c8b0 : decide (a1_0 ≤ 17) = false := decide_eq_false c8
        clear c8
        have H' := Aside0.mk H
        clear H
        have hnb11 := NB413_412.out
        have hnc11 := NB412_413.out
        have hcz12_0 : w6.cell? ⟨gb413, 0, none⟩ = some (.int .i64 a1_0) := (blk_cell BK413.out 0).trans rfl
        have hcz12_1 : w6.cell? ⟨gb413, 1, none⟩ = some (.int .i64 a1_1) := (blk_cell BK413.out 1).trans rfl
        have hcz12_2 : w6.cell? ⟨gb413, 2, none⟩ = some (.int .i64 a1_2) := (blk_cell BK413.out 2).trans rfl
        have hcz12_3 : w6.cell? ⟨gb413, 3, none⟩ = some (.int .i64 a1_3) := (blk_cell BK413.out 3).trans rfl
        have hcz12_4 : w6.cell? ⟨gb413, 4, none⟩ = some (.int .i64 a1_4) := (blk_cell BK413.out 4).trans rfl
        have hcz12_5 : w6.cell? ⟨gb413, 5, none⟩ = some (.int .u64 a1_5) := (blk_cell BK413.out 5).trans rfl
        have hfz12_0 := blk_frozen BK413.out 0
        have hfz12_1 := blk_frozen BK413.out 1
        have hfz12_2 := blk_frozen BK413.out 2
        have hfz12_3 := blk_frozen BK413.out 3
        have hfz12_4 := blk_frozen BK413.out 4
        have hfz12_5 := blk_frozen BK413.out 5
        go_wp2
        repeat (go_quiet (fail); try go_wp2)
        go_meet
        case rel => exact ⟨_, (false), (by first | rfl | (simp; done) | (simp [*]; done)), H', ⟨by first | omega | exact Nat.le_refl _⟩, ⟨by (with_reducible repeat (first | refine blk_drewN ?_ _ | refine blk_drew ?_ | refine blk_alloc ?_ _)); exact BK412.out⟩, ⟨by (with_reducible repeat (first | refine blk_drewN ?_ _ | refine blk_drew ?_ | refine blk_alloc ?_ _)); exact BK413.out⟩, ⟨by repeat (first | (with_reducible first | exact HB.out | apply below_alloc | apply pw_below_drewN | apply below_drew1 | refine below_set ?_ GE412.out | refine below_set ?_ GE413.out) | exact HB.out)⟩⟩
    · rw [if_neg c7] at H
      have c7b0 : decide (15 ≤ a1_0) = false := decide_eq_false c7
      clear c7
      (first | rw [c7b0] | (simp only [i64_w, i32_w]; rw [c7b0]) | skip)
      have H' := Aside0.mk H
      clear H
      have hnb13 := NB413_412.out
      have hnc13 := NB412_413.out
      have hcz14_0 : w6.cell? ⟨gb413, 0, none⟩ = some (.int .i64 a1_0) := (blk_cell BK413.out 0).trans rfl
      have hcz14_1 : w6.cell? ⟨gb413, 1, none⟩ = some (.int .i64 a1_1) := (blk_cell BK413.out 1).trans rfl
      have hcz14_2 : w6.cell? ⟨gb413, 2, none⟩ = some (.int .i64 a1_2) := (blk_cell BK413.out 2).trans rfl
      have hcz14_3 : w6.cell? ⟨gb413, 3, none⟩ = some (.int .i64 a1_3) := (blk_cell BK413.out 3).trans rfl
      have hcz14_4 : w6.cell? ⟨gb413, 4, none⟩ = some (.int .i64 a1_4) := (blk_cell BK413.out 4).trans rfl
      have hcz14_5 : w6.cell? ⟨gb413, 5, none⟩ = some (.int .u64 a1_5) := (blk_cell BK413.out 5).trans rfl
      have hfz14_0 := blk_frozen BK413.out 0
      have hfz14_1 := blk_frozen BK413.out 1
      have hfz14_2 := blk_frozen BK413.out 2
      have hfz14_3 := blk_frozen BK413.out 3
      have hfz14_4 := blk_frozen BK413.out 4
      have hfz14_5 := blk_frozen BK413.out 5
      go_wp2
      repeat (go_quiet (fail); try go_wp2)
      go_meet
      case rel => exact ⟨_, (false), (by first | rfl | (simp; done) | (simp [*]; done)), H', ⟨by first | omega | exact Nat.le_refl _⟩, ⟨by (with_reducible repeat (first | refine blk_drewN ?_ _ | refine blk_drew ?_ | refine blk_alloc ?_ _)); exact BK412.out⟩, ⟨by (with_reducible repeat (first | refine blk_drewN ?_ _ | refine blk_drew ?_ | refine blk_alloc ?_ _)); exact BK413.out⟩, ⟨by repeat (first | (with_reducible first | exact HB.out | apply below_alloc | apply pw_below_drewN | apply below_drew1 | refine below_set ?_ GE412.out | refine below_set ?_ GE413.out) | exact HB.out)⟩⟩
  case rest =>
    clear HC4
    try clear c1
    try clear c2
    try clear p2
    try clear c7
    try clear c7b0
    try clear c8
    try clear c8b0
    try clear c9
    try clear c11
    try clear c13
    try clear hcz10_0
    try clear hcz10_1
    try clear hcz10_2
    try clear hcz10_3
    try clear hcz10_4
    try clear hcz10_5
    try clear hcz12_0
    try clear hcz12_1
    try clear hcz12_2
    try clear hcz12_3
    try clear hcz12_4
    try clear hcz12_5
    try clear hcz14_0
    try clear hcz14_1
    try clear hcz14_2
    try clear hcz14_3
    try clear hcz14_4
    try clear hcz14_5
    try clear hfz10_0
    try clear hfz10_1
    try clear hfz10_2
    try clear hfz10_3
    try clear hfz10_4
    try clear hfz10_5
    try clear hfz12_0
    try clear hfz12_1
    try clear hfz12_2
    try clear hfz12_3
    try clear hfz12_4
    try clear hfz12_5
    try clear hfz14_0
    try clear hfz14_1
    try clear hfz14_2
    try clear hfz14_3
    try clear hfz14_4
    try clear hfz14_5
    obtain ⟨kq, x21_3, rfl, HA, HJ3, BK412, BK413, HB⟩ := hcut
    cases kq with
    | zero => exact absurd HA.out (by simp [rondeauref11_instr.j0])
    | succ kj3 =>
      have H := HA.out
      clear HA
      simp only [rondeauref11_instr.j0] at H
      by_cases c15 : x21_3 = true
      · subst c15
        have H1 : (some 5) = some r := by rw [if_pos rfl] at H; exact H
        clear H
        have H := H1
        clear H1
        obtain rfl := Option.some.inj H
        go_wp2
        repeat (go_quiet (fail); try go_wp2)
        go_ret
        exact ⟨by first | rfl | (simp [errW_none, errW_some] <;> rfl) | (simp [*, errW_none, errW_some] <;> rfl), by repeat (first | (with_reducible first | exact HB.out | apply below_alloc | apply pw_below_drewN | apply below_drew1 | refine below_set ?_ GE412.out | refine below_set ?_ GE413.out) | exact HB.out)⟩
      · replace c15 := Bool.eq_false_iff.mpr c15
        subst c15
        have H1 : (if a1_0 ≥ 18 then (if a1_0 ≤ 20 then (if a1_3 ≥ (l0_0.length : Int) then (some 7) else (if a1_0 = 19 then (if 0 ≤ a1_3 then (if a1_3 < (l0_0.length : Int) then (if a1_5 ≥ (IntKind.u64.wrap ((rd_T55 l0_0 a1_3).f2)) then (some 7) else (some 0)) else (none)) else (none)) else (some 0))) else (if a1_0 = 19 then (if 0 ≤ a1_3 then (if a1_3 < (l0_0.length : Int) then (if a1_5 ≥ (IntKind.u64.wrap ((rd_T55 l0_0 a1_3).f2)) then (some 7) else (some 0)) else (none)) else (none)) else (some 0))) else (if a1_0 = 19 then (if 0 ≤ a1_3 then (if a1_3 < (l0_0.length : Int) then (if a1_5 ≥ (IntKind.u64.wrap ((rd_T55 l0_0 a1_3).f2)) then (some 7) else (some 0)) else (none)) else (none)) else (some 0))) = some r := by rw [if_neg (show ¬ (false = true) by decide)] at H; exact H
        clear H
        have H := H1
        clear H1
        by_cases c16 : a1_0 ≥ 18
        · rw [if_pos c16] at H
          have c16b0 : decide (18 ≤ a1_0) = true := decide_eq_true c16
          clear c16
          by_cases c17 : a1_0 ≤ 20
          · rw [if_pos c17] at H
            have c17b0 : decide (a1_0 ≤ 20) = true := decide_eq_true c17
            clear c17
            by_cases c18 : a1_3 ≥ (l0_0.length : Int)
            · rw [if_pos c18] at H
              have c18b0 : decide ((l0_0.length : Int) ≤ a1_3) = true := decide_eq_true c18
              clear c18
              obtain rfl := Option.some.inj H
              have hnb19 := NB413_412.out
              have hnc19 := NB412_413.out
              have hcz20_0 : wc.cell? ⟨gb413, 0, none⟩ = some (.int .i64 a1_0) := (blk_cell BK413.out 0).trans rfl
              have hcz20_1 : wc.cell? ⟨gb413, 1, none⟩ = some (.int .i64 a1_1) := (blk_cell BK413.out 1).trans rfl
              have hcz20_2 : wc.cell? ⟨gb413, 2, none⟩ = some (.int .i64 a1_2) := (blk_cell BK413.out 2).trans rfl
              have hcz20_3 : wc.cell? ⟨gb413, 3, none⟩ = some (.int .i64 a1_3) := (blk_cell BK413.out 3).trans rfl
              have hcz20_4 : wc.cell? ⟨gb413, 4, none⟩ = some (.int .i64 a1_4) := (blk_cell BK413.out 4).trans rfl
              have hcz20_5 : wc.cell? ⟨gb413, 5, none⟩ = some (.int .u64 a1_5) := (blk_cell BK413.out 5).trans rfl
              have hfz20_0 := blk_frozen BK413.out 0
              have hfz20_1 := blk_frozen BK413.out 1
              have hfz20_2 := blk_frozen BK413.out 2
              have hfz20_3 := blk_frozen BK413.out 3
              have hfz20_4 := blk_frozen BK413.out 4
              have hfz20_5 := blk_frozen BK413.out 5
              have hcz21_0 : wc.cell? ⟨gb412, 0, none⟩ = some (.slice A0_0 l0_0.length c0_0) := (blk_cell BK412.out 0).trans rfl
              have hcz21_1 : wc.cell? ⟨gb412, 1, none⟩ = some (.slice A0_1 l0_1.length c0_1) := (blk_cell BK412.out 1).trans rfl
              have hfz21_0 := blk_frozen BK412.out 0
              have hfz21_1 := blk_frozen BK412.out 1
              go_wp2
              repeat (go_quiet (fail); try go_wp2)
              go_ret
              exact ⟨by first | rfl | (simp [errW_none, errW_some] <;> rfl) | (simp [*, errW_none, errW_some] <;> rfl), by repeat (first | (with_reducible first | exact HB.out | apply below_alloc | apply pw_below_drewN | apply below_drew1 | refine below_set ?_ GE412.out | refine below_set ?_ GE413.out) | exact HB.out)⟩
            · rw [if_neg c18] at H
              have c18b0 : decide ((l0_0.length : Int) ≤ a1_3) = false := decide_eq_false c18
              clear c18
              by_cases c22 : a1_0 = 19
              · rw [if_pos c22] at H
                have c22b0 : (a1_0 == 19) = true := beq_iff_eq.mpr c22
                have c22b1 : (a1_0 != 19) = false := bne_eq_false_iff_eq.mpr c22
                clear c22
                by_cases c23 : 0 ≤ a1_3
                · rw [if_pos c23] at H
                  have c23b0 : decide (0 ≤ a1_3) = true := decide_eq_true c23
                  clear c23
                  by_cases c24 : a1_3 < (l0_0.length : Int)
                  · rw [if_pos c24] at H
                    have c24b0 : decide (a1_3 < (l0_0.length : Int)) = true := decide_eq_true c24
                    clear c24
                    by_cases c25 : a1_5 ≥ (IntKind.u64.wrap ((rd_T55 l0_0 a1_3).f2))
                    · rw [if_pos c25] at H
                      have c25b0 : decide ((IntKind.u64.wrap ((rd_T55 l0_0 a1_3).f2)) ≤ a1_5) = true := decide_eq_true c25
                      clear c25
                      obtain rfl := Option.some.inj H
                      have hnb26 := NB413_412.out
                      have hnc26 := NB412_413.out
                      have hcz27_0 : wc.cell? ⟨gb413, 0, none⟩ = some (.int .i64 a1_0) := (blk_cell BK413.out 0).trans rfl
                      have hcz27_1 : wc.cell? ⟨gb413, 1, none⟩ = some (.int .i64 a1_1) := (blk_cell BK413.out 1).trans rfl
                      have hcz27_2 : wc.cell? ⟨gb413, 2, none⟩ = some (.int .i64 a1_2) := (blk_cell BK413.out 2).trans rfl
                      have hcz27_3 : wc.cell? ⟨gb413, 3, none⟩ = some (.int .i64 a1_3) := (blk_cell BK413.out 3).trans rfl
                      have hcz27_4 : wc.cell? ⟨gb413, 4, none⟩ = some (.int .i64 a1_4) := (blk_cell BK413.out 4).trans rfl
                      have hcz27_5 : wc.cell? ⟨gb413, 5, none⟩ = some (.int .u64 a1_5) := (blk_cell BK413.out 5).trans rfl
                      have hfz27_0 := blk_frozen BK413.out 0
                      have hfz27_1 := blk_frozen BK413.out 1
                      have hfz27_2 := blk_frozen BK413.out 2
                      have hfz27_3 := blk_frozen BK413.out 3
                      have hfz27_4 := blk_frozen BK413.out 4
                      have hfz27_5 := blk_frozen BK413.out 5
                      have hcz28_0 : wc.cell? ⟨gb412, 0, none⟩ = some (.slice A0_0 l0_0.length c0_0) := (blk_cell BK412.out 0).trans rfl
                      have hcz28_1 : wc.cell? ⟨gb412, 1, none⟩ = some (.slice A0_1 l0_1.length c0_1) := (blk_cell BK412.out 1).trans rfl
                      have hfz28_0 := blk_frozen BK412.out 0
                      have hfz28_1 := blk_frozen BK412.out 1
                      have p414 : 0 ≤ (a1_3 : Int) := of_decide_eq_true (by first | (with_reducible assumption) | assumption)
                      have q414 : a1_3 < (l0_0.length : Int) := of_decide_eq_true (by first | (with_reducible assumption) | assumption)
                      obtain ⟨ad414, e414, hx414_0, hx414_1, hx414_2⟩ := at_T55 HR0_0.out a1_3 p414 q414
                      cases e414
                      replace hx414_0 := (HB.out.cell (World.block_lt_of_cell? w _ hx414_0)).trans hx414_0
                      replace hx414_1 := (HB.out.cell (World.block_lt_of_cell? w _ hx414_1)).trans hx414_1
                      replace hx414_2 := (HB.out.cell (World.block_lt_of_cell? w _ hx414_2)).trans hx414_2
                      replace p414 := eq_true p414
                      replace q414 := eq_true q414
                      go_wp2
                      repeat (go_quiet (fail); try go_wp2)
                      go_ret
                      exact ⟨by first | rfl | (simp [errW_none, errW_some] <;> rfl) | (simp [*, errW_none, errW_some] <;> rfl), by repeat (first | (with_reducible first | exact HB.out | apply below_alloc | apply pw_below_drewN | apply below_drew1 | refine below_set ?_ GE412.out | refine below_set ?_ GE413.out) | exact HB.out)⟩
                    · rw [if_neg c25] at H
                      have c25b0 : decide ((IntKind.u64.wrap ((rd_T55 l0_0 a1_3).f2)) ≤ a1_5) = false := decide_eq_false c25
                      clear c25
                      obtain rfl := Option.some.inj H
                      have hnb29 := NB413_412.out
                      have hnc29 := NB412_413.out
                      have hcz30_0 : wc.cell? ⟨gb413, 0, none⟩ = some (.int .i64 a1_0) := (blk_cell BK413.out 0).trans rfl
                      have hcz30_1 : wc.cell? ⟨gb413, 1, none⟩ = some (.int .i64 a1_1) := (blk_cell BK413.out 1).trans rfl
                      have hcz30_2 : wc.cell? ⟨gb413, 2, none⟩ = some (.int .i64 a1_2) := (blk_cell BK413.out 2).trans rfl
                      have hcz30_3 : wc.cell? ⟨gb413, 3, none⟩ = some (.int .i64 a1_3) := (blk_cell BK413.out 3).trans rfl
                      have hcz30_4 : wc.cell? ⟨gb413, 4, none⟩ = some (.int .i64 a1_4) := (blk_cell BK413.out 4).trans rfl
                      have hcz30_5 : wc.cell? ⟨gb413, 5, none⟩ = some (.int .u64 a1_5) := (blk_cell BK413.out 5).trans rfl
                      have hfz30_0 := blk_frozen BK413.out 0
                      have hfz30_1 := blk_frozen BK413.out 1
                      have hfz30_2 := blk_frozen BK413.out 2
                      have hfz30_3 := blk_frozen BK413.out 3
                      have hfz30_4 := blk_frozen BK413.out 4
                      have hfz30_5 := blk_frozen BK413.out 5
                      have hcz31_0 : wc.cell? ⟨gb412, 0, none⟩ = some (.slice A0_0 l0_0.length c0_0) := (blk_cell BK412.out 0).trans rfl
                      have hcz31_1 : wc.cell? ⟨gb412, 1, none⟩ = some (.slice A0_1 l0_1.length c0_1) := (blk_cell BK412.out 1).trans rfl
                      have hfz31_0 := blk_frozen BK412.out 0
                      have hfz31_1 := blk_frozen BK412.out 1
                      have p414 : 0 ≤ (a1_3 : Int) := of_decide_eq_true (by first | (with_reducible assumption) | assumption)
                      have q414 : a1_3 < (l0_0.length : Int) := of_decide_eq_true (by first | (with_reducible assumption) | assumption)
                      obtain ⟨ad414, e414, hx414_0, hx414_1, hx414_2⟩ := at_T55 HR0_0.out a1_3 p414 q414
                      cases e414
                      replace hx414_0 := (HB.out.cell (World.block_lt_of_cell? w _ hx414_0)).trans hx414_0
                      replace hx414_1 := (HB.out.cell (World.block_lt_of_cell? w _ hx414_1)).trans hx414_1
                      replace hx414_2 := (HB.out.cell (World.block_lt_of_cell? w _ hx414_2)).trans hx414_2
                      replace p414 := eq_true p414
                      replace q414 := eq_true q414
                      go_wp2
                      repeat (go_quiet (fail); try go_wp2)
                      go_ret
                      exact ⟨by first | rfl | (simp [errW_none, errW_some] <;> rfl) | (simp [*, errW_none, errW_some] <;> rfl), by repeat (first | (with_reducible first | exact HB.out | apply below_alloc | apply pw_below_drewN | apply below_drew1 | refine below_set ?_ GE412.out | refine below_set ?_ GE413.out) | exact HB.out)⟩
                  · rw [if_neg c24] at H
                    exact absurd H (by simp)
                · rw [if_neg c23] at H
                  exact absurd H (by simp)
              · rw [if_neg c22] at H
                have c22b0 : (a1_0 == 19) = false := beq_eq_false_iff_ne.mpr c22
                have c22b1 : (a1_0 != 19) = true := bne_iff_ne.mpr c22
                obtain rfl := Option.some.inj H
                have hnb32 := NB413_412.out
                have hnc32 := NB412_413.out
                have hcz33_0 : wc.cell? ⟨gb413, 0, none⟩ = some (.int .i64 a1_0) := (blk_cell BK413.out 0).trans rfl
                have hcz33_1 : wc.cell? ⟨gb413, 1, none⟩ = some (.int .i64 a1_1) := (blk_cell BK413.out 1).trans rfl
                have hcz33_2 : wc.cell? ⟨gb413, 2, none⟩ = some (.int .i64 a1_2) := (blk_cell BK413.out 2).trans rfl
                have hcz33_3 : wc.cell? ⟨gb413, 3, none⟩ = some (.int .i64 a1_3) := (blk_cell BK413.out 3).trans rfl
                have hcz33_4 : wc.cell? ⟨gb413, 4, none⟩ = some (.int .i64 a1_4) := (blk_cell BK413.out 4).trans rfl
                have hcz33_5 : wc.cell? ⟨gb413, 5, none⟩ = some (.int .u64 a1_5) := (blk_cell BK413.out 5).trans rfl
                have hfz33_0 := blk_frozen BK413.out 0
                have hfz33_1 := blk_frozen BK413.out 1
                have hfz33_2 := blk_frozen BK413.out 2
                have hfz33_3 := blk_frozen BK413.out 3
                have hfz33_4 := blk_frozen BK413.out 4
                have hfz33_5 := blk_frozen BK413.out 5
                have hcz34_0 : wc.cell? ⟨gb412, 0, none⟩ = some (.slice A0_0 l0_0.length c0_0) := (blk_cell BK412.out 0).trans rfl
                have hcz34_1 : wc.cell? ⟨gb412, 1, none⟩ = some (.slice A0_1 l0_1.length c0_1) := (blk_cell BK412.out 1).trans rfl
                have hfz34_0 := blk_frozen BK412.out 0
                have hfz34_1 := blk_frozen BK412.out 1
                go_wp2
                repeat (go_quiet (fail); try go_wp2)
                go_ret
                exact ⟨by first | rfl | (simp [errW_none, errW_some] <;> rfl) | (simp [*, errW_none, errW_some] <;> rfl), by repeat (first | (with_reducible first | exact HB.out | apply below_alloc | apply pw_below_drewN | apply below_drew1 | refine below_set ?_ GE412.out | refine below_set ?_ GE413.out) | exact HB.out)⟩
          · rw [if_neg c17] at H
            have c17b0 : decide (a1_0 ≤ 20) = false := decide_eq_false c17
            clear c17
            by_cases c35 : a1_0 = 19
            · rw [if_pos c35] at H
              have c35b0 : (a1_0 == 19) = true := beq_iff_eq.mpr c35
              have c35b1 : (a1_0 != 19) = false := bne_eq_false_iff_eq.mpr c35
              clear c35
              by_cases c36 : 0 ≤ a1_3
              · rw [if_pos c36] at H
                have c36b0 : decide (0 ≤ a1_3) = true := decide_eq_true c36
                clear c36
                by_cases c37 : a1_3 < (l0_0.length : Int)
                · rw [if_pos c37] at H
                  have c37b0 : decide (a1_3 < (l0_0.length : Int)) = true := decide_eq_true c37
                  clear c37
                  by_cases c38 : a1_5 ≥ (IntKind.u64.wrap ((rd_T55 l0_0 a1_3).f2))
                  · rw [if_pos c38] at H
                    have c38b0 : decide ((IntKind.u64.wrap ((rd_T55 l0_0 a1_3).f2)) ≤ a1_5) = true := decide_eq_true c38
                    clear c38
                    obtain rfl := Option.some.inj H
                    have hnb39 := NB413_412.out
                    have hnc39 := NB412_413.out
                    have hcz40_0 : wc.cell? ⟨gb413, 0, none⟩ = some (.int .i64 a1_0) := (blk_cell BK413.out 0).trans rfl
                    have hcz40_1 : wc.cell? ⟨gb413, 1, none⟩ = some (.int .i64 a1_1) := (blk_cell BK413.out 1).trans rfl
                    have hcz40_2 : wc.cell? ⟨gb413, 2, none⟩ = some (.int .i64 a1_2) := (blk_cell BK413.out 2).trans rfl
                    have hcz40_3 : wc.cell? ⟨gb413, 3, none⟩ = some (.int .i64 a1_3) := (blk_cell BK413.out 3).trans rfl
                    have hcz40_4 : wc.cell? ⟨gb413, 4, none⟩ = some (.int .i64 a1_4) := (blk_cell BK413.out 4).trans rfl
                    have hcz40_5 : wc.cell? ⟨gb413, 5, none⟩ = some (.int .u64 a1_5) := (blk_cell BK413.out 5).trans rfl
                    have hfz40_0 := blk_frozen BK413.out 0
                    have hfz40_1 := blk_frozen BK413.out 1
                    have hfz40_2 := blk_frozen BK413.out 2
                    have hfz40_3 := blk_frozen BK413.out 3
                    have hfz40_4 := blk_frozen BK413.out 4
                    have hfz40_5 := blk_frozen BK413.out 5
                    have hcz41_0 : wc.cell? ⟨gb412, 0, none⟩ = some (.slice A0_0 l0_0.length c0_0) := (blk_cell BK412.out 0).trans rfl
                    have hcz41_1 : wc.cell? ⟨gb412, 1, none⟩ = some (.slice A0_1 l0_1.length c0_1) := (blk_cell BK412.out 1).trans rfl
                    have hfz41_0 := blk_frozen BK412.out 0
                    have hfz41_1 := blk_frozen BK412.out 1
                    have p415 : 0 ≤ (a1_3 : Int) := of_decide_eq_true (by first | (with_reducible assumption) | assumption)
                    have q415 : a1_3 < (l0_0.length : Int) := of_decide_eq_true (by first | (with_reducible assumption) | assumption)
                    obtain ⟨ad415, e415, hx415_0, hx415_1, hx415_2⟩ := at_T55 HR0_0.out a1_3 p415 q415
                    cases e415
                    replace hx415_0 := (HB.out.cell (World.block_lt_of_cell? w _ hx415_0)).trans hx415_0
                    replace hx415_1 := (HB.out.cell (World.block_lt_of_cell? w _ hx415_1)).trans hx415_1
                    replace hx415_2 := (HB.out.cell (World.block_lt_of_cell? w _ hx415_2)).trans hx415_2
                    replace p415 := eq_true p415
                    replace q415 := eq_true q415
                    go_wp2
                    repeat (go_quiet (fail); try go_wp2)
                    go_ret
                    exact ⟨by first | rfl | (simp [errW_none, errW_some] <;> rfl) | (simp [*, errW_none, errW_some] <;> rfl), by repeat (first | (with_reducible first | exact HB.out | apply below_alloc | apply pw_below_drewN | apply below_drew1 | refine below_set ?_ GE412.out | refine below_set ?_ GE413.out) | exact HB.out)⟩
                  · rw [if_neg c38] at H
                    have c38b0 : decide ((IntKind.u64.wrap ((rd_T55 l0_0 a1_3).f2)) ≤ a1_5) = false := decide_eq_false c38
                    clear c38
                    obtain rfl := Option.some.inj H
                    have hnb42 := NB413_412.out
                    have hnc42 := NB412_413.out
                    have hcz43_0 : wc.cell? ⟨gb413, 0, none⟩ = some (.int .i64 a1_0) := (blk_cell BK413.out 0).trans rfl
                    have hcz43_1 : wc.cell? ⟨gb413, 1, none⟩ = some (.int .i64 a1_1) := (blk_cell BK413.out 1).trans rfl
                    have hcz43_2 : wc.cell? ⟨gb413, 2, none⟩ = some (.int .i64 a1_2) := (blk_cell BK413.out 2).trans rfl
                    have hcz43_3 : wc.cell? ⟨gb413, 3, none⟩ = some (.int .i64 a1_3) := (blk_cell BK413.out 3).trans rfl
                    have hcz43_4 : wc.cell? ⟨gb413, 4, none⟩ = some (.int .i64 a1_4) := (blk_cell BK413.out 4).trans rfl
                    have hcz43_5 : wc.cell? ⟨gb413, 5, none⟩ = some (.int .u64 a1_5) := (blk_cell BK413.out 5).trans rfl
                    have hfz43_0 := blk_frozen BK413.out 0
                    have hfz43_1 := blk_frozen BK413.out 1
                    have hfz43_2 := blk_frozen BK413.out 2
                    have hfz43_3 := blk_frozen BK413.out 3
                    have hfz43_4 := blk_frozen BK413.out 4
                    have hfz43_5 := blk_frozen BK413.out 5
                    have hcz44_0 : wc.cell? ⟨gb412, 0, none⟩ = some (.slice A0_0 l0_0.length c0_0) := (blk_cell BK412.out 0).trans rfl
                    have hcz44_1 : wc.cell? ⟨gb412, 1, none⟩ = some (.slice A0_1 l0_1.length c0_1) := (blk_cell BK412.out 1).trans rfl
                    have hfz44_0 := blk_frozen BK412.out 0
                    have hfz44_1 := blk_frozen BK412.out 1
                    have p415 : 0 ≤ (a1_3 : Int) := of_decide_eq_true (by first | (with_reducible assumption) | assumption)
                    have q415 : a1_3 < (l0_0.length : Int) := of_decide_eq_true (by first | (with_reducible assumption) | assumption)
                    obtain ⟨ad415, e415, hx415_0, hx415_1, hx415_2⟩ := at_T55 HR0_0.out a1_3 p415 q415
                    cases e415
                    replace hx415_0 := (HB.out.cell (World.block_lt_of_cell? w _ hx415_0)).trans hx415_0
                    replace hx415_1 := (HB.out.cell (World.block_lt_of_cell? w _ hx415_1)).trans hx415_1
                    replace hx415_2 := (HB.out.cell (World.block_lt_of_cell? w _ hx415_2)).trans hx415_2
                    replace p415 := eq_true p415
                    replace q415 := eq_true q415
                    go_wp2
                    repeat (go_quiet (fail); try go_wp2)
                    go_ret
                    exact ⟨by first | rfl | (simp [errW_none, errW_some] <;> rfl) | (simp [*, errW_none, errW_some] <;> rfl), by repeat (first | (with_reducible first | exact HB.out | apply below_alloc | apply pw_below_drewN | apply below_drew1 | refine below_set ?_ GE412.out | refine below_set ?_ GE413.out) | exact HB.out)⟩
                · rw [if_neg c37] at H
                  exact absurd H (by simp)
              · rw [if_neg c36] at H
                exact absurd H (by simp)
            · rw [if_neg c35] at H
              have c35b0 : (a1_0 == 19) = false := beq_eq_false_iff_ne.mpr c35
              have c35b1 : (a1_0 != 19) = true := bne_iff_ne.mpr c35
              obtain rfl := Option.some.inj H
              have hnb45 := NB413_412.out
              have hnc45 := NB412_413.out
              have hcz46_0 : wc.cell? ⟨gb413, 0, none⟩ = some (.int .i64 a1_0) := (blk_cell BK413.out 0).trans rfl
              have hcz46_1 : wc.cell? ⟨gb413, 1, none⟩ = some (.int .i64 a1_1) := (blk_cell BK413.out 1).trans rfl
              have hcz46_2 : wc.cell? ⟨gb413, 2, none⟩ = some (.int .i64 a1_2) := (blk_cell BK413.out 2).trans rfl
              have hcz46_3 : wc.cell? ⟨gb413, 3, none⟩ = some (.int .i64 a1_3) := (blk_cell BK413.out 3).trans rfl
              have hcz46_4 : wc.cell? ⟨gb413, 4, none⟩ = some (.int .i64 a1_4) := (blk_cell BK413.out 4).trans rfl
              have hcz46_5 : wc.cell? ⟨gb413, 5, none⟩ = some (.int .u64 a1_5) := (blk_cell BK413.out 5).trans rfl
              have hfz46_0 := blk_frozen BK413.out 0
              have hfz46_1 := blk_frozen BK413.out 1
              have hfz46_2 := blk_frozen BK413.out 2
              have hfz46_3 := blk_frozen BK413.out 3
              have hfz46_4 := blk_frozen BK413.out 4
              have hfz46_5 := blk_frozen BK413.out 5
              go_wp2
              repeat (go_quiet (fail); try go_wp2)
              go_ret
              exact ⟨by first | rfl | (simp [errW_none, errW_some] <;> rfl) | (simp [*, errW_none, errW_some] <;> rfl), by repeat (first | (with_reducible first | exact HB.out | apply below_alloc | apply pw_below_drewN | apply below_drew1 | refine below_set ?_ GE412.out | refine below_set ?_ GE413.out) | exact HB.out)⟩
        · rw [if_neg c16] at H
          have c16b0 : decide (18 ≤ a1_0) = false := decide_eq_false c16
          clear c16
          by_cases c47 : a1_0 = 19
          · rw [if_pos c47] at H
            have c47b0 : (a1_0 == 19) = true := beq_iff_eq.mpr c47
            have c47b1 : (a1_0 != 19) = false := bne_eq_false_iff_eq.mpr c47
            clear c47
            by_cases c48 : 0 ≤ a1_3
            · rw [if_pos c48] at H
              have c48b0 : decide (0 ≤ a1_3) = true := decide_eq_true c48
              clear c48
              by_cases c49 : a1_3 < (l0_0.length : Int)
              · rw [if_pos c49] at H
                have c49b0 : decide (a1_3 < (l0_0.length : Int)) = true := decide_eq_true c49
                clear c49
                by_cases c50 : a1_5 ≥ (IntKind.u64.wrap ((rd_T55 l0_0 a1_3).f2))
                · rw [if_pos c50] at H
                  have c50b0 : decide ((IntKind.u64.wrap ((rd_T55 l0_0 a1_3).f2)) ≤ a1_5) = true := decide_eq_true c50
                  clear c50
                  obtain rfl := Option.some.inj H
                  have hnb51 := NB413_412.out
                  have hnc51 := NB412_413.out
                  have hcz52_0 : wc.cell? ⟨gb413, 0, none⟩ = some (.int .i64 a1_0) := (blk_cell BK413.out 0).trans rfl
                  have hcz52_1 : wc.cell? ⟨gb413, 1, none⟩ = some (.int .i64 a1_1) := (blk_cell BK413.out 1).trans rfl
                  have hcz52_2 : wc.cell? ⟨gb413, 2, none⟩ = some (.int .i64 a1_2) := (blk_cell BK413.out 2).trans rfl
                  have hcz52_3 : wc.cell? ⟨gb413, 3, none⟩ = some (.int .i64 a1_3) := (blk_cell BK413.out 3).trans rfl
                  have hcz52_4 : wc.cell? ⟨gb413, 4, none⟩ = some (.int .i64 a1_4) := (blk_cell BK413.out 4).trans rfl
                  have hcz52_5 : wc.cell? ⟨gb413, 5, none⟩ = some (.int .u64 a1_5) := (blk_cell BK413.out 5).trans rfl
                  have hfz52_0 := blk_frozen BK413.out 0
                  have hfz52_1 := blk_frozen BK413.out 1
                  have hfz52_2 := blk_frozen BK413.out 2
                  have hfz52_3 := blk_frozen BK413.out 3
                  have hfz52_4 := blk_frozen BK413.out 4
                  have hfz52_5 := blk_frozen BK413.out 5
                  have hcz53_0 : wc.cell? ⟨gb412, 0, none⟩ = some (.slice A0_0 l0_0.length c0_0) := (blk_cell BK412.out 0).trans rfl
                  have hcz53_1 : wc.cell? ⟨gb412, 1, none⟩ = some (.slice A0_1 l0_1.length c0_1) := (blk_cell BK412.out 1).trans rfl
                  have hfz53_0 := blk_frozen BK412.out 0
                  have hfz53_1 := blk_frozen BK412.out 1
                  have p416 : 0 ≤ (a1_3 : Int) := of_decide_eq_true (by first | (with_reducible assumption) | assumption)
                  have q416 : a1_3 < (l0_0.length : Int) := of_decide_eq_true (by first | (with_reducible assumption) | assumption)
                  obtain ⟨ad416, e416, hx416_0, hx416_1, hx416_2⟩ := at_T55 HR0_0.out a1_3 p416 q416
                  cases e416
                  replace hx416_0 := (HB.out.cell (World.block_lt_of_cell? w _ hx416_0)).trans hx416_0
                  replace hx416_1 := (HB.out.cell (World.block_lt_of_cell? w _ hx416_1)).trans hx416_1
                  replace hx416_2 := (HB.out.cell (World.block_lt_of_cell? w _ hx416_2)).trans hx416_2
                  replace p416 := eq_true p416
                  replace q416 := eq_true q416
                  go_wp2
                  repeat (go_quiet (fail); try go_wp2)
                  go_ret
                  exact ⟨by first | rfl | (simp [errW_none, errW_some] <;> rfl) | (simp [*, errW_none, errW_some] <;> rfl), by repeat (first | (with_reducible first | exact HB.out | apply below_alloc | apply pw_below_drewN | apply below_drew1 | refine below_set ?_ GE412.out | refine below_set ?_ GE413.out) | exact HB.out)⟩
                · rw [if_neg c50] at H
                  have c50b0 : decide ((IntKind.u64.wrap ((rd_T55 l0_0 a1_3).f2)) ≤ a1_5) = false := decide_eq_false c50
                  clear c50
                  obtain rfl := Option.some.inj H
                  have hnb54 := NB413_412.out
                  have hnc54 := NB412_413.out
                  have hcz55_0 : wc.cell? ⟨gb413, 0, none⟩ = some (.int .i64 a1_0) := (blk_cell BK413.out 0).trans rfl
                  have hcz55_1 : wc.cell? ⟨gb413, 1, none⟩ = some (.int .i64 a1_1) := (blk_cell BK413.out 1).trans rfl
                  have hcz55_2 : wc.cell? ⟨gb413, 2, none⟩ = some (.int .i64 a1_2) := (blk_cell BK413.out 2).trans rfl
                  have hcz55_3 : wc.cell? ⟨gb413, 3, none⟩ = some (.int .i64 a1_3) := (blk_cell BK413.out 3).trans rfl
                  have hcz55_4 : wc.cell? ⟨gb413, 4, none⟩ = some (.int .i64 a1_4) := (blk_cell BK413.out 4).trans rfl
                  have hcz55_5 : wc.cell? ⟨gb413, 5, none⟩ = some (.int .u64 a1_5) := (blk_cell BK413.out 5).trans rfl
                  have hfz55_0 := blk_frozen BK413.out 0
                  have hfz55_1 := blk_frozen BK413.out 1
                  have hfz55_2 := blk_frozen BK413.out 2
                  have hfz55_3 := blk_frozen BK413.out 3
                  have hfz55_4 := blk_frozen BK413.out 4
                  have hfz55_5 := blk_frozen BK413.out 5
                  have hcz56_0 : wc.cell? ⟨gb412, 0, none⟩ = some (.slice A0_0 l0_0.length c0_0) := (blk_cell BK412.out 0).trans rfl
                  have hcz56_1 : wc.cell? ⟨gb412, 1, none⟩ = some (.slice A0_1 l0_1.length c0_1) := (blk_cell BK412.out 1).trans rfl
                  have hfz56_0 := blk_frozen BK412.out 0
                  have hfz56_1 := blk_frozen BK412.out 1
                  have p416 : 0 ≤ (a1_3 : Int) := of_decide_eq_true (by first | (with_reducible assumption) | assumption)
                  have q416 : a1_3 < (l0_0.length : Int) := of_decide_eq_true (by first | (with_reducible assumption) | assumption)
                  obtain ⟨ad416, e416, hx416_0, hx416_1, hx416_2⟩ := at_T55 HR0_0.out a1_3 p416 q416
                  cases e416
                  replace hx416_0 := (HB.out.cell (World.block_lt_of_cell? w _ hx416_0)).trans hx416_0
                  replace hx416_1 := (HB.out.cell (World.block_lt_of_cell? w _ hx416_1)).trans hx416_1
                  replace hx416_2 := (HB.out.cell (World.block_lt_of_cell? w _ hx416_2)).trans hx416_2
                  replace p416 := eq_true p416
                  replace q416 := eq_true q416
                  go_wp2
                  repeat (go_quiet (fail); try go_wp2)
                  go_ret
                  exact ⟨by first | rfl | (simp [errW_none, errW_some] <;> rfl) | (simp [*, errW_none, errW_some] <;> rfl), by repeat (first | (with_reducible first | exact HB.out | apply below_alloc | apply pw_below_drewN | apply below_drew1 | refine below_set ?_ GE412.out | refine below_set ?_ GE413.out) | exact HB.out)⟩
              · rw [if_neg c49] at H
                exact absurd H (by simp)
            · rw [if_neg c48] at H
              exact absurd H (by simp)
          · rw [if_neg c47] at H
            have c47b0 : (a1_0 == 19) = false := beq_eq_false_iff_ne.mpr c47
            have c47b1 : (a1_0 != 19) = true := bne_iff_ne.mpr c47
            obtain rfl := Option.some.inj H
            have hnb57 := NB413_412.out
            have hnc57 := NB412_413.out
            have hcz58_0 : wc.cell? ⟨gb413, 0, none⟩ = some (.int .i64 a1_0) := (blk_cell BK413.out 0).trans rfl
            have hcz58_1 : wc.cell? ⟨gb413, 1, none⟩ = some (.int .i64 a1_1) := (blk_cell BK413.out 1).trans rfl
            have hcz58_2 : wc.cell? ⟨gb413, 2, none⟩ = some (.int .i64 a1_2) := (blk_cell BK413.out 2).trans rfl
            have hcz58_3 : wc.cell? ⟨gb413, 3, none⟩ = some (.int .i64 a1_3) := (blk_cell BK413.out 3).trans rfl
            have hcz58_4 : wc.cell? ⟨gb413, 4, none⟩ = some (.int .i64 a1_4) := (blk_cell BK413.out 4).trans rfl
            have hcz58_5 : wc.cell? ⟨gb413, 5, none⟩ = some (.int .u64 a1_5) := (blk_cell BK413.out 5).trans rfl
            have hfz58_0 := blk_frozen BK413.out 0
            have hfz58_1 := blk_frozen BK413.out 1
            have hfz58_2 := blk_frozen BK413.out 2
            have hfz58_3 := blk_frozen BK413.out 3
            have hfz58_4 := blk_frozen BK413.out 4
            have hfz58_5 := blk_frozen BK413.out 5
            go_wp2
            repeat (go_quiet (fail); try go_wp2)
            go_ret
            exact ⟨by first | rfl | (simp [errW_none, errW_some] <;> rfl) | (simp [*, errW_none, errW_some] <;> rfl), by repeat (first | (with_reducible first | exact HB.out | apply below_alloc | apply pw_below_drewN | apply below_drew1 | refine below_set ?_ GE412.out | refine below_set ?_ GE413.out) | exact HB.out)⟩

end Go.Proofs.Ythoejimgdhfmiaa.PCheckTells
