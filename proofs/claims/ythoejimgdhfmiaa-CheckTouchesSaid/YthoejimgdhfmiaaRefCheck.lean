/- Layer 11's reference: Check, as the kit's printer walks it, but for one leaf that cannot be (6 = 0). No condition. -/
import Derived.Test.YthoejimgdhfmiaaPCheckTellsx0
import Derived.Test.YthoejimgdhfmiaaPCheckTellsx11
import Derived.Test.YthoejimgdhfmiaaPCheckTellsx13
import Derived.Test.YthoejimgdhfmiaaPCheckTellsx14
namespace Go.Proofs.Ythoejimgdhfmiaa.PCheckTells
open Go.RowKit Go.Proofs.YthoejimgdhfmiaaW.PrintWords Go.Proofs.YthoejimgdhfmiaaW.PrintLast Go.Proofs.YthoejimgdhfmiaaW.PrintMore
attribute [local go_sem] max2_int min2_int max_two min_two max_three min_three max_four min_four   -- for this text's walks alone
set_option linter.unusedVariables false
set_option linter.unusedSimpArgs false

/-! ### rondeauref11_Check: function 13 -/
mutual
def rondeauref11_Check.j0 : Nat → Bool → List (S55) → List (List (S48)) → Option (Int × Int × Int)
  | 0, _, _, _ => none
  | k + 1, x25, x418000, x418001 => if x25 = true then (some (0, 0, 1)) else (rondeauref11_Check.l0 k 0 x418000 x418001)
def rondeauref11_Check.l0 : Nat → Int → List (S55) → List (List (S48)) → Option (Int × Int × Int)
  | 0, _, _, _ => none
  | k + 1, x5, x418000, x418001 => if x5 < (x418000.length : Int) then (if 0 ≤ x5 then ((rondeauref11_ring.f ((rd_T55 x418000 x5).f0) ((rd_T55 x418000 x5).f1) ((rd_T55 x418000 x5).f2)).bind fun t419 => (if t419 = true then (rondeauref11_Check.l0 k (wrap64 (x5 + 1)) x418000 x418001) else (some ((-1), x5, 7)))) else (none)) else (rondeauref11_Check.l1 k 0 x418000 x418001)
def rondeauref11_Check.l1 : Nat → Int → List (S55) → List (List (S48)) → Option (Int × Int × Int)
  | 0, _, _, _ => none
  | k + 1, x6, x418000, x418001 => if x6 < (x418001.length : Int) then (if 0 ≤ x6 then (if ((rd_L4 x418001 x6).length : Int) > 256 then (some (x6, 256, 4)) else (rondeauref11_Check.l2 k x6 (rd_L4 x418001 x6) 0 x418000 x418001)) else (none)) else (some (0, 0, 0))
def rondeauref11_Check.l2 : Nat → Int → List (S48) → Int → List (S55) → List (List (S48)) → Option (Int × Int × Int)
  | 0, _, _, _, _, _ => none
  | k + 1, x6, x7, x8, x418000, x418001 => if x8 < (x7.length : Int) then (if 0 ≤ x8 then ((rondeauref09_Right.f k ((rd_T48 x7 x8).f0) ((rd_T48 x7 x8).f1) ((rd_T48 x7 x8).f2) ((rd_T48 x7 x8).f3) ((rd_T48 x7 x8).f4) ((rd_T48 x7 x8).f5)).bind fun t422 => (if t422 = true then ((rondeauref11_instr.f k x418000 x418001 ((rd_T48 x7 x8).f0) ((rd_T48 x7 x8).f1) ((rd_T48 x7 x8).f2) ((rd_T48 x7 x8).f3) ((rd_T48 x7 x8).f4) ((rd_T48 x7 x8).f5) (x7.length : Int)).bind fun t424 => (if t424 = 0 then (rondeauref11_Check.l2 k x6 x7 (wrap64 (x8 + 1)) x418000 x418001) else (some (x6, x8, t424)))) else (if 6 = 0 then (rondeauref11_Check.l2 k x6 x7 (wrap64 (x8 + 1)) x418000 x418001) else (some (x6, x8, 6))))) else (none)) else (rondeauref11_Check.l1 k (wrap64 (x6 + 1)) x418000 x418001)
end
def rondeauref11_Check.f (k : Nat) (l0_0 : List (S55)) (l0_1 : List (List (S48))) : Option (Int × Int × Int) := if (l0_1.length : Int) = 0 then (rondeauref11_Check.j0 k true l0_0 l0_1) else (if (l0_1.length : Int) > 8 then (rondeauref11_Check.j0 k true l0_0 l0_1) else (rondeauref11_Check.j0 k (decide ((l0_0.length : Int) > 8)) l0_0 l0_1))
theorem rondeauref11_Check.mono_l : ∀ k, (∀ y0 y1 y2, LeO (rondeauref11_Check.j0 k y0 y1 y2) (rondeauref11_Check.j0 (k + 1) y0 y1 y2)) ∧ (∀ y0 y1 y2, LeO (rondeauref11_Check.l0 k y0 y1 y2) (rondeauref11_Check.l0 (k + 1) y0 y1 y2)) ∧ (∀ y0 y1 y2, LeO (rondeauref11_Check.l1 k y0 y1 y2) (rondeauref11_Check.l1 (k + 1) y0 y1 y2)) ∧ (∀ y0 y1 y2 y3 y4, LeO (rondeauref11_Check.l2 k y0 y1 y2 y3 y4) (rondeauref11_Check.l2 (k + 1) y0 y1 y2 y3 y4))
  | 0 => ⟨fun _ _ _ r h => by simp [rondeauref11_Check.j0] at h, fun _ _ _ r h => by simp [rondeauref11_Check.l0] at h, fun _ _ _ r h => by simp [rondeauref11_Check.l1] at h, fun _ _ _ _ _ r h => by simp [rondeauref11_Check.l2] at h⟩
  | k + 1 => by
    obtain ⟨ih0, ih1, ih2, ih3⟩ := rondeauref11_Check.mono_l k
    refine ⟨?_, ?_, ?_, ?_⟩
    · intro y0 y1 y2
      unfold rondeauref11_Check.j0
      repeat' first
      | (with_reducible exact ih0 _ _ _)
      | (with_reducible exact ih1 _ _ _)
      | (with_reducible exact ih2 _ _ _)
      | (with_reducible exact ih3 _ _ _ _ _)
      | (with_reducible exact rondeauref09_Right.mono _ _ _ _ _ _ _)
      | (with_reducible exact rondeauref11_instr.mono _ _ _ _ _ _ _ _ _ _)
      | (with_reducible exact LeO.refl _)
      | (with_reducible exact LeO.none _)
      | (with_reducible refine LeO.ite ?_ ?_)
      | (with_reducible refine LeO.bind ?_ (fun _ => ?_))
      | exact ih0 _ _ _
      | exact ih1 _ _ _
      | exact ih2 _ _ _
      | exact ih3 _ _ _ _ _
      | exact rondeauref09_Right.mono _ _ _ _ _ _ _
      | exact rondeauref11_instr.mono _ _ _ _ _ _ _ _ _ _
      | exact LeO.none _
      | refine LeO.ite ?_ ?_
      | refine LeO.bind ?_ (fun _ => ?_)
    · intro y0 y1 y2
      unfold rondeauref11_Check.l0
      repeat' first
      | (with_reducible exact ih0 _ _ _)
      | (with_reducible exact ih1 _ _ _)
      | (with_reducible exact ih2 _ _ _)
      | (with_reducible exact ih3 _ _ _ _ _)
      | (with_reducible exact rondeauref09_Right.mono _ _ _ _ _ _ _)
      | (with_reducible exact rondeauref11_instr.mono _ _ _ _ _ _ _ _ _ _)
      | (with_reducible exact LeO.refl _)
      | (with_reducible exact LeO.none _)
      | (with_reducible refine LeO.ite ?_ ?_)
      | (with_reducible refine LeO.bind ?_ (fun _ => ?_))
      | exact ih0 _ _ _
      | exact ih1 _ _ _
      | exact ih2 _ _ _
      | exact ih3 _ _ _ _ _
      | exact rondeauref09_Right.mono _ _ _ _ _ _ _
      | exact rondeauref11_instr.mono _ _ _ _ _ _ _ _ _ _
      | exact LeO.none _
      | refine LeO.ite ?_ ?_
      | refine LeO.bind ?_ (fun _ => ?_)
    · intro y0 y1 y2
      unfold rondeauref11_Check.l1
      repeat' first
      | (with_reducible exact ih0 _ _ _)
      | (with_reducible exact ih1 _ _ _)
      | (with_reducible exact ih2 _ _ _)
      | (with_reducible exact ih3 _ _ _ _ _)
      | (with_reducible exact rondeauref09_Right.mono _ _ _ _ _ _ _)
      | (with_reducible exact rondeauref11_instr.mono _ _ _ _ _ _ _ _ _ _)
      | (with_reducible exact LeO.refl _)
      | (with_reducible exact LeO.none _)
      | (with_reducible refine LeO.ite ?_ ?_)
      | (with_reducible refine LeO.bind ?_ (fun _ => ?_))
      | exact ih0 _ _ _
      | exact ih1 _ _ _
      | exact ih2 _ _ _
      | exact ih3 _ _ _ _ _
      | exact rondeauref09_Right.mono _ _ _ _ _ _ _
      | exact rondeauref11_instr.mono _ _ _ _ _ _ _ _ _ _
      | exact LeO.none _
      | refine LeO.ite ?_ ?_
      | refine LeO.bind ?_ (fun _ => ?_)
    · intro y0 y1 y2 y3 y4
      unfold rondeauref11_Check.l2
      repeat' first
      | (with_reducible exact ih0 _ _ _)
      | (with_reducible exact ih1 _ _ _)
      | (with_reducible exact ih2 _ _ _)
      | (with_reducible exact ih3 _ _ _ _ _)
      | (with_reducible exact rondeauref09_Right.mono _ _ _ _ _ _ _)
      | (with_reducible exact rondeauref11_instr.mono _ _ _ _ _ _ _ _ _ _)
      | (with_reducible exact LeO.refl _)
      | (with_reducible exact LeO.none _)
      | (with_reducible refine LeO.ite ?_ ?_)
      | (with_reducible refine LeO.bind ?_ (fun _ => ?_))
      | exact ih0 _ _ _
      | exact ih1 _ _ _
      | exact ih2 _ _ _
      | exact ih3 _ _ _ _ _
      | exact rondeauref09_Right.mono _ _ _ _ _ _ _
      | exact rondeauref11_instr.mono _ _ _ _ _ _ _ _ _ _
      | exact LeO.none _
      | refine LeO.ite ?_ ?_
      | refine LeO.bind ?_ (fun _ => ?_)
theorem rondeauref11_Check.mono : ∀ a0 a1 k, LeO (rondeauref11_Check.f k a0 a1) (rondeauref11_Check.f (k + 1) a0 a1) := by
  intro a0 a1 k
  obtain ⟨ih0, ih1, ih2, ih3⟩ := rondeauref11_Check.mono_l k
  unfold rondeauref11_Check.f
  repeat' first
      | (with_reducible exact ih0 _ _ _)
      | (with_reducible exact ih1 _ _ _)
      | (with_reducible exact ih2 _ _ _)
      | (with_reducible exact ih3 _ _ _ _ _)
      | (with_reducible exact rondeauref09_Right.mono _ _ _ _ _ _ _)
      | (with_reducible exact rondeauref11_instr.mono _ _ _ _ _ _ _ _ _ _)
      | (with_reducible exact LeO.refl _)
      | (with_reducible exact LeO.none _)
      | (with_reducible refine LeO.ite ?_ ?_)
      | (with_reducible refine LeO.bind ?_ (fun _ => ?_))
      | exact ih0 _ _ _
      | exact ih1 _ _ _
      | exact ih2 _ _ _
      | exact ih3 _ _ _ _ _
      | exact rondeauref09_Right.mono _ _ _ _ _ _ _
      | exact rondeauref11_instr.mono _ _ _ _ _ _ _ _ _ _
      | exact LeO.none _
      | refine LeO.ite ?_ ?_
      | refine LeO.bind ?_ (fun _ => ?_)
def rondeauref11_Check.T19 : Bool × List (List Nat × List Nat) := (true, [([], []), ([], []), ([], []), ([1, 2], [1, 2]), ([3], [3]), ([], []), ([5], [5]), ([0, 4, 6], [0, 4, 6]), ([7, 7, 0, 1, 2, 3, 4, 5, 6, 7], [7])])
def rondeauref11_Check.B19 : List Nat := [0, 0, 0, 6, 14, 0, 32, 127, 255]
theorem rondeauref11_Check.tab19 : rtab .any (opsOf Try.f13 19) = rondeauref11_Check.T19 := by kernel_rfl
theorem rondeauref11_Check.bits19 : waitsOk rondeauref11_Check.T19.2 rondeauref11_Check.B19 = true := by kernel_rfl
set_option maxHeartbeats 8000000 in
set_option maxRecDepth 100000 in
theorem rondeauref11_Check.calls (k : Nat) (A0_0 : Option Addr) (c0_0 : Nat) (l0_0 : List (S55)) (A0_1 : Option Addr) (c0_1 : Nat) (l0_1 : List (List (S48))) (r1 : Int) (r2 : Int) (r3 : Int) (w : World) (hr0_0 : Kd.C k55 w A0_0 l0_0.length l0_0) (hc0_0 : l0_0.length ≤ c0_0) (hr0_1 : Kd.C (Kd.slice 48 k48) w A0_1 l0_1.length l0_1) (hc0_1 : l0_1.length ≤ c0_1) (h : rondeauref11_Check.f k l0_0 l0_1 = some (r1, r2, r3)) :
    Calls Try.prog 13 #[.agg #[.slice A0_0 l0_0.length c0_0, .slice A0_1 l0_1.length c0_1]] w fun e w' => e = .returned (.tuple #[.int .i64 r1, .int .i64 r2, .int .i64 r3]) ∧ Below w.heap.size w w' := by
  have hu25 := Try.underlying25
  have hu55 := Try.underlying55
  have hu48 := Try.underlying48
  have HR0_0 := Aside0.mk hr0_0
  have HC0_0 := Aside0.mk hc0_0
  clear hr0_0 hc0_0
  have HR0_1 := Aside0.mk hr0_1
  have HC0_1 := Aside0.mk hc0_1
  clear hr0_1 hc0_1
  have HB := Aside0.mk (Below.refl w.heap.size w)
  have H : (if (l0_1.length : Int) = 0 then (rondeauref11_Check.j0 k true l0_0 l0_1) else (if (l0_1.length : Int) > 8 then (rondeauref11_Check.j0 k true l0_0 l0_1) else (rondeauref11_Check.j0 k (decide ((l0_0.length : Int) > 8)) l0_0 l0_1))) = some (r1, r2, r3) := h
  clear h
  have HC2 := Aside0.mk H
  clear H
  go_enter Try.func13, Try.ntmps13
  go_upto_region 1 with (first | ((with_reducible refine gate_dst (N := 1) rfl ?_); (try (refine gate_guard (by rfl) ?_; dsimp only)); refine box_event ?hg (N := 1) ?hd (cs := #[.slice A0_0 l0_0.length c0_0, .slice A0_1 l0_1.length c0_1]) (t := 25) ?hr ?_; (case hd => rfl); (case hg => rfl); (case hr => first | (go_simp; done) | (go_simp; rfl)); intro gb417 hg w3 hbox hb; have n0_ := Aside0.mk (below_step (by repeat (first | (with_reducible first | exact HB.out | apply below_alloc | apply pw_below_drewN | apply below_drew1) | exact HB.out)) hb); have n1_ := Aside0.mk (hbox); have n2_ := Aside0.mk ((by rw [hg]; exact (below_size (by repeat (first | (with_reducible first | exact HB.out | apply below_alloc | apply pw_below_drewN | apply below_drew1) | exact HB.out))) : w.heap.size ≤ gb417)); have n3_ := Aside0.mk ((by rw [hg]; exact (below_size (by repeat (first | (with_reducible first | exact HB.out | apply below_alloc | apply pw_below_drewN | apply below_drew1) | exact HB.out))) : w.heap.size ≤ gb417)); clear HB; have HB := n0_; have BK417 := n1_; have GW417 := n2_; have GE417 := n3_; clear n0_ n1_ n2_ n3_; clear hb hbox hg))
  (try simp only [Act.put, List.setIfInBounds_toArray, List.set_cons_zero, List.set_cons_succ])
  go_cut [25] (fun v25 wc => ∃ (kq : Nat) (x25_1 : Bool), v25 = .bool x25_1 ∧ Aside0 (rondeauref11_Check.j0 kq x25_1 l0_0 l0_1 = some (r1, r2, r3)) ∧ Aside0 (kq ≤ k) ∧ Aside0 (wc.heap[gb417]? = some (.cells #[(.slice A0_0 l0_0.length c0_0), (.slice A0_1 l0_1.length c0_1)] 25 (0, 0))) ∧ Aside0 (Below w.heap.size w wc))
  case first =>
    have H := HC2.out
    clear HC2
    by_cases c4 : (l0_1.length : Int) = 0
    · rw [if_pos c4] at H
      have c4b0 : ((l0_1.length : Int) == 0) = true := beq_iff_eq.mpr c4
      have c4b1 : ((l0_1.length : Int) != 0) = false := bne_eq_false_iff_eq.mpr c4
      clear c4
      (first | rw [c4b0] | (simp only [i64_w, i32_w]; rw [c4b0]) | skip)
      have H' := Aside0.mk H
      clear H
      have hcz5_0 : w3.cell? ⟨gb417, 0, none⟩ = some (.slice A0_0 l0_0.length c0_0) := (blk_cell BK417.out 0).trans rfl
      have hcz5_1 : w3.cell? ⟨gb417, 1, none⟩ = some (.slice A0_1 l0_1.length c0_1) := (blk_cell BK417.out 1).trans rfl
      have hfz5_0 := blk_frozen BK417.out 0
      have hfz5_1 := blk_frozen BK417.out 1
      go_wp2
      go_meet
      case rel => exact ⟨_, (true), (by first | rfl | (simp; done) | (simp [*]; done)), H', ⟨by first | omega | exact Nat.le_refl _⟩, ⟨by (with_reducible repeat (first | refine blk_drewN ?_ _ | refine blk_drew ?_ | refine blk_alloc ?_ _)); exact BK417.out⟩, ⟨by repeat (first | (with_reducible first | exact HB.out | apply below_alloc | apply pw_below_drewN | apply below_drew1 | refine below_set ?_ GE417.out) | exact HB.out)⟩⟩
    · rw [if_neg c4] at H
      have c4b0 : ((l0_1.length : Int) == 0) = false := beq_eq_false_iff_ne.mpr c4
      have c4b1 : ((l0_1.length : Int) != 0) = true := bne_iff_ne.mpr c4
      have c4b2 : ¬ (l0_1 = []) := fun h_ => c4 (by rw [h_]; rfl)
      (first | rw [c4b0] | (simp only [i64_w, i32_w]; rw [c4b0]) | skip)
      by_cases c6 : (l0_1.length : Int) > 8
      · rw [if_pos c6] at H
        have c6b0 : decide (8 < (l0_1.length : Int)) = true := decide_eq_true c6
        have c6b1 : decide (8 < l0_1.length) = true := decide_eq_true (by omega)
        clear c6
        have H' := Aside0.mk H
        clear H
        have hcz7_0 : w3.cell? ⟨gb417, 0, none⟩ = some (.slice A0_0 l0_0.length c0_0) := (blk_cell BK417.out 0).trans rfl
        have hcz7_1 : w3.cell? ⟨gb417, 1, none⟩ = some (.slice A0_1 l0_1.length c0_1) := (blk_cell BK417.out 1).trans rfl
        have hfz7_0 := blk_frozen BK417.out 0
        have hfz7_1 := blk_frozen BK417.out 1
        go_wp2
        go_meet
        case rel => exact ⟨_, (true), (by first | rfl | (simp; done) | (simp [*]; done)), H', ⟨by first | omega | exact Nat.le_refl _⟩, ⟨by (with_reducible repeat (first | refine blk_drewN ?_ _ | refine blk_drew ?_ | refine blk_alloc ?_ _)); exact BK417.out⟩, ⟨by repeat (first | (with_reducible first | exact HB.out | apply below_alloc | apply pw_below_drewN | apply below_drew1 | refine below_set ?_ GE417.out) | exact HB.out)⟩⟩
      · rw [if_neg c6] at H
        have c6b0 : decide (8 < (l0_1.length : Int)) = false := decide_eq_false c6
        have c6b1 : decide (8 < l0_1.length) = false := decide_eq_false (by omega)
        clear c6
        have H' := Aside0.mk H
        clear H
        have hcz8_0 : w3.cell? ⟨gb417, 0, none⟩ = some (.slice A0_0 l0_0.length c0_0) := (blk_cell BK417.out 0).trans rfl
        have hcz8_1 : w3.cell? ⟨gb417, 1, none⟩ = some (.slice A0_1 l0_1.length c0_1) := (blk_cell BK417.out 1).trans rfl
        have hfz8_0 := blk_frozen BK417.out 0
        have hfz8_1 := blk_frozen BK417.out 1
        go_wp2
        go_meet
        case rel => exact ⟨_, (decide ((l0_0.length : Int) > 8)), (by first | rfl | (simp; done) | (simp [*]; done)), H', ⟨by first | omega | exact Nat.le_refl _⟩, ⟨by (with_reducible repeat (first | refine blk_drewN ?_ _ | refine blk_drew ?_ | refine blk_alloc ?_ _)); exact BK417.out⟩, ⟨by repeat (first | (with_reducible first | exact HB.out | apply below_alloc | apply pw_below_drewN | apply below_drew1 | refine below_set ?_ GE417.out) | exact HB.out)⟩⟩
  case rest =>
    clear HC2
    try clear c1
    try clear p2
    try clear c4
    try clear c4b0
    try clear c4b1
    try clear c4b2
    try clear c6
    try clear c6b0
    try clear c6b1
    try clear hcz5_0
    try clear hcz5_1
    try clear hcz7_0
    try clear hcz7_1
    try clear hcz8_0
    try clear hcz8_1
    try clear hfz5_0
    try clear hfz5_1
    try clear hfz7_0
    try clear hfz7_1
    try clear hfz8_0
    try clear hfz8_1
    obtain ⟨kq, x25_1, rfl, HA, HJ1, BK417, HB⟩ := hcut
    cases kq with
    | zero => exact absurd HA.out (by simp [rondeauref11_Check.j0])
    | succ kj1 =>
      have H := HA.out
      clear HA
      simp only [rondeauref11_Check.j0] at H
      by_cases c9 : x25_1 = true
      · subst c9
        have H1 : (some (0, 0, 1)) = some (r1, r2, r3) := by rw [if_pos rfl] at H; exact H
        clear H
        have H := H1
        clear H1
        simp only [Option.some.injEq, Prod.mk.injEq] at H
        obtain ⟨rfl, rfl, rfl⟩ := H
        go_wp2
        go_ret3
        exact ⟨by first | rfl | (simp [errW_none, errW_some] <;> rfl) | (simp [*, errW_none, errW_some] <;> rfl), by repeat (first | (with_reducible first | exact HB.out | apply below_alloc | apply pw_below_drewN | apply below_drew1 | refine below_set ?_ GE417.out) | exact HB.out)⟩
      · replace c9 := Bool.eq_false_iff.mpr c9
        subst c9
        have H1 : (rondeauref11_Check.l0 kj1 0 l0_0 l0_1) = some (r1, r2, r3) := by rw [if_neg (show ¬ (false = true) by decide)] at H; exact H
        clear H
        have H := H1
        clear H1
        have H' := Aside0.mk H
        clear H
        go_wp2
        go_loopg [5] kj1 (fun kq v5 w' => ∃ (x5_2 : Int), v5 = .int .i64 x5_2 ∧ Aside0 (rondeauref11_Check.l0 kq x5_2 l0_0 l0_1 = some (r1, r2, r3)) ∧ Aside0 (kq ≤ kj1) ∧ Aside0 (w'.heap[gb417]? = some (.cells #[(.slice A0_0 l0_0.length c0_0), (.slice A0_1 l0_1.length c0_1)] 25 (0, 0))) ∧ Aside0 (Below w.heap.size w w'))
        case atStart => exact ⟨(0), (by first | rfl | (simp; done) | (simp [*]; done)), H', ⟨Nat.le_refl _⟩, ⟨by (with_reducible repeat (first | refine blk_drewN ?_ _ | refine blk_drew ?_ | refine blk_alloc ?_ _)); exact BK417.out⟩, ⟨by repeat (first | (with_reducible first | exact HB.out | apply below_alloc | apply pw_below_drewN | apply below_drew1 | refine below_set ?_ GE417.out) | exact HB.out)⟩⟩
        case round =>
          clear H'
          try clear c1
          try clear p2
          try clear c4
          try clear c4b0
          try clear c4b1
          try clear c4b2
          try clear c6
          try clear c6b0
          try clear c6b1
          try clear c9
          try clear hcz5_0
          try clear hcz5_1
          try clear hcz7_0
          try clear hcz7_1
          try clear hcz8_0
          try clear hcz8_1
          try clear hfz5_0
          try clear hfz5_1
          try clear hfz7_0
          try clear hfz7_1
          try clear hfz8_0
          try clear hfz8_1
          try clear p2
          obtain ⟨x5_2, rfl, HA, HK2, BK417, HB⟩ := hrel
          cases gk with
          | zero => exact absurd HA.out (by simp [rondeauref11_Check.l0])
          | succ k2 =>
            have H := HA.out
            clear HA
            simp only [rondeauref11_Check.l0] at H
            by_cases c10 : x5_2 < (l0_0.length : Int)
            · rw [if_pos c10] at H
              have c10b0 : decide (x5_2 < (l0_0.length : Int)) = true := decide_eq_true c10
              clear c10
              by_cases c11 : 0 ≤ x5_2
              · rw [if_pos c11] at H
                have c11b0 : decide (0 ≤ x5_2) = true := decide_eq_true c11
                clear c11
                replace H := Option.bind_eq_some_iff.mp H
                obtain ⟨t419, A120, H⟩ := H
                replace H : (if t419 = true then (rondeauref11_Check.l0 k2 (wrap64 (x5_2 + 1)) l0_0 l0_1) else (some ((-1), x5_2, 7))) = some (r1, r2, r3) := H
                have A12 := Aside0.mk A120
                clear A120
                by_cases c13 : t419 = true
                · subst c13
                  have H1 : (rondeauref11_Check.l0 k2 (wrap64 (x5_2 + 1)) l0_0 l0_1) = some (r1, r2, r3) := by rw [if_pos rfl] at H; exact H
                  clear H
                  have H := H1
                  clear H1
                  have H' := Aside0.mk H
                  clear H
                  have hcz14_0 : wr.cell? ⟨gb417, 0, none⟩ = some (.slice A0_0 l0_0.length c0_0) := (blk_cell BK417.out 0).trans rfl
                  have hcz14_1 : wr.cell? ⟨gb417, 1, none⟩ = some (.slice A0_1 l0_1.length c0_1) := (blk_cell BK417.out 1).trans rfl
                  have hfz14_0 := blk_frozen BK417.out 0
                  have hfz14_1 := blk_frozen BK417.out 1
                  have p418 : 0 ≤ (x5_2 : Int) := of_decide_eq_true (by first | (with_reducible assumption) | assumption)
                  have q418 : x5_2 < (l0_0.length : Int) := of_decide_eq_true (by first | (with_reducible assumption) | assumption)
                  obtain ⟨ad418, e418, hx418_0, hx418_1, hx418_2⟩ := at_T55 HR0_0.out x5_2 p418 q418
                  cases e418
                  replace hx418_0 := (HB.out.cell (World.block_lt_of_cell? w _ hx418_0)).trans hx418_0
                  replace hx418_1 := (HB.out.cell (World.block_lt_of_cell? w _ hx418_1)).trans hx418_1
                  replace hx418_2 := (HB.out.cell (World.block_lt_of_cell? w _ hx418_2)).trans hx418_2
                  replace p418 := eq_true p418
                  replace q418 := eq_true q418
                  go_wp2_with (first | ((with_reducible refine gate_callee (f := 25) rfl ?_); refine goesL_ (some 38) rfl rfl Try.func25 (by kernel_rfl) rfl #[.agg #[.int .i64 ((rd_T55 l0_0 x5_2).f0), .int .i64 ((rd_T55 l0_0 x5_2).f1), .int .i64 ((rd_T55 l0_0 x5_2).f2)]] rfl (by (try simp only [List.map_toArray, List.map_cons, List.map_nil]); first | done | rfl | (simp only [List.length_drop, List.length_take]; rfl)) ?_; (with_reducible refine (rondeauref11_ring.calls ((rd_T55 l0_0 x5_2).f0) ((rd_T55 l0_0 x5_2).f1) ((rd_T55 l0_0 x5_2).f2) true _ A12.out).mono ?_); rintro e w15 ⟨rfl, hb⟩; refine ⟨_, rfl, ?_⟩; have n0_ := Aside0.mk (blk_below (g := gb417) (o := .cells #[.slice (some ad418) l0_0.length c0_0, .slice A0_1 l0_1.length c0_1] 25 (0, 0)) (by (with_reducible repeat (first | refine blk_drewN ?_ _ | refine blk_drew ?_ | refine blk_alloc ?_ _)); exact BK417.out) hb); have n1_ := Aside0.mk (below_step (by repeat (first | (with_reducible first | exact HB.out | apply below_alloc | apply pw_below_drewN | apply below_drew1 | refine below_set ?_ GE417.out) | exact HB.out)) hb); clear BK417; clear HB; have BK417 := n0_; have HB := n1_; clear n0_ n1_; (try clear hb); (try clear hb2); (try clear hk); (try clear hi)))
                  go_roundg k2
                  case measure => have := HJ1.out; have := HK2.out; omega
                  case rel => exact ⟨(wrap64 (x5_2 + 1)), (by first | rfl | (simp; done) | (simp [*]; done)), H', ⟨by have := HJ1.out; have := HK2.out; omega⟩, ⟨by (with_reducible repeat (first | refine blk_drewN ?_ _ | refine blk_drew ?_ | refine blk_alloc ?_ _)); exact BK417.out⟩, ⟨by repeat (first | (with_reducible first | exact HB.out | apply below_alloc | apply pw_below_drewN | apply below_drew1 | refine below_set ?_ GE417.out) | exact HB.out)⟩⟩
                · replace c13 := Bool.eq_false_iff.mpr c13
                  subst c13
                  have H1 : (some ((-1), x5_2, 7)) = some (r1, r2, r3) := by rw [if_neg (show ¬ (false = true) by decide)] at H; exact H
                  clear H
                  have H := H1
                  clear H1
                  simp only [Option.some.injEq, Prod.mk.injEq] at H
                  obtain ⟨rfl, rfl, rfl⟩ := H
                  have hcz16_0 : wr.cell? ⟨gb417, 0, none⟩ = some (.slice A0_0 l0_0.length c0_0) := (blk_cell BK417.out 0).trans rfl
                  have hcz16_1 : wr.cell? ⟨gb417, 1, none⟩ = some (.slice A0_1 l0_1.length c0_1) := (blk_cell BK417.out 1).trans rfl
                  have hfz16_0 := blk_frozen BK417.out 0
                  have hfz16_1 := blk_frozen BK417.out 1
                  have p418 : 0 ≤ (x5_2 : Int) := of_decide_eq_true (by first | (with_reducible assumption) | assumption)
                  have q418 : x5_2 < (l0_0.length : Int) := of_decide_eq_true (by first | (with_reducible assumption) | assumption)
                  obtain ⟨ad418, e418, hx418_0, hx418_1, hx418_2⟩ := at_T55 HR0_0.out x5_2 p418 q418
                  cases e418
                  replace hx418_0 := (HB.out.cell (World.block_lt_of_cell? w _ hx418_0)).trans hx418_0
                  replace hx418_1 := (HB.out.cell (World.block_lt_of_cell? w _ hx418_1)).trans hx418_1
                  replace hx418_2 := (HB.out.cell (World.block_lt_of_cell? w _ hx418_2)).trans hx418_2
                  replace p418 := eq_true p418
                  replace q418 := eq_true q418
                  go_wp2_with (first | ((with_reducible refine gate_callee (f := 25) rfl ?_); refine goesL_ (some 38) rfl rfl Try.func25 (by kernel_rfl) rfl #[.agg #[.int .i64 ((rd_T55 l0_0 x5_2).f0), .int .i64 ((rd_T55 l0_0 x5_2).f1), .int .i64 ((rd_T55 l0_0 x5_2).f2)]] rfl (by (try simp only [List.map_toArray, List.map_cons, List.map_nil]); first | done | rfl | (simp only [List.length_drop, List.length_take]; rfl)) ?_; (with_reducible refine (rondeauref11_ring.calls ((rd_T55 l0_0 x5_2).f0) ((rd_T55 l0_0 x5_2).f1) ((rd_T55 l0_0 x5_2).f2) false _ A12.out).mono ?_); rintro e w17 ⟨rfl, hb⟩; refine ⟨_, rfl, ?_⟩; have n0_ := Aside0.mk (blk_below (g := gb417) (o := .cells #[.slice (some ad418) l0_0.length c0_0, .slice A0_1 l0_1.length c0_1] 25 (0, 0)) (by (with_reducible repeat (first | refine blk_drewN ?_ _ | refine blk_drew ?_ | refine blk_alloc ?_ _)); exact BK417.out) hb); have n1_ := Aside0.mk (below_step (by repeat (first | (with_reducible first | exact HB.out | apply below_alloc | apply pw_below_drewN | apply below_drew1 | refine below_set ?_ GE417.out) | exact HB.out)) hb); clear BK417; clear HB; have BK417 := n0_; have HB := n1_; clear n0_ n1_; (try clear hb); (try clear hb2); (try clear hk); (try clear hi)))
                  go_ret3
                  exact ⟨by first | rfl | (simp [errW_none, errW_some] <;> rfl) | (simp [*, errW_none, errW_some] <;> rfl), by repeat (first | (with_reducible first | exact HB.out | apply below_alloc | apply pw_below_drewN | apply below_drew1 | refine below_set ?_ GE417.out) | exact HB.out)⟩
              · rw [if_neg c11] at H
                exact absurd H (by simp)
            · rw [if_neg c10] at H
              have c10b0 : decide (x5_2 < (l0_0.length : Int)) = false := decide_eq_false c10
              clear c10
              have H' := Aside0.mk H
              clear H
              have hcz18_0 : wr.cell? ⟨gb417, 0, none⟩ = some (.slice A0_0 l0_0.length c0_0) := (blk_cell BK417.out 0).trans rfl
              have hcz18_1 : wr.cell? ⟨gb417, 1, none⟩ = some (.slice A0_1 l0_1.length c0_1) := (blk_cell BK417.out 1).trans rfl
              have hfz18_0 := blk_frozen BK417.out 0
              have hfz18_1 := blk_frozen BK417.out 1
              go_wp2
              go_loopg [6] k2 (fun kq v6 w' => ∃ (x6_3 : Int), v6 = .int .i64 x6_3 ∧ Aside0 (rondeauref11_Check.l1 kq x6_3 l0_0 l0_1 = some (r1, r2, r3)) ∧ Aside0 (kq ≤ k2) ∧ Aside0 (w'.heap[gb417]? = some (.cells #[(.slice A0_0 l0_0.length c0_0), (.slice A0_1 l0_1.length c0_1)] 25 (0, 0))) ∧ Aside0 (Below w.heap.size w w'))
              case atStart => exact ⟨(0), (by first | rfl | (simp; done) | (simp [*]; done)), H', ⟨Nat.le_refl _⟩, ⟨by (with_reducible repeat (first | refine blk_drewN ?_ _ | refine blk_drew ?_ | refine blk_alloc ?_ _)); exact BK417.out⟩, ⟨by repeat (first | (with_reducible first | exact HB.out | apply below_alloc | apply pw_below_drewN | apply below_drew1 | refine below_set ?_ GE417.out) | exact HB.out)⟩⟩
              case round =>
                clear H'
                try clear c1
                try clear c2
                try clear p2
                try clear c4
                try clear c4b0
                try clear c4b1
                try clear c4b2
                try clear p4
                try clear q4
                try clear hx4
                try clear c6
                try clear c6b0
                try clear c6b1
                try clear p6
                try clear c9
                try clear c10
                try clear c10b0
                try clear c11
                try clear c11b0
                try clear c13
                try clear hcz14_0
                try clear hcz14_1
                try clear hcz16_0
                try clear hcz16_1
                try clear hcz18_0
                try clear hcz18_1
                try clear hcz5_0
                try clear hcz5_1
                try clear hcz7_0
                try clear hcz7_1
                try clear hcz8_0
                try clear hcz8_1
                try clear hfz14_0
                try clear hfz14_1
                try clear hfz16_0
                try clear hfz16_1
                try clear hfz18_0
                try clear hfz18_1
                try clear hfz5_0
                try clear hfz5_1
                try clear hfz7_0
                try clear hfz7_1
                try clear hfz8_0
                try clear hfz8_1
                try clear hx418_0
                try clear hx418_1
                try clear hx418_2
                try clear p2
                try clear p418
                try clear q418
                obtain ⟨x6_3, rfl, HA, HK3, BK417, HB⟩ := hrel
                cases gk with
                | zero => exact absurd HA.out (by simp [rondeauref11_Check.l1])
                | succ k3 =>
                  have H := HA.out
                  clear HA
                  simp only [rondeauref11_Check.l1] at H
                  by_cases c19 : x6_3 < (l0_1.length : Int)
                  · rw [if_pos c19] at H
                    have c19b0 : decide (x6_3 < (l0_1.length : Int)) = true := decide_eq_true c19
                    clear c19
                    by_cases c20 : 0 ≤ x6_3
                    · rw [if_pos c20] at H
                      have c20b0 : decide (0 ≤ x6_3) = true := decide_eq_true c20
                      clear c20
                      by_cases c21 : ((rd_L4 l0_1 x6_3).length : Int) > 256
                      · rw [if_pos c21] at H
                        have c21b0 : decide (256 < ((rd_L4 l0_1 x6_3).length : Int)) = true := decide_eq_true c21
                        have c21b1 : decide (256 < (rd_L4 l0_1 x6_3).length) = true := decide_eq_true (by omega)
                        clear c21
                        simp only [Option.some.injEq, Prod.mk.injEq] at H
                        obtain ⟨rfl, rfl, rfl⟩ := H
                        have hcz22_0 : wr.cell? ⟨gb417, 0, none⟩ = some (.slice A0_0 l0_0.length c0_0) := (blk_cell BK417.out 0).trans rfl
                        have hcz22_1 : wr.cell? ⟨gb417, 1, none⟩ = some (.slice A0_1 l0_1.length c0_1) := (blk_cell BK417.out 1).trans rfl
                        have hfz22_0 := blk_frozen BK417.out 0
                        have hfz22_1 := blk_frozen BK417.out 1
                        have p420 : 0 ≤ (x6_3 : Int) := of_decide_eq_true (by first | (with_reducible assumption) | assumption)
                        have q420 : x6_3 < (l0_1.length : Int) := of_decide_eq_true (by first | (with_reducible assumption) | assumption)
                        obtain ⟨ad420, A420_0, c420_0, e420, hx420_0, hl420_0, hi420_0⟩ := at_L4 HR0_1.out x6_3 p420 q420
                        cases e420
                        replace hx420_0 := (HB.out.cell (World.block_lt_of_cell? w _ hx420_0)).trans hx420_0
                        have HR420_0 := Aside0.mk hi420_0
                        have HC420_0 := Aside0.mk hl420_0
                        clear hi420_0 hl420_0
                        replace p420 := eq_true p420
                        replace q420 := eq_true q420
                        go_wp2
                        go_ret3
                        exact ⟨by first | rfl | (simp [errW_none, errW_some] <;> rfl) | (simp [*, errW_none, errW_some] <;> rfl), by repeat (first | (with_reducible first | exact HB.out | apply below_alloc | apply pw_below_drewN | apply below_drew1 | refine below_set ?_ GE417.out) | exact HB.out)⟩
                      · rw [if_neg c21] at H
                        have c21b0 : decide (256 < ((rd_L4 l0_1 x6_3).length : Int)) = false := decide_eq_false c21
                        have c21b1 : decide (256 < (rd_L4 l0_1 x6_3).length) = false := decide_eq_false (by omega)
                        clear c21
                        have H' := Aside0.mk H
                        clear H
                        have hcz23_0 : wr.cell? ⟨gb417, 0, none⟩ = some (.slice A0_0 l0_0.length c0_0) := (blk_cell BK417.out 0).trans rfl
                        have hcz23_1 : wr.cell? ⟨gb417, 1, none⟩ = some (.slice A0_1 l0_1.length c0_1) := (blk_cell BK417.out 1).trans rfl
                        have hfz23_0 := blk_frozen BK417.out 0
                        have hfz23_1 := blk_frozen BK417.out 1
                        have p420 : 0 ≤ (x6_3 : Int) := of_decide_eq_true (by first | (with_reducible assumption) | assumption)
                        have q420 : x6_3 < (l0_1.length : Int) := of_decide_eq_true (by first | (with_reducible assumption) | assumption)
                        obtain ⟨ad420, A420_0, c420_0, e420, hx420_0, hl420_0, hi420_0⟩ := at_L4 HR0_1.out x6_3 p420 q420
                        cases e420
                        replace hx420_0 := (HB.out.cell (World.block_lt_of_cell? w _ hx420_0)).trans hx420_0
                        have HR420_0 := Aside0.mk hi420_0
                        have HC420_0 := Aside0.mk hl420_0
                        clear hi420_0 hl420_0
                        replace p420 := eq_true p420
                        replace q420 := eq_true q420
                        go_wp2
                        go_loopg [8] k3 (fun kq v8 w' => ∃ (x8_4 : Int), v8 = .int .i64 x8_4 ∧ Aside0 (rondeauref11_Check.l2 kq x6_3 (rd_L4 l0_1 x6_3) x8_4 l0_0 l0_1 = some (r1, r2, r3)) ∧ Aside0 (kq ≤ k3) ∧ Aside0 (w'.heap[gb417]? = some (.cells #[(.slice A0_0 l0_0.length c0_0), (.slice (some ad420) l0_1.length c0_1)] 25 (0, 0))) ∧ Aside0 (Below w.heap.size w w'))
                        case atStart => exact ⟨(0), (by first | rfl | (simp; done) | (simp [*]; done)), H', ⟨Nat.le_refl _⟩, ⟨by (with_reducible repeat (first | refine blk_drewN ?_ _ | refine blk_drew ?_ | refine blk_alloc ?_ _)); exact BK417.out⟩, ⟨by repeat (first | (with_reducible first | exact HB.out | apply below_alloc | apply pw_below_drewN | apply below_drew1 | refine below_set ?_ GE417.out) | exact HB.out)⟩⟩
                        case round =>
                          clear H'
                          try clear c1
                          try clear c2
                          try clear p2
                          try clear c4
                          try clear c4b0
                          try clear c4b1
                          try clear c4b2
                          try clear p4
                          try clear q4
                          try clear hx4
                          try clear c6
                          try clear c6b0
                          try clear c6b1
                          try clear p6
                          try clear c9
                          try clear c10
                          try clear c10b0
                          try clear c11
                          try clear c11b0
                          try clear c13
                          try clear c19
                          try clear c19b0
                          try clear c20
                          try clear c20b0
                          try clear c21
                          try clear c21b0
                          try clear c21b1
                          try clear hcz14_0
                          try clear hcz14_1
                          try clear hcz16_0
                          try clear hcz16_1
                          try clear hcz18_0
                          try clear hcz18_1
                          try clear hcz22_0
                          try clear hcz22_1
                          try clear hcz23_0
                          try clear hcz23_1
                          try clear hcz5_0
                          try clear hcz5_1
                          try clear hcz7_0
                          try clear hcz7_1
                          try clear hcz8_0
                          try clear hcz8_1
                          try clear hfz14_0
                          try clear hfz14_1
                          try clear hfz16_0
                          try clear hfz16_1
                          try clear hfz18_0
                          try clear hfz18_1
                          try clear hfz22_0
                          try clear hfz22_1
                          try clear hfz23_0
                          try clear hfz23_1
                          try clear hfz5_0
                          try clear hfz5_1
                          try clear hfz7_0
                          try clear hfz7_1
                          try clear hfz8_0
                          try clear hfz8_1
                          try clear hx418_0
                          try clear hx418_1
                          try clear hx418_2
                          try clear hx420_0
                          try clear p2
                          try clear p4
                          try clear p418
                          try clear p420
                          try clear p6
                          try clear q4
                          try clear q418
                          try clear q420
                          obtain ⟨x8_4, rfl, HA, HK4, BK417, HB⟩ := hrel
                          cases gk with
                          | zero => exact absurd HA.out (by simp [rondeauref11_Check.l2])
                          | succ k4 =>
                            have H := HA.out
                            clear HA
                            simp only [rondeauref11_Check.l2] at H
                            by_cases c24 : x8_4 < ((rd_L4 l0_1 x6_3).length : Int)
                            · rw [if_pos c24] at H
                              have c24b0 : decide (x8_4 < ((rd_L4 l0_1 x6_3).length : Int)) = true := decide_eq_true c24
                              clear c24
                              by_cases c25 : 0 ≤ x8_4
                              · rw [if_pos c25] at H
                                have c25b0 : decide (0 ≤ x8_4) = true := decide_eq_true c25
                                clear c25
                                replace H := Option.bind_eq_some_iff.mp H
                                obtain ⟨t422, A260, H⟩ := H
                                replace H : (if t422 = true then ((rondeauref11_instr.f k4 l0_0 l0_1 ((rd_T48 (rd_L4 l0_1 x6_3) x8_4).f0) ((rd_T48 (rd_L4 l0_1 x6_3) x8_4).f1) ((rd_T48 (rd_L4 l0_1 x6_3) x8_4).f2) ((rd_T48 (rd_L4 l0_1 x6_3) x8_4).f3) ((rd_T48 (rd_L4 l0_1 x6_3) x8_4).f4) ((rd_T48 (rd_L4 l0_1 x6_3) x8_4).f5) ((rd_L4 l0_1 x6_3).length : Int)).bind fun t424 => (if t424 = 0 then (rondeauref11_Check.l2 k4 x6_3 (rd_L4 l0_1 x6_3) (wrap64 (x8_4 + 1)) l0_0 l0_1) else (some (x6_3, x8_4, t424)))) else (if 6 = 0 then (rondeauref11_Check.l2 k4 x6_3 (rd_L4 l0_1 x6_3) (wrap64 (x8_4 + 1)) l0_0 l0_1) else (some (x6_3, x8_4, 6)))) = some (r1, r2, r3) := H
                                have A26 := Aside0.mk A260
                                clear A260
                                by_cases c27 : t422 = true
                                · subst c27
                                  have H1 : ((rondeauref11_instr.f k4 l0_0 l0_1 ((rd_T48 (rd_L4 l0_1 x6_3) x8_4).f0) ((rd_T48 (rd_L4 l0_1 x6_3) x8_4).f1) ((rd_T48 (rd_L4 l0_1 x6_3) x8_4).f2) ((rd_T48 (rd_L4 l0_1 x6_3) x8_4).f3) ((rd_T48 (rd_L4 l0_1 x6_3) x8_4).f4) ((rd_T48 (rd_L4 l0_1 x6_3) x8_4).f5) ((rd_L4 l0_1 x6_3).length : Int)).bind fun t424 => (if t424 = 0 then (rondeauref11_Check.l2 k4 x6_3 (rd_L4 l0_1 x6_3) (wrap64 (x8_4 + 1)) l0_0 l0_1) else (some (x6_3, x8_4, t424)))) = some (r1, r2, r3) := by rw [if_pos rfl] at H; exact H
                                  clear H
                                  have H := H1
                                  clear H1
                                  replace H := Option.bind_eq_some_iff.mp H
                                  obtain ⟨t424, A280, H⟩ := H
                                  replace H : (if t424 = 0 then (rondeauref11_Check.l2 k4 x6_3 (rd_L4 l0_1 x6_3) (wrap64 (x8_4 + 1)) l0_0 l0_1) else (some (x6_3, x8_4, t424))) = some (r1, r2, r3) := H
                                  have A28 := Aside0.mk A280
                                  clear A280
                                  by_cases c29 : t424 = 0
                                  · rw [if_pos c29] at H
                                    have c29b0 : (t424 == 0) = true := beq_iff_eq.mpr c29
                                    have c29b1 : (t424 != 0) = false := bne_eq_false_iff_eq.mpr c29
                                    clear c29
                                    have H' := Aside0.mk H
                                    clear H
                                    have p421 : 0 ≤ (x8_4 : Int) := of_decide_eq_true (by first | (with_reducible assumption) | assumption)
                                    have q421 : x8_4 < ((rd_L4 l0_1 x6_3).length : Int) := of_decide_eq_true (by first | (with_reducible assumption) | assumption)
                                    obtain ⟨ad421, e421, hx421_0, hx421_1, hx421_2, hx421_3, hx421_4, hx421_5⟩ := at_T48 HR420_0.out x8_4 p421 q421
                                    cases e421
                                    replace hx421_0 := (HB.out.cell (World.block_lt_of_cell? w _ hx421_0)).trans hx421_0
                                    replace hx421_1 := (HB.out.cell (World.block_lt_of_cell? w _ hx421_1)).trans hx421_1
                                    replace hx421_2 := (HB.out.cell (World.block_lt_of_cell? w _ hx421_2)).trans hx421_2
                                    replace hx421_3 := (HB.out.cell (World.block_lt_of_cell? w _ hx421_3)).trans hx421_3
                                    replace hx421_4 := (HB.out.cell (World.block_lt_of_cell? w _ hx421_4)).trans hx421_4
                                    replace hx421_5 := (HB.out.cell (World.block_lt_of_cell? w _ hx421_5)).trans hx421_5
                                    replace p421 := eq_true p421
                                    replace q421 := eq_true q421
                                    try go_wp2_with (first | ((with_reducible refine gate_callee (f := 26) rfl ?_); refine goesL_ (some 67) rfl rfl Try.func26 (by kernel_rfl) rfl #[.agg #[.int .i64 ((rd_T48 (rd_L4 l0_1 x6_3) x8_4).f0), .int .i64 ((rd_T48 (rd_L4 l0_1 x6_3) x8_4).f1), .int .i64 ((rd_T48 (rd_L4 l0_1 x6_3) x8_4).f2), .int .i64 ((rd_T48 (rd_L4 l0_1 x6_3) x8_4).f3), .int .i64 ((rd_T48 (rd_L4 l0_1 x6_3) x8_4).f4), .int .u64 ((rd_T48 (rd_L4 l0_1 x6_3) x8_4).f5)]] rfl (by (try simp only [List.map_toArray, List.map_cons, List.map_nil]); first | done | rfl | (simp only [List.length_drop, List.length_take]; rfl)) ?_; (with_reducible refine (rondeauref09_Right.calls k4 ((rd_T48 (rd_L4 l0_1 x6_3) x8_4).f0) ((rd_T48 (rd_L4 l0_1 x6_3) x8_4).f1) ((rd_T48 (rd_L4 l0_1 x6_3) x8_4).f2) ((rd_T48 (rd_L4 l0_1 x6_3) x8_4).f3) ((rd_T48 (rd_L4 l0_1 x6_3) x8_4).f4) ((rd_T48 (rd_L4 l0_1 x6_3) x8_4).f5) true _ A26.out).mono ?_); rintro e w30 ⟨rfl, hb⟩; refine ⟨_, rfl, ?_⟩; have n0_ := Aside0.mk (blk_below (g := gb417) (o := .cells #[.slice A0_0 l0_0.length c0_0, .slice (some ad420) l0_1.length c0_1] 25 (0, 0)) (by (with_reducible repeat (first | refine blk_drewN ?_ _ | refine blk_drew ?_ | refine blk_alloc ?_ _)); exact BK417.out) hb); have n1_ := Aside0.mk (below_step (by repeat (first | (with_reducible first | exact HB.out | apply below_alloc | apply pw_below_drewN | apply below_drew1 | refine below_set ?_ GE417.out) | exact HB.out)) hb); clear BK417; clear HB; have BK417 := n0_; have HB := n1_; clear n0_ n1_; (try clear hb); (try clear hb2); (try clear hk); (try clear hi)))
                                    have n0_ := Aside0.mk (blk_drew BK417.out)
                                    have n1_ := Aside0.mk (below_drew1 HB.out)
                                    clear BK417
                                    clear HB
                                    have BK417 := n0_
                                    have HB := n1_
                                    clear n0_ n1_
                                    have p423 : 0 ≤ (x8_4 : Int) := of_decide_eq_true (by first | (with_reducible assumption) | assumption)
                                    have q423 : x8_4 < ((rd_L4 l0_1 x6_3).length : Int) := of_decide_eq_true (by first | (with_reducible assumption) | assumption)
                                    obtain ⟨ad423, e423, hx423_0, hx423_1, hx423_2, hx423_3, hx423_4, hx423_5⟩ := at_T48 HR420_0.out x8_4 p423 q423
                                    have hw423_5 := hx423_5
                                    have hw423_4 := hx423_4
                                    have hw423_3 := hx423_3
                                    have hw423_2 := hx423_2
                                    have hw423_1 := hx423_1
                                    have hw423_0 := hx423_0
                                    obtain rfl : ad421 = ad423 := (by injection e423)
                                    replace hx423_0 := (HB.out.cell (World.block_lt_of_cell? w _ hx423_0)).trans hx423_0
                                    replace hx423_1 := (HB.out.cell (World.block_lt_of_cell? w _ hx423_1)).trans hx423_1
                                    replace hx423_2 := (HB.out.cell (World.block_lt_of_cell? w _ hx423_2)).trans hx423_2
                                    replace hx423_3 := (HB.out.cell (World.block_lt_of_cell? w _ hx423_3)).trans hx423_3
                                    replace hx423_4 := (HB.out.cell (World.block_lt_of_cell? w _ hx423_4)).trans hx423_4
                                    replace hx423_5 := (HB.out.cell (World.block_lt_of_cell? w _ hx423_5)).trans hx423_5
                                    replace p423 := eq_true p423
                                    replace q423 := eq_true q423
                                    refine start_ (n := 9) (S := fun w' => w'.cell? ⟨gb417, 0, none⟩ = some (.slice A0_0 l0_0.length c0_0) ∧ w'.cell? ⟨gb417, 1, none⟩ = some (.slice (some ad420) l0_1.length c0_1) ∧ w'.cell? (ad421.add ((x8_4).toNat * 6)) = some (.int .i64 ((rd_T48 (rd_L4 l0_1 x6_3) x8_4).f0)) ∧ w'.cell? ⟨(ad421.add ((x8_4).toNat * 6)).block, (ad421.add ((x8_4).toNat * 6)).off + 1, none⟩ = some (.int .i64 ((rd_T48 (rd_L4 l0_1 x6_3) x8_4).f1)) ∧ w'.cell? ⟨(ad421.add ((x8_4).toNat * 6)).block, (ad421.add ((x8_4).toNat * 6)).off + 2, none⟩ = some (.int .i64 ((rd_T48 (rd_L4 l0_1 x6_3) x8_4).f2)) ∧ w'.cell? ⟨(ad421.add ((x8_4).toNat * 6)).block, (ad421.add ((x8_4).toNat * 6)).off + 3, none⟩ = some (.int .i64 ((rd_T48 (rd_L4 l0_1 x6_3) x8_4).f3)) ∧ w'.cell? ⟨(ad421.add ((x8_4).toNat * 6)).block, (ad421.add ((x8_4).toNat * 6)).off + 4, none⟩ = some (.int .i64 ((rd_T48 (rd_L4 l0_1 x6_3) x8_4).f4)) ∧ w'.cell? ⟨(ad421.add ((x8_4).toNat * 6)).block, (ad421.add ((x8_4).toNat * 6)).off + 5, none⟩ = some (.int .u64 ((rd_T48 (rd_L4 l0_1 x6_3) x8_4).f5))) (ds := []) #[false, false, false, false, false, false, false, false, false] (by kernel_rfl) rfl rfl ⟨(blk_cell BK417.out 0).trans rfl, (blk_cell BK417.out 1).trans rfl, ((HB.out.cell (World.block_lt_of_cell? w _ hw423_0)).trans hw423_0), ((HB.out.cell (World.block_lt_of_cell? w _ hw423_1)).trans hw423_1), ((HB.out.cell (World.block_lt_of_cell? w _ hw423_2)).trans hw423_2), ((HB.out.cell (World.block_lt_of_cell? w _ hw423_3)).trans hw423_3), ((HB.out.cell (World.block_lt_of_cell? w _ hw423_4)).trans hw423_4), ((HB.out.cell (World.block_lt_of_cell? w _ hw423_5)).trans hw423_5)⟩ (fun hHeld => ?_); refine with_tabW rondeauref11_Check.tab19 rondeauref11_Check.bits19 (fun HT_ HW_ => ?_)
                                    generalize w30.drew = w31 at BK417 HB hx423_0 hx423_1 hx423_2 hx423_3 hx423_4 hx423_5 hHeld ⊢
                                    refine pure_ (i := 1) (N := some 69) (v := ?_) (a' := ?_) #[false, true, false, false, false, false, false, false, false] rfl rfl (any_of HT_.out (by kernel_rfl)) (fun _ _ _ h => h) (Or.inl ⟨by rfl, ?_⟩) ?_ ?_
                                    rotate_left
                                    · intro w'
                                      go_simp
                                      with_reducible rfl
                                    rotate_left
                                    · simp only [Act.put, List.setIfInBounds_toArray, List.set_cons_zero, List.set_cons_succ, i64_w, i32_w]
                                      rfl
                                    refine pure_ (i := 2) (N := some 70) (v := ?_) (a' := ?_) #[false, true, true, false, false, false, false, false, false] rfl rfl (any_of HT_.out (by kernel_rfl)) (fun _ _ _ h => h) (Or.inl ⟨by rfl, ?_⟩) ?_ ?_
                                    rotate_left
                                    · intro w'
                                      go_simp
                                      with_reducible rfl
                                    rotate_left
                                    · simp only [Act.put, List.setIfInBounds_toArray, List.set_cons_zero, List.set_cons_succ, i64_w, i32_w]
                                      rfl
                                    refine pure_ (i := 3) (N := some 71) (v := ?_) (a' := ?_) #[false, true, true, true, false, false, false, false, false] rfl rfl (any_of HT_.out (by kernel_rfl)) (fun _ _ _ h => h) (Or.inl ⟨by rfl, ?_⟩) ?_ ?_
                                    rotate_left
                                    · intro w'
                                      go_simp
                                      with_reducible rfl
                                    rotate_left
                                    · simp only [Act.put, List.setIfInBounds_toArray, List.set_cons_zero, List.set_cons_succ, i64_w, i32_w]
                                      rfl
                                    refine pure_ (i := 5) (N := some 73) (v := ?_) (a' := ?_) #[false, true, true, true, false, true, false, false, false] rfl rfl (any_of HT_.out (by kernel_rfl)) (fun _ _ _ h => h) (Or.inl ⟨by rfl, ?_⟩) ?_ ?_
                                    rotate_left
                                    · intro w'
                                      go_simp
                                      with_reducible rfl
                                    rotate_left
                                    · simp only [Act.put, List.setIfInBounds_toArray, List.set_cons_zero, List.set_cons_succ, i64_w, i32_w]
                                      rfl
                                    refine pure_ (i := 6) (N := some 74) (v := ?_) (a' := ?_) #[false, true, true, true, false, true, true, false, false] rfl rfl (any_of HT_.out (by kernel_rfl)) (fun _ _ _ h => h) (Or.inl ⟨by rfl, ?_⟩) ?_ ?_
                                    rotate_left
                                    · intro w'
                                      go_simp
                                      with_reducible rfl
                                    rotate_left
                                    · simp only [Act.put, List.setIfInBounds_toArray, List.set_cons_zero, List.set_cons_succ, i64_w, i32_w]
                                      rfl
                                    refine take_ (i := 0) (N := some 68) (v := ?_) (a' := ?_) #[true, true, true, true, false, true, true, false, false] rfl rfl (take_ofW HT_.out HW_.out (by kernel_rfl)) (fun _ _ _ h => h) (Or.inl ⟨by rfl, ?_⟩) hHeld ?_ ?_
                                    rotate_left
                                    · rintro w' ⟨s0, s1, s2, s3, s4, s5, s6, s7⟩
                                      go_simp
                                      with_reducible rfl
                                    rotate_left
                                    · simp only [Act.put, List.setIfInBounds_toArray, List.set_cons_zero, List.set_cons_succ, i64_w, i32_w]
                                      rfl
                                    refine take_ (i := 4) (N := some 72) (v := ?_) (a' := ?_) #[true, true, true, true, true, true, true, false, false] rfl rfl (take_ofW HT_.out HW_.out (by kernel_rfl)) (fun _ _ _ h => h) (Or.inl ⟨by rfl, ?_⟩) hHeld ?_ ?_
                                    rotate_left
                                    · rintro w' ⟨s0, s1, s2, s3, s4, s5, s6, s7⟩
                                      go_simp
                                      with_reducible rfl
                                    rotate_left
                                    · simp only [Act.put, List.setIfInBounds_toArray, List.set_cons_zero, List.set_cons_succ, i64_w, i32_w]
                                      rfl
                                    refine one_ (i := 7) (N := some 75) #[true, true, true, true, true, true, true, true, false] rfl rfl (one_of HT_.out (by kernel_rfl)) (by decide) (fun K hK => ?_)
                                    refine goes_ Try.func27 (by kernel_rfl) rfl #[.agg #[.slice A0_0 l0_0.length c0_0, .slice (some ad420) l0_1.length c0_1], .agg #[.int .i64 ((rd_T48 (rd_L4 l0_1 x6_3) x8_4).f0), .int .i64 ((rd_T48 (rd_L4 l0_1 x6_3) x8_4).f1), .int .i64 ((rd_T48 (rd_L4 l0_1 x6_3) x8_4).f2), .int .i64 ((rd_T48 (rd_L4 l0_1 x6_3) x8_4).f3), .int .i64 ((rd_T48 (rd_L4 l0_1 x6_3) x8_4).f4), .int .u64 ((rd_T48 (rd_L4 l0_1 x6_3) x8_4).f5)], .int .i64 ((rd_L4 l0_1 x6_3).length : Int)] (by rfl) rfl rfl (by (try simp only [List.map_toArray, List.map_cons, List.map_nil]); first | done | rfl | (simp only [List.length_drop, List.length_take]; rfl)) ?_
                                    with_reducible refine (rondeauref11_instr.calls k4 _ _ l0_0 _ _ l0_1 ((rd_T48 (rd_L4 l0_1 x6_3) x8_4).f0) ((rd_T48 (rd_L4 l0_1 x6_3) x8_4).f1) ((rd_T48 (rd_L4 l0_1 x6_3) x8_4).f2) ((rd_T48 (rd_L4 l0_1 x6_3) x8_4).f3) ((rd_T48 (rd_L4 l0_1 x6_3) x8_4).f4) ((rd_T48 (rd_L4 l0_1 x6_3) x8_4).f5) ((rd_L4 l0_1 x6_3).length : Int) t424 _ ?side1 ?side2 ?side3 ?side4 A28.out).mono ?_
                                    (case side1 => repeat (first | exact (Kd.C_below HR0_0.out HB.out) | (with_reducible refine Kd.C_alloc ?_ _) | (with_reducible refine Kd.C_drewN ?_ _) | (with_reducible refine Kd.C_drew ?_)))
                                    (case side2 => exact HC0_0.out)
                                    (case side3 => repeat (first | exact (Kd.C_below HR0_1.out HB.out) | (with_reducible refine Kd.C_alloc ?_ _) | (with_reducible refine Kd.C_drewN ?_ _) | (with_reducible refine Kd.C_drew ?_)))
                                    (case side4 => exact HC0_1.out)
                                    rintro e w32 ⟨rfl, hb⟩
                                    refine ⟨_, rfl, ?_⟩
                                    have n0_ := Aside0.mk (blk_below (g := gb417) (o := .cells #[.slice A0_0 l0_0.length c0_0, .slice (some ad420) l0_1.length c0_1] 25 (0, 0)) (by (with_reducible repeat (first | refine blk_drewN ?_ _ | refine blk_drew ?_ | refine blk_alloc ?_ _)); exact BK417.out) hb)
                                    have n1_ := Aside0.mk (below_step (by repeat (first | (with_reducible first | exact HB.out | apply below_alloc | apply pw_below_drewN | apply below_drew1 | refine below_set ?_ GE417.out) | exact HB.out)) hb)
                                    clear BK417
                                    clear HB
                                    have BK417 := n0_
                                    have HB := n1_
                                    clear n0_ n1_
                                    (try clear hb)
                                    (try clear hb2)
                                    (try clear hk)
                                    (try clear hi)
                                    refine hK.out _ _ ⟨(blk_cell BK417.out 0).trans rfl, (blk_cell BK417.out 1).trans rfl, ((HB.out.cell (World.block_lt_of_cell? w _ hw423_0)).trans hw423_0), ((HB.out.cell (World.block_lt_of_cell? w _ hw423_1)).trans hw423_1), ((HB.out.cell (World.block_lt_of_cell? w _ hw423_2)).trans hw423_2), ((HB.out.cell (World.block_lt_of_cell? w _ hw423_3)).trans hw423_3), ((HB.out.cell (World.block_lt_of_cell? w _ hw423_4)).trans hw423_4), ((HB.out.cell (World.block_lt_of_cell? w _ hw423_5)).trans hw423_5)⟩ (fun hHeld => ?_)
                                    clear hK K
                                    refine norm_ (a' := ?_) ?_ ?_
                                    rotate_left
                                    · show Act.put _ (some 75) _ = _
                                      simp only [Act.put, List.setIfInBounds_toArray, List.set_cons_zero, List.set_cons_succ, i64_w, i32_w]
                                      rfl
                                    refine pure_ (i := 8) (N := some 9) (v := ?_) (a' := ?_) #[true, true, true, true, true, true, true, true, true] rfl rfl (any_of HT_.out (by kernel_rfl)) (fun _ _ _ h => h) (Or.inl ⟨by rfl, ?_⟩) ?_ ?_
                                    rotate_left
                                    · intro w'
                                      go_simp
                                      with_reducible rfl
                                    rotate_left
                                    · simp only [Act.put, List.setIfInBounds_toArray, List.set_cons_zero, List.set_cons_succ, i64_w, i32_w]
                                      rfl
                                    refine done_ (done_of HT_.out (by kernel_rfl)) ?_
                                    try go_wp2
                                    go_roundg k4
                                    case measure => have := HJ1.out; have := HK2.out; have := HK3.out; have := HK4.out; omega
                                    case rel => exact ⟨(wrap64 (x8_4 + 1)), (by first | rfl | (simp; done) | (simp [*]; done)), H', ⟨by have := HJ1.out; have := HK2.out; have := HK3.out; have := HK4.out; omega⟩, ⟨by (with_reducible repeat (first | refine blk_drewN ?_ _ | refine blk_drew ?_ | refine blk_alloc ?_ _)); exact BK417.out⟩, ⟨by repeat (first | (with_reducible first | exact HB.out | apply below_alloc | apply pw_below_drewN | apply below_drew1 | refine below_set ?_ GE417.out) | exact HB.out)⟩⟩
                                  · rw [if_neg c29] at H
                                    have c29b0 : (t424 == 0) = false := beq_eq_false_iff_ne.mpr c29
                                    have c29b1 : (t424 != 0) = true := bne_iff_ne.mpr c29
                                    simp only [Option.some.injEq, Prod.mk.injEq] at H
                                    obtain ⟨rfl, rfl, rfl⟩ := H
                                    have p421 : 0 ≤ (x8_4 : Int) := of_decide_eq_true (by first | (with_reducible assumption) | assumption)
                                    have q421 : x8_4 < ((rd_L4 l0_1 x6_3).length : Int) := of_decide_eq_true (by first | (with_reducible assumption) | assumption)
                                    obtain ⟨ad421, e421, hx421_0, hx421_1, hx421_2, hx421_3, hx421_4, hx421_5⟩ := at_T48 HR420_0.out x8_4 p421 q421
                                    cases e421
                                    replace hx421_0 := (HB.out.cell (World.block_lt_of_cell? w _ hx421_0)).trans hx421_0
                                    replace hx421_1 := (HB.out.cell (World.block_lt_of_cell? w _ hx421_1)).trans hx421_1
                                    replace hx421_2 := (HB.out.cell (World.block_lt_of_cell? w _ hx421_2)).trans hx421_2
                                    replace hx421_3 := (HB.out.cell (World.block_lt_of_cell? w _ hx421_3)).trans hx421_3
                                    replace hx421_4 := (HB.out.cell (World.block_lt_of_cell? w _ hx421_4)).trans hx421_4
                                    replace hx421_5 := (HB.out.cell (World.block_lt_of_cell? w _ hx421_5)).trans hx421_5
                                    replace p421 := eq_true p421
                                    replace q421 := eq_true q421
                                    try go_wp2_with (first | ((with_reducible refine gate_callee (f := 26) rfl ?_); refine goesL_ (some 67) rfl rfl Try.func26 (by kernel_rfl) rfl #[.agg #[.int .i64 ((rd_T48 (rd_L4 l0_1 x6_3) x8_4).f0), .int .i64 ((rd_T48 (rd_L4 l0_1 x6_3) x8_4).f1), .int .i64 ((rd_T48 (rd_L4 l0_1 x6_3) x8_4).f2), .int .i64 ((rd_T48 (rd_L4 l0_1 x6_3) x8_4).f3), .int .i64 ((rd_T48 (rd_L4 l0_1 x6_3) x8_4).f4), .int .u64 ((rd_T48 (rd_L4 l0_1 x6_3) x8_4).f5)]] rfl (by (try simp only [List.map_toArray, List.map_cons, List.map_nil]); first | done | rfl | (simp only [List.length_drop, List.length_take]; rfl)) ?_; (with_reducible refine (rondeauref09_Right.calls k4 ((rd_T48 (rd_L4 l0_1 x6_3) x8_4).f0) ((rd_T48 (rd_L4 l0_1 x6_3) x8_4).f1) ((rd_T48 (rd_L4 l0_1 x6_3) x8_4).f2) ((rd_T48 (rd_L4 l0_1 x6_3) x8_4).f3) ((rd_T48 (rd_L4 l0_1 x6_3) x8_4).f4) ((rd_T48 (rd_L4 l0_1 x6_3) x8_4).f5) true _ A26.out).mono ?_); rintro e w33 ⟨rfl, hb⟩; refine ⟨_, rfl, ?_⟩; have n0_ := Aside0.mk (blk_below (g := gb417) (o := .cells #[.slice A0_0 l0_0.length c0_0, .slice (some ad420) l0_1.length c0_1] 25 (0, 0)) (by (with_reducible repeat (first | refine blk_drewN ?_ _ | refine blk_drew ?_ | refine blk_alloc ?_ _)); exact BK417.out) hb); have n1_ := Aside0.mk (below_step (by repeat (first | (with_reducible first | exact HB.out | apply below_alloc | apply pw_below_drewN | apply below_drew1 | refine below_set ?_ GE417.out) | exact HB.out)) hb); clear BK417; clear HB; have BK417 := n0_; have HB := n1_; clear n0_ n1_; (try clear hb); (try clear hb2); (try clear hk); (try clear hi)))
                                    have n0_ := Aside0.mk (blk_drew BK417.out)
                                    have n1_ := Aside0.mk (below_drew1 HB.out)
                                    clear BK417
                                    clear HB
                                    have BK417 := n0_
                                    have HB := n1_
                                    clear n0_ n1_
                                    have p423 : 0 ≤ (x8_4 : Int) := of_decide_eq_true (by first | (with_reducible assumption) | assumption)
                                    have q423 : x8_4 < ((rd_L4 l0_1 x6_3).length : Int) := of_decide_eq_true (by first | (with_reducible assumption) | assumption)
                                    obtain ⟨ad423, e423, hx423_0, hx423_1, hx423_2, hx423_3, hx423_4, hx423_5⟩ := at_T48 HR420_0.out x8_4 p423 q423
                                    have hw423_5 := hx423_5
                                    have hw423_4 := hx423_4
                                    have hw423_3 := hx423_3
                                    have hw423_2 := hx423_2
                                    have hw423_1 := hx423_1
                                    have hw423_0 := hx423_0
                                    obtain rfl : ad421 = ad423 := (by injection e423)
                                    replace hx423_0 := (HB.out.cell (World.block_lt_of_cell? w _ hx423_0)).trans hx423_0
                                    replace hx423_1 := (HB.out.cell (World.block_lt_of_cell? w _ hx423_1)).trans hx423_1
                                    replace hx423_2 := (HB.out.cell (World.block_lt_of_cell? w _ hx423_2)).trans hx423_2
                                    replace hx423_3 := (HB.out.cell (World.block_lt_of_cell? w _ hx423_3)).trans hx423_3
                                    replace hx423_4 := (HB.out.cell (World.block_lt_of_cell? w _ hx423_4)).trans hx423_4
                                    replace hx423_5 := (HB.out.cell (World.block_lt_of_cell? w _ hx423_5)).trans hx423_5
                                    replace p423 := eq_true p423
                                    replace q423 := eq_true q423
                                    refine start_ (n := 9) (S := fun w' => w'.cell? ⟨gb417, 0, none⟩ = some (.slice A0_0 l0_0.length c0_0) ∧ w'.cell? ⟨gb417, 1, none⟩ = some (.slice (some ad420) l0_1.length c0_1) ∧ w'.cell? (ad421.add ((x8_4).toNat * 6)) = some (.int .i64 ((rd_T48 (rd_L4 l0_1 x6_3) x8_4).f0)) ∧ w'.cell? ⟨(ad421.add ((x8_4).toNat * 6)).block, (ad421.add ((x8_4).toNat * 6)).off + 1, none⟩ = some (.int .i64 ((rd_T48 (rd_L4 l0_1 x6_3) x8_4).f1)) ∧ w'.cell? ⟨(ad421.add ((x8_4).toNat * 6)).block, (ad421.add ((x8_4).toNat * 6)).off + 2, none⟩ = some (.int .i64 ((rd_T48 (rd_L4 l0_1 x6_3) x8_4).f2)) ∧ w'.cell? ⟨(ad421.add ((x8_4).toNat * 6)).block, (ad421.add ((x8_4).toNat * 6)).off + 3, none⟩ = some (.int .i64 ((rd_T48 (rd_L4 l0_1 x6_3) x8_4).f3)) ∧ w'.cell? ⟨(ad421.add ((x8_4).toNat * 6)).block, (ad421.add ((x8_4).toNat * 6)).off + 4, none⟩ = some (.int .i64 ((rd_T48 (rd_L4 l0_1 x6_3) x8_4).f4)) ∧ w'.cell? ⟨(ad421.add ((x8_4).toNat * 6)).block, (ad421.add ((x8_4).toNat * 6)).off + 5, none⟩ = some (.int .u64 ((rd_T48 (rd_L4 l0_1 x6_3) x8_4).f5))) (ds := []) #[false, false, false, false, false, false, false, false, false] (by kernel_rfl) rfl rfl ⟨(blk_cell BK417.out 0).trans rfl, (blk_cell BK417.out 1).trans rfl, ((HB.out.cell (World.block_lt_of_cell? w _ hw423_0)).trans hw423_0), ((HB.out.cell (World.block_lt_of_cell? w _ hw423_1)).trans hw423_1), ((HB.out.cell (World.block_lt_of_cell? w _ hw423_2)).trans hw423_2), ((HB.out.cell (World.block_lt_of_cell? w _ hw423_3)).trans hw423_3), ((HB.out.cell (World.block_lt_of_cell? w _ hw423_4)).trans hw423_4), ((HB.out.cell (World.block_lt_of_cell? w _ hw423_5)).trans hw423_5)⟩ (fun hHeld => ?_); refine with_tabW rondeauref11_Check.tab19 rondeauref11_Check.bits19 (fun HT_ HW_ => ?_)
                                    generalize w33.drew = w34 at BK417 HB hx423_0 hx423_1 hx423_2 hx423_3 hx423_4 hx423_5 hHeld ⊢
                                    refine pure_ (i := 1) (N := some 69) (v := ?_) (a' := ?_) #[false, true, false, false, false, false, false, false, false] rfl rfl (any_of HT_.out (by kernel_rfl)) (fun _ _ _ h => h) (Or.inl ⟨by rfl, ?_⟩) ?_ ?_
                                    rotate_left
                                    · intro w'
                                      go_simp
                                      with_reducible rfl
                                    rotate_left
                                    · simp only [Act.put, List.setIfInBounds_toArray, List.set_cons_zero, List.set_cons_succ, i64_w, i32_w]
                                      rfl
                                    refine pure_ (i := 2) (N := some 70) (v := ?_) (a' := ?_) #[false, true, true, false, false, false, false, false, false] rfl rfl (any_of HT_.out (by kernel_rfl)) (fun _ _ _ h => h) (Or.inl ⟨by rfl, ?_⟩) ?_ ?_
                                    rotate_left
                                    · intro w'
                                      go_simp
                                      with_reducible rfl
                                    rotate_left
                                    · simp only [Act.put, List.setIfInBounds_toArray, List.set_cons_zero, List.set_cons_succ, i64_w, i32_w]
                                      rfl
                                    refine pure_ (i := 3) (N := some 71) (v := ?_) (a' := ?_) #[false, true, true, true, false, false, false, false, false] rfl rfl (any_of HT_.out (by kernel_rfl)) (fun _ _ _ h => h) (Or.inl ⟨by rfl, ?_⟩) ?_ ?_
                                    rotate_left
                                    · intro w'
                                      go_simp
                                      with_reducible rfl
                                    rotate_left
                                    · simp only [Act.put, List.setIfInBounds_toArray, List.set_cons_zero, List.set_cons_succ, i64_w, i32_w]
                                      rfl
                                    refine pure_ (i := 5) (N := some 73) (v := ?_) (a' := ?_) #[false, true, true, true, false, true, false, false, false] rfl rfl (any_of HT_.out (by kernel_rfl)) (fun _ _ _ h => h) (Or.inl ⟨by rfl, ?_⟩) ?_ ?_
                                    rotate_left
                                    · intro w'
                                      go_simp
                                      with_reducible rfl
                                    rotate_left
                                    · simp only [Act.put, List.setIfInBounds_toArray, List.set_cons_zero, List.set_cons_succ, i64_w, i32_w]
                                      rfl
                                    refine pure_ (i := 6) (N := some 74) (v := ?_) (a' := ?_) #[false, true, true, true, false, true, true, false, false] rfl rfl (any_of HT_.out (by kernel_rfl)) (fun _ _ _ h => h) (Or.inl ⟨by rfl, ?_⟩) ?_ ?_
                                    rotate_left
                                    · intro w'
                                      go_simp
                                      with_reducible rfl
                                    rotate_left
                                    · simp only [Act.put, List.setIfInBounds_toArray, List.set_cons_zero, List.set_cons_succ, i64_w, i32_w]
                                      rfl
                                    refine take_ (i := 0) (N := some 68) (v := ?_) (a' := ?_) #[true, true, true, true, false, true, true, false, false] rfl rfl (take_ofW HT_.out HW_.out (by kernel_rfl)) (fun _ _ _ h => h) (Or.inl ⟨by rfl, ?_⟩) hHeld ?_ ?_
                                    rotate_left
                                    · rintro w' ⟨s0, s1, s2, s3, s4, s5, s6, s7⟩
                                      go_simp
                                      with_reducible rfl
                                    rotate_left
                                    · simp only [Act.put, List.setIfInBounds_toArray, List.set_cons_zero, List.set_cons_succ, i64_w, i32_w]
                                      rfl
                                    refine take_ (i := 4) (N := some 72) (v := ?_) (a' := ?_) #[true, true, true, true, true, true, true, false, false] rfl rfl (take_ofW HT_.out HW_.out (by kernel_rfl)) (fun _ _ _ h => h) (Or.inl ⟨by rfl, ?_⟩) hHeld ?_ ?_
                                    rotate_left
                                    · rintro w' ⟨s0, s1, s2, s3, s4, s5, s6, s7⟩
                                      go_simp
                                      with_reducible rfl
                                    rotate_left
                                    · simp only [Act.put, List.setIfInBounds_toArray, List.set_cons_zero, List.set_cons_succ, i64_w, i32_w]
                                      rfl
                                    refine one_ (i := 7) (N := some 75) #[true, true, true, true, true, true, true, true, false] rfl rfl (one_of HT_.out (by kernel_rfl)) (by decide) (fun K hK => ?_)
                                    refine goes_ Try.func27 (by kernel_rfl) rfl #[.agg #[.slice A0_0 l0_0.length c0_0, .slice (some ad420) l0_1.length c0_1], .agg #[.int .i64 ((rd_T48 (rd_L4 l0_1 x6_3) x8_4).f0), .int .i64 ((rd_T48 (rd_L4 l0_1 x6_3) x8_4).f1), .int .i64 ((rd_T48 (rd_L4 l0_1 x6_3) x8_4).f2), .int .i64 ((rd_T48 (rd_L4 l0_1 x6_3) x8_4).f3), .int .i64 ((rd_T48 (rd_L4 l0_1 x6_3) x8_4).f4), .int .u64 ((rd_T48 (rd_L4 l0_1 x6_3) x8_4).f5)], .int .i64 ((rd_L4 l0_1 x6_3).length : Int)] (by rfl) rfl rfl (by (try simp only [List.map_toArray, List.map_cons, List.map_nil]); first | done | rfl | (simp only [List.length_drop, List.length_take]; rfl)) ?_
                                    with_reducible refine (rondeauref11_instr.calls k4 _ _ l0_0 _ _ l0_1 ((rd_T48 (rd_L4 l0_1 x6_3) x8_4).f0) ((rd_T48 (rd_L4 l0_1 x6_3) x8_4).f1) ((rd_T48 (rd_L4 l0_1 x6_3) x8_4).f2) ((rd_T48 (rd_L4 l0_1 x6_3) x8_4).f3) ((rd_T48 (rd_L4 l0_1 x6_3) x8_4).f4) ((rd_T48 (rd_L4 l0_1 x6_3) x8_4).f5) ((rd_L4 l0_1 x6_3).length : Int) t424 _ ?side1 ?side2 ?side3 ?side4 A28.out).mono ?_
                                    (case side1 => repeat (first | exact (Kd.C_below HR0_0.out HB.out) | (with_reducible refine Kd.C_alloc ?_ _) | (with_reducible refine Kd.C_drewN ?_ _) | (with_reducible refine Kd.C_drew ?_)))
                                    (case side2 => exact HC0_0.out)
                                    (case side3 => repeat (first | exact (Kd.C_below HR0_1.out HB.out) | (with_reducible refine Kd.C_alloc ?_ _) | (with_reducible refine Kd.C_drewN ?_ _) | (with_reducible refine Kd.C_drew ?_)))
                                    (case side4 => exact HC0_1.out)
                                    rintro e w35 ⟨rfl, hb⟩
                                    refine ⟨_, rfl, ?_⟩
                                    have n0_ := Aside0.mk (blk_below (g := gb417) (o := .cells #[.slice A0_0 l0_0.length c0_0, .slice (some ad420) l0_1.length c0_1] 25 (0, 0)) (by (with_reducible repeat (first | refine blk_drewN ?_ _ | refine blk_drew ?_ | refine blk_alloc ?_ _)); exact BK417.out) hb)
                                    have n1_ := Aside0.mk (below_step (by repeat (first | (with_reducible first | exact HB.out | apply below_alloc | apply pw_below_drewN | apply below_drew1 | refine below_set ?_ GE417.out) | exact HB.out)) hb)
                                    clear BK417
                                    clear HB
                                    have BK417 := n0_
                                    have HB := n1_
                                    clear n0_ n1_
                                    (try clear hb)
                                    (try clear hb2)
                                    (try clear hk)
                                    (try clear hi)
                                    refine hK.out _ _ ⟨(blk_cell BK417.out 0).trans rfl, (blk_cell BK417.out 1).trans rfl, ((HB.out.cell (World.block_lt_of_cell? w _ hw423_0)).trans hw423_0), ((HB.out.cell (World.block_lt_of_cell? w _ hw423_1)).trans hw423_1), ((HB.out.cell (World.block_lt_of_cell? w _ hw423_2)).trans hw423_2), ((HB.out.cell (World.block_lt_of_cell? w _ hw423_3)).trans hw423_3), ((HB.out.cell (World.block_lt_of_cell? w _ hw423_4)).trans hw423_4), ((HB.out.cell (World.block_lt_of_cell? w _ hw423_5)).trans hw423_5)⟩ (fun hHeld => ?_)
                                    clear hK K
                                    refine norm_ (a' := ?_) ?_ ?_
                                    rotate_left
                                    · show Act.put _ (some 75) _ = _
                                      simp only [Act.put, List.setIfInBounds_toArray, List.set_cons_zero, List.set_cons_succ, i64_w, i32_w]
                                      rfl
                                    refine pure_ (i := 8) (N := some 9) (v := ?_) (a' := ?_) #[true, true, true, true, true, true, true, true, true] rfl rfl (any_of HT_.out (by kernel_rfl)) (fun _ _ _ h => h) (Or.inl ⟨by rfl, ?_⟩) ?_ ?_
                                    rotate_left
                                    · intro w'
                                      go_simp
                                      with_reducible rfl
                                    rotate_left
                                    · simp only [Act.put, List.setIfInBounds_toArray, List.set_cons_zero, List.set_cons_succ, i64_w, i32_w]
                                      rfl
                                    refine done_ (done_of HT_.out (by kernel_rfl)) ?_
                                    try go_wp2
                                    go_ret3
                                    exact ⟨by first | rfl | (simp [errW_none, errW_some] <;> rfl) | (simp [*, errW_none, errW_some] <;> rfl), by repeat (first | (with_reducible first | exact HB.out | apply below_alloc | apply pw_below_drewN | apply below_drew1 | refine below_set ?_ GE417.out) | exact HB.out)⟩
                                · replace c27 := Bool.eq_false_iff.mpr c27
                                  subst c27
                                  have H1 : (if 6 = 0 then (rondeauref11_Check.l2 k4 x6_3 (rd_L4 l0_1 x6_3) (wrap64 (x8_4 + 1)) l0_0 l0_1) else (some (x6_3, x8_4, 6))) = some (r1, r2, r3) := by rw [if_neg (show ¬ (false = true) by decide)] at H; exact H
                                  clear H
                                  have H := H1
                                  clear H1
                                  by_cases c36 : 6 = 0
                                  · exact absurd c36 (by decide)
                                  · rw [if_neg c36] at H
                                    have c36b0 : (6 == 0) = false := beq_eq_false_iff_ne.mpr c36
                                    have c36b1 : (6 != 0) = true := bne_iff_ne.mpr c36
                                    simp only [Option.some.injEq, Prod.mk.injEq] at H
                                    obtain ⟨rfl, rfl, rfl⟩ := H
                                    have p421 : 0 ≤ (x8_4 : Int) := of_decide_eq_true (by first | (with_reducible assumption) | assumption)
                                    have q421 : x8_4 < ((rd_L4 l0_1 x6_3).length : Int) := of_decide_eq_true (by first | (with_reducible assumption) | assumption)
                                    obtain ⟨ad421, e421, hx421_0, hx421_1, hx421_2, hx421_3, hx421_4, hx421_5⟩ := at_T48 HR420_0.out x8_4 p421 q421
                                    cases e421
                                    replace hx421_0 := (HB.out.cell (World.block_lt_of_cell? w _ hx421_0)).trans hx421_0
                                    replace hx421_1 := (HB.out.cell (World.block_lt_of_cell? w _ hx421_1)).trans hx421_1
                                    replace hx421_2 := (HB.out.cell (World.block_lt_of_cell? w _ hx421_2)).trans hx421_2
                                    replace hx421_3 := (HB.out.cell (World.block_lt_of_cell? w _ hx421_3)).trans hx421_3
                                    replace hx421_4 := (HB.out.cell (World.block_lt_of_cell? w _ hx421_4)).trans hx421_4
                                    replace hx421_5 := (HB.out.cell (World.block_lt_of_cell? w _ hx421_5)).trans hx421_5
                                    replace p421 := eq_true p421
                                    replace q421 := eq_true q421
                                    go_wp2_with (first | ((with_reducible refine gate_callee (f := 26) rfl ?_); refine goesL_ (some 67) rfl rfl Try.func26 (by kernel_rfl) rfl #[.agg #[.int .i64 ((rd_T48 (rd_L4 l0_1 x6_3) x8_4).f0), .int .i64 ((rd_T48 (rd_L4 l0_1 x6_3) x8_4).f1), .int .i64 ((rd_T48 (rd_L4 l0_1 x6_3) x8_4).f2), .int .i64 ((rd_T48 (rd_L4 l0_1 x6_3) x8_4).f3), .int .i64 ((rd_T48 (rd_L4 l0_1 x6_3) x8_4).f4), .int .u64 ((rd_T48 (rd_L4 l0_1 x6_3) x8_4).f5)]] rfl (by (try simp only [List.map_toArray, List.map_cons, List.map_nil]); first | done | rfl | (simp only [List.length_drop, List.length_take]; rfl)) ?_; (with_reducible refine (rondeauref09_Right.calls k4 ((rd_T48 (rd_L4 l0_1 x6_3) x8_4).f0) ((rd_T48 (rd_L4 l0_1 x6_3) x8_4).f1) ((rd_T48 (rd_L4 l0_1 x6_3) x8_4).f2) ((rd_T48 (rd_L4 l0_1 x6_3) x8_4).f3) ((rd_T48 (rd_L4 l0_1 x6_3) x8_4).f4) ((rd_T48 (rd_L4 l0_1 x6_3) x8_4).f5) false _ A26.out).mono ?_); rintro e w38 ⟨rfl, hb⟩; refine ⟨_, rfl, ?_⟩; have n0_ := Aside0.mk (blk_below (g := gb417) (o := .cells #[.slice A0_0 l0_0.length c0_0, .slice (some ad420) l0_1.length c0_1] 25 (0, 0)) (by (with_reducible repeat (first | refine blk_drewN ?_ _ | refine blk_drew ?_ | refine blk_alloc ?_ _)); exact BK417.out) hb); have n1_ := Aside0.mk (below_step (by repeat (first | (with_reducible first | exact HB.out | apply below_alloc | apply pw_below_drewN | apply below_drew1 | refine below_set ?_ GE417.out) | exact HB.out)) hb); clear BK417; clear HB; have BK417 := n0_; have HB := n1_; clear n0_ n1_; (try clear hb); (try clear hb2); (try clear hk); (try clear hi)))
                                    go_ret3
                                    exact ⟨by first | rfl | (simp [errW_none, errW_some] <;> rfl) | (simp [*, errW_none, errW_some] <;> rfl), by repeat (first | (with_reducible first | exact HB.out | apply below_alloc | apply pw_below_drewN | apply below_drew1 | refine below_set ?_ GE417.out) | exact HB.out)⟩
                              · rw [if_neg c25] at H
                                exact absurd H (by simp)
                            · rw [if_neg c24] at H
                              have c24b0 : decide (x8_4 < ((rd_L4 l0_1 x6_3).length : Int)) = false := decide_eq_false c24
                              clear c24
                              have H' := Aside0.mk H
                              clear H
                              go_wp2
                              go_roundg k4
                              case measure => have := HJ1.out; have := HK2.out; have := HK3.out; have := HK4.out; omega
                              case rel => exact ⟨(wrap64 (x6_3 + 1)), (by first | rfl | (simp; done) | (simp [*]; done)), H', ⟨by have := HJ1.out; have := HK2.out; have := HK3.out; have := HK4.out; omega⟩, ⟨by (with_reducible repeat (first | refine blk_drewN ?_ _ | refine blk_drew ?_ | refine blk_alloc ?_ _)); exact BK417.out⟩, ⟨by repeat (first | (with_reducible first | exact HB.out | apply below_alloc | apply pw_below_drewN | apply below_drew1 | refine below_set ?_ GE417.out) | exact HB.out)⟩⟩
                    · rw [if_neg c20] at H
                      exact absurd H (by simp)
                  · rw [if_neg c19] at H
                    have c19b0 : decide (x6_3 < (l0_1.length : Int)) = false := decide_eq_false c19
                    clear c19
                    simp only [Option.some.injEq, Prod.mk.injEq] at H
                    obtain ⟨rfl, rfl, rfl⟩ := H
                    have hcz39_0 : wr.cell? ⟨gb417, 0, none⟩ = some (.slice A0_0 l0_0.length c0_0) := (blk_cell BK417.out 0).trans rfl
                    have hcz39_1 : wr.cell? ⟨gb417, 1, none⟩ = some (.slice A0_1 l0_1.length c0_1) := (blk_cell BK417.out 1).trans rfl
                    have hfz39_0 := blk_frozen BK417.out 0
                    have hfz39_1 := blk_frozen BK417.out 1
                    go_wp2
                    go_ret3
                    exact ⟨by first | rfl | (simp [errW_none, errW_some] <;> rfl) | (simp [*, errW_none, errW_some] <;> rfl), by repeat (first | (with_reducible first | exact HB.out | apply below_alloc | apply pw_below_drewN | apply below_drew1 | refine below_set ?_ GE417.out) | exact HB.out)⟩

end Go.Proofs.Ythoejimgdhfmiaa.PCheckTells
