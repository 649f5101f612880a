/- Layer 13's reference: Take. No condition. -/
import Derived.Test.YtmejnhfggmmefaaR13D
namespace Go.Proofs.Ytmejnhfggmmefaa.H
open Go.RowKit
set_option linter.unusedVariables false
set_option linter.unusedSimpArgs false
variable {w : World} {bb : Nat → Prop} {S : Nat → Prop} {r : Rg} {t v j : Int}

/-- A row that is owned, known by its block: one cell of it is set. -/
theorem own_set {w : World} {base g n c : Nat} {e : TypeId} {size : Nat} {xs : List Value} (h : w.ownsRow base e size (.slice (some ⟨g, 0, none⟩) n c) n xs) :
    ∃ cur, w.heap[g]? = some (.cells cur e (0, 0)) ∧ ∀ (W : World) (k : Nat) (u : Value), W.heap[g]? = some (.cells (cur.setIfInBounds k u) e (0, 0)) → W.ownsRow base e size (.slice (some ⟨g, 0, none⟩) n c) n (xs.set k u) := by
  obtain ⟨hl, h | ⟨g', cap, cur, e1, hb, hg, h1, h2, h3, h4⟩⟩ := h
  · cases h.1
  · injection e1 with e1 e2 e3
    injection e1 with e1
    injection e1 with e1
    subst e1; subst e3
    refine ⟨cur, hg, fun W k u hW => ⟨by simpa using hl, .inr ⟨g, c, _, rfl, hb, hW, h1, h2, by simpa using h3, ?_⟩⟩⟩
    rw [Array.toList_setIfInBounds, ← h4, List.take_set]
theorem RG.heads {w W : World} {vh vh' vl : Value} {hs : List Int} {k b : Nat} {x : Int} {L : List Sl} {tl : Int} {C : Bool} (hl : (hs.set k x).length = hs.length)
    (H : As (Rd w vh hs.length (u64s hs) ∧ Rd w vl L.length (slCells L) ∧ (∀ k, vh.ownBlock = some k → ¬ S k) ∧ ∀ k, vl.ownBlock = some k → ¬ bb k))
    (hr : W.ownsRow b 36 1 vh' hs.length ((u64s hs).set k (.int .u64 x))) (hS : ∀ k, vh'.ownBlock = some k → ¬ S k) (k1 : Kp no w W) : RG bb S W (.agg #[.int .u64 L.length, .int .u64 tl, vh', .bool C, vl, .int .i64 hs.length]) ⟨tl, hs.set k x, C, L⟩ := by
  rw [u64s_set] at hr
  rw [← hl]
  obtain ⟨h1, h2, h3, h4⟩ := H.out
  exact ⟨_, _, rfl, by have := Rd.of_own hr; simpa using this, h2.kp k1 (fun _ _ x => x), hS, h4⟩
set_option maxRecDepth 100000 in
set_option maxHeartbeats 6400000 in
theorem RTake_any {e : Value} (hA : RA13 r) (h : RG bb S w e r) (hS : ∀ k, S k → k < w.heap.size) : Calls Try.prog 85 #[e, .int .i64 j] w fun e w' => ∃ vv, e = .returned (.tuple #[.int .u64 (rTake r j).1, .int .i64 (rTake r j).2.1, vv]) ∧ RG bb S w' vv (rTake r j).2.2 ∧ Kp no w w' := by
  have HA := As.mk hA
  have HG := As.mk h
  obtain ⟨tl, hs, CL, L⟩ := r
  obtain ⟨vh, vl, rfl, h1, h2, h3, h4⟩ := h
  obtain ⟨Ah, ch, rfl, -⟩ := id h1
  obtain ⟨Al, cl, rfl, -⟩ := id h2
  dsimp only at hA h1 h2 h3 HA HG ⊢
  have H := As.mk (And.intro h1 (And.intro h2 (And.intro h3 h4)))
  have HS := As.mk hS
  have hn0 := hA.n0
  have hn8 := hA.s.hR
  have ht0 := hA.t0
  have ht1 := hA.t1
  have hh0 := hA.h0
  dsimp only at hn0 hn8 ht0 ht1 hh0
  by_cases hj : 0 ≤ j ∧ j < (hs.length : Int)
  · obtain ⟨j0, j1⟩ := hj
    obtain ⟨k, rfl⟩ := Int.eq_ofNat_of_zero_le j0
    have hk : k < hs.length := by omega
    obtain ⟨gh, go, c9, e9, -, -, hc⟩ := h1.form (by simpa [u64s] using hn0)
    injection e9 with e1 e2 e3
    subst e1; subst e3
    clear e2
    have ck := hc k _ (u64s_get hs k hk)
    have hgl := World.block_lt_of_cell? _ _ ck
    simp only at hgl
    have hi : rIs ⟨tl, hs, CL, L⟩ (k : Int) = true := by unfold rIs; simp; exact hk
    have hh : rHead ⟨tl, hs, CL, L⟩ (k : Int) = hs.getD k 0 := by unfold rHead; simp
    have hx := hh0 _ (getD_mem hk)
    have hxs := As.mk (show (u64s hs)[k]? = some (.int .u64 (hs.getD k 0)) from u64s_get hs k hk)
    generalize hs.getD k 0 = x at ck hh hx hxs
    obtain ⟨x0, x1⟩ := hx
    have E1 := As.mk (And.intro hi hh)
    clear hA h1 h2 h3 h4 hc hi hh hn0 hS hh0
    by_cases hlt : x = tl
    · subst hlt
      cases CL with
      | true =>
        have e : rTake ⟨x, hs, true, L⟩ k = (0, 10, ⟨x, hs, true, L⟩) := by unfold rTake; rw [if_pos E1.out.1, E1.out.2, if_pos rfl]; rfl
        rw [e]
        clear e
        go_enter Try.func85, Try.ntmps85
        go_wp2_with (first | (refine wpStill_op (by rfl) (by rfl) (fun K hK => ?_)) | (refine wpStill_nil ?_) | (refine wpStill_want (by rfl) (by rfl) (fun K hK => ?_)) | (refine wpStill_skip (by rfl) ?_; simp only [Act.put, List.setIfInBounds_toArray, List.set_cons_zero, List.set_cons_succ]) | (refine reg_tail (id := 2) 3 (by kernel_rfl) (by kernel_rfl) ?_; simp only [List.take_succ_cons, List.take_zero, List.drop_succ_cons, List.drop_zero]) | (refine reg_still (id := 3) (by kernel_rfl) (by kernel_rfl) ?_) | (refine reg_tail (id := 5) 3 (by kernel_rfl) (by kernel_rfl) ?_; simp only [List.take_succ_cons, List.take_zero, List.drop_succ_cons, List.drop_zero]) | (refine reg_tail (id := 6) 3 (by kernel_rfl) (by kernel_rfl) ?_; simp only [List.take_succ_cons, List.take_zero, List.drop_succ_cons, List.drop_zero]) | (refine reg_tail (id := 8) 10 (by kernel_rfl) (by kernel_rfl) ?_; simp only [List.take_succ_cons, List.take_zero, List.drop_succ_cons, List.drop_zero]) | (refine reg_tail (id := 9) 9 (by kernel_rfl) (by kernel_rfl) ?_; simp only [List.take_succ_cons, List.take_zero, List.drop_succ_cons, List.drop_zero]))
        refine bodyPost_ret (results_ttc rfl _ _ (w.heap.size + 1) 104 _ (0, 0) _ (.int .u64 0) (.int .i64 10) rfl rfl rfl (by (with_reducible repeat (first | exact absurd | refine st_drew ?_ | apply st_same | refine st_far (by omega) ?_ | (refine st_new ?_; (first | with_reducible rfl | assumption | (simp; done) | (simp; omega))) | refine st_alloc ?_))) Try.underlying104 rfl (by kernel_rfl)) rfl ?_
        refine (fun (k : Kp no w _) => ⟨_, rfl, RG.same H k, k⟩) ?_
        (with_reducible repeat (first | exact Kp.refl no w | refine kp_drew ?_ | refine kp_new (by omega) ?_ | refine kp_alloc ?_))
      | false =>
        have e : rTake ⟨x, hs, false, L⟩ k = (0, 9, ⟨x, hs, false, L⟩) := by unfold rTake; rw [if_pos E1.out.1, E1.out.2, if_pos rfl]; rfl
        rw [e]
        clear e
        go_enter Try.func85, Try.ntmps85
        go_wp2_with (first | (refine wpStill_op (by rfl) (by rfl) (fun K hK => ?_)) | (refine wpStill_nil ?_) | (refine wpStill_want (by rfl) (by rfl) (fun K hK => ?_)) | (refine wpStill_skip (by rfl) ?_; simp only [Act.put, List.setIfInBounds_toArray, List.set_cons_zero, List.set_cons_succ]) | (refine reg_tail (id := 2) 3 (by kernel_rfl) (by kernel_rfl) ?_; simp only [List.take_succ_cons, List.take_zero, List.drop_succ_cons, List.drop_zero]) | (refine reg_still (id := 3) (by kernel_rfl) (by kernel_rfl) ?_) | (refine reg_tail (id := 5) 3 (by kernel_rfl) (by kernel_rfl) ?_; simp only [List.take_succ_cons, List.take_zero, List.drop_succ_cons, List.drop_zero]) | (refine reg_tail (id := 6) 3 (by kernel_rfl) (by kernel_rfl) ?_; simp only [List.take_succ_cons, List.take_zero, List.drop_succ_cons, List.drop_zero]) | (refine reg_tail (id := 8) 10 (by kernel_rfl) (by kernel_rfl) ?_; simp only [List.take_succ_cons, List.take_zero, List.drop_succ_cons, List.drop_zero]) | (refine reg_tail (id := 9) 9 (by kernel_rfl) (by kernel_rfl) ?_; simp only [List.take_succ_cons, List.take_zero, List.drop_succ_cons, List.drop_zero]))
        refine bodyPost_ret (results_ttc rfl _ _ (w.heap.size + 1) 104 _ (0, 0) _ (.int .u64 0) (.int .i64 9) rfl rfl rfl (by (with_reducible repeat (first | exact absurd | refine st_drew ?_ | apply st_same | refine st_far (by omega) ?_ | (refine st_new ?_; (first | with_reducible rfl | assumption | (simp; done) | (simp; omega))) | refine st_alloc ?_))) Try.underlying104 rfl (by kernel_rfl)) rfl ?_
        refine (fun (k : Kp no w _) => ⟨_, rfl, RG.same H k, k⟩) ?_
        (with_reducible repeat (first | exact Kp.refl no w | refine kp_drew ?_ | refine kp_new (by omega) ?_ | refine kp_alloc ?_))
    · have hd : (x == tl) = false := by simpa using hlt
      have e : rTake ⟨tl, hs, CL, L⟩ k = (x, 0, ⟨tl, hs.set k (x + 1), CL, L⟩) := by unfold rTake; rw [if_pos E1.out.1, E1.out.2, if_neg hlt]; simp
      rw [e]
      clear e
      have hlt2 : x < tl := by omega
      clear hlt
      have g0 : ¬ gh = w.heap.size := by omega
      have g1 : ¬ gh = w.heap.size + 1 := by omega
      go_enter Try.func85, Try.ntmps85
      go_wp2_with (first | (at_builtin; go_loud (refine wp_append rfl (.tmp 29) (.tmp 31) 31 36 rfl Try.underlying31 Try.infoU64 rfl (by decide) (w.heap.size + 1 + 1) (news := u64s hs) rfl rfl (own_empty (by (with_reducible repeat (first | exact absurd | refine st_drew ?_ | apply st_same | refine st_far (by omega) ?_ | (refine st_new ?_; (first | with_reducible rfl | assumption | (simp; done) | (simp; omega))) | refine st_alloc ?_))) (Nat.le_refl _)) (H.out.1.kp (S := no) (by (with_reducible repeat (first | exact Kp.refl no w | refine kp_drew ?_ | refine kp_new (by omega) ?_ | refine kp_alloc ?_))) (fun _ _ x => x)) (u64s_len hs) (u64s_one hs) (by omega) (by omega) (by first | (simp; done) | (simp; omega)) ?_)) | (refine wpStill_op (by rfl) (by rfl) (fun K hK => ?_)) | (refine wpStill_nil ?_) | (refine wpStill_want (by rfl) (by rfl) (fun K hK => ?_)) | (refine wpStill_skip (by rfl) ?_; simp only [Act.put, List.setIfInBounds_toArray, List.set_cons_zero, List.set_cons_succ]) | (refine reg_tail (id := 2) 3 (by kernel_rfl) (by kernel_rfl) ?_; simp only [List.take_succ_cons, List.take_zero, List.drop_succ_cons, List.drop_zero]) | (refine reg_still (id := 3) (by kernel_rfl) (by kernel_rfl) ?_) | (refine reg_tail (id := 5) 3 (by kernel_rfl) (by kernel_rfl) ?_; simp only [List.take_succ_cons, List.take_zero, List.drop_succ_cons, List.drop_zero]) | (refine reg_tail (id := 6) 3 (by kernel_rfl) (by kernel_rfl) ?_; simp only [List.take_succ_cons, List.take_zero, List.drop_succ_cons, List.drop_zero]) | (refine reg_tail (id := 8) 10 (by kernel_rfl) (by kernel_rfl) ?_; simp only [List.take_succ_cons, List.take_zero, List.drop_succ_cons, List.drop_zero]) | (refine reg_tail (id := 9) 9 (by kernel_rfl) (by kernel_rfl) ?_; simp only [List.take_succ_cons, List.take_zero, List.drop_succ_cons, List.drop_zero]))
      intro v' w' hown hk2 ho
      obtain ⟨g, c', rfl, hg⟩ := or_some hown (by omega)
      have hne : ∀ i, i < w.heap.size + 1 + 1 → ¬ (Value.slice (some ⟨w.heap.size + 1 + 1, 0, none⟩) 0 0).ownBlock = some i := fun i hi e => by
        have := Option.some.inj e; simp only at this; omega
      have m0 := bk_kp (g := w.heap.size) (o := .cells _ 104 (0, 0)) (by (with_reducible repeat (first | exact absurd | refine st_drew ?_ | apply st_same | refine st_far (by omega) ?_ | (refine st_new ?_; (first | with_reducible rfl | assumption | (simp; done) | (simp; omega))) | refine st_alloc ?_))) hk2 (hne _ (by omega))
      have m1 := bk_kp (g := w.heap.size + 1) (o := .cells _ 104 (0, 0)) (by (with_reducible repeat (first | exact absurd | refine st_drew ?_ | apply st_same | refine st_far (by omega) ?_ | (refine st_new ?_; (first | with_reducible rfl | assumption | (simp; done) | (simp; omega))) | refine st_alloc ?_))) hk2 (hne _ (by omega))
      have hK : Kp no w w' := Kp.new (by (with_reducible repeat (first | exact Kp.refl no w | refine kp_drew ?_ | refine kp_new (by omega) ?_ | refine kp_alloc ?_))) hk2 (fun i e => by have := Option.some.inj e; simp only at this; omega)
      have e0 := bk_cell m0
      have z0 := bk_fz m0
      have e1 := bk_cell m1
      have z1 := bk_fz m1
      have cg := or_cell hown k _ hxs.out
      have zg := fun i => hown.frozenAt (g := g) i
      have a0 : ¬ g = w.heap.size := by omega
      have a1 : ¬ g = w.heap.size + 1 := by omega
      have a2 : ¬ w.heap.size = g := by omega
      have a3 : ¬ w.heap.size + 1 = g := by omega
      have M := As.mk (And.intro m0 (And.intro m1 (And.intro hK hown)))
      clear m0 m1 hown hk2 ho ck hne hK
      go_wp2_with (first | (refine wpStill_op (by rfl) (by rfl) (fun K hK => ?_)) | (refine wpStill_nil ?_) | (refine wpStill_want (by rfl) (by rfl) (fun K hK => ?_)) | (refine wpStill_skip (by rfl) ?_; simp only [Act.put, List.setIfInBounds_toArray, List.set_cons_zero, List.set_cons_succ]) | (refine reg_tail (id := 2) 3 (by kernel_rfl) (by kernel_rfl) ?_; simp only [List.take_succ_cons, List.take_zero, List.drop_succ_cons, List.drop_zero]) | (refine reg_still (id := 3) (by kernel_rfl) (by kernel_rfl) ?_) | (refine reg_tail (id := 5) 3 (by kernel_rfl) (by kernel_rfl) ?_; simp only [List.take_succ_cons, List.take_zero, List.drop_succ_cons, List.drop_zero]) | (refine reg_tail (id := 6) 3 (by kernel_rfl) (by kernel_rfl) ?_; simp only [List.take_succ_cons, List.take_zero, List.drop_succ_cons, List.drop_zero]) | (refine reg_tail (id := 8) 10 (by kernel_rfl) (by kernel_rfl) ?_; simp only [List.take_succ_cons, List.take_zero, List.drop_succ_cons, List.drop_zero]) | (refine reg_tail (id := 9) 9 (by kernel_rfl) (by kernel_rfl) ?_; simp only [List.take_succ_cons, List.take_zero, List.drop_succ_cons, List.drop_zero]))
      refine bodyPost_ret (results_ttc rfl _ _ (w.heap.size + 1) 104 _ (0, 0) _ (.int .u64 x) (.int .i64 0) rfl rfl rfl (by (with_reducible repeat (first | exact M.out.2.1 | refine st_drew ?_ | apply st_same | refine st_far (by omega) ?_ | (refine st_new ?_; (first | with_reducible rfl | assumption | (simp; done) | (simp; omega))) | refine st_alloc ?_))) Try.underlying104 rfl (by kernel_rfl)) rfl ?_
      obtain ⟨m0, m1, hK, hown⟩ := M.out
      obtain ⟨cur, hcur, hset⟩ := own_set hown
      refine (fun (k1 : Kp no w _) (hc1 : World.ownsRow _ _ _ _ _ _ _) => ⟨_, rfl, RG.heads (by simp) H hc1 (fun i e hs => by have e := Option.some.inj e; simp only at e; have := HS.out i hs; omega) k1, k1⟩) ?_ (hset _ k (.int .u64 (x + 1)) (by (with_reducible repeat (first | exact hcur | refine st_drew ?_ | apply st_same | refine st_far (by omega) ?_ | (refine st_new ?_; (first | with_reducible rfl | assumption | (simp; done) | (simp; omega))) | refine st_alloc ?_))))
      (with_reducible repeat (first | exact hK | refine kp_drew ?_ | refine kp_new (by omega) ?_ | refine kp_alloc ?_))
  · have e : rTake ⟨tl, hs, CL, L⟩ j = (0, 1, ⟨tl, hs, CL, L⟩) := by
      unfold rTake; rw [if_neg]; intro hi; exact hj (by simpa [rIs] using hi)
    rw [e]
    clear e hA h1 h2 h3 h4 hn0 hS hh0
    by_cases j0 : j < 0
    · have hd : decide (j < 0) = true := decide_eq_true j0
      clear hj
      go_enter Try.func85, Try.ntmps85
      go_wp2_with (first | (refine wpStill_op (by rfl) (by rfl) (fun K hK => ?_)) | (refine wpStill_nil ?_) | (refine wpStill_want (by rfl) (by rfl) (fun K hK => ?_)) | (refine wpStill_skip (by rfl) ?_; simp only [Act.put, List.setIfInBounds_toArray, List.set_cons_zero, List.set_cons_succ]) | (refine reg_tail (id := 2) 3 (by kernel_rfl) (by kernel_rfl) ?_; simp only [List.take_succ_cons, List.take_zero, List.drop_succ_cons, List.drop_zero]) | (refine reg_still (id := 3) (by kernel_rfl) (by kernel_rfl) ?_) | (refine reg_tail (id := 5) 3 (by kernel_rfl) (by kernel_rfl) ?_; simp only [List.take_succ_cons, List.take_zero, List.drop_succ_cons, List.drop_zero]) | (refine reg_tail (id := 6) 3 (by kernel_rfl) (by kernel_rfl) ?_; simp only [List.take_succ_cons, List.take_zero, List.drop_succ_cons, List.drop_zero]) | (refine reg_tail (id := 8) 10 (by kernel_rfl) (by kernel_rfl) ?_; simp only [List.take_succ_cons, List.take_zero, List.drop_succ_cons, List.drop_zero]) | (refine reg_tail (id := 9) 9 (by kernel_rfl) (by kernel_rfl) ?_; simp only [List.take_succ_cons, List.take_zero, List.drop_succ_cons, List.drop_zero]))
      refine bodyPost_ret (results_ttc rfl _ _ (w.heap.size + 1) 104 _ (0, 0) _ (.int .u64 0) (.int .i64 1) rfl rfl rfl (by (with_reducible repeat (first | exact absurd | refine st_drew ?_ | apply st_same | refine st_far (by omega) ?_ | (refine st_new ?_; (first | with_reducible rfl | assumption | (simp; done) | (simp; omega))) | refine st_alloc ?_))) Try.underlying104 rfl (by kernel_rfl)) rfl ?_
      refine (fun (k : Kp no w _) => ⟨_, rfl, RG.same H k, k⟩) ?_
      (with_reducible repeat (first | exact Kp.refl no w | refine kp_drew ?_ | refine kp_new (by omega) ?_ | refine kp_alloc ?_))
    · have hd : decide (j < 0) = false := decide_eq_false j0
      have hd2 : decide ((hs.length : Int) ≤ j) = true := decide_eq_true (by omega)
      clear hj j0
      go_enter Try.func85, Try.ntmps85
      go_wp2_with (first | (refine wpStill_op (by rfl) (by rfl) (fun K hK => ?_)) | (refine wpStill_nil ?_) | (refine wpStill_want (by rfl) (by rfl) (fun K hK => ?_)) | (refine wpStill_skip (by rfl) ?_; simp only [Act.put, List.setIfInBounds_toArray, List.set_cons_zero, List.set_cons_succ]) | (refine reg_tail (id := 2) 3 (by kernel_rfl) (by kernel_rfl) ?_; simp only [List.take_succ_cons, List.take_zero, List.drop_succ_cons, List.drop_zero]) | (refine reg_still (id := 3) (by kernel_rfl) (by kernel_rfl) ?_) | (refine reg_tail (id := 5) 3 (by kernel_rfl) (by kernel_rfl) ?_; simp only [List.take_succ_cons, List.take_zero, List.drop_succ_cons, List.drop_zero]) | (refine reg_tail (id := 6) 3 (by kernel_rfl) (by kernel_rfl) ?_; simp only [List.take_succ_cons, List.take_zero, List.drop_succ_cons, List.drop_zero]) | (refine reg_tail (id := 8) 10 (by kernel_rfl) (by kernel_rfl) ?_; simp only [List.take_succ_cons, List.take_zero, List.drop_succ_cons, List.drop_zero]) | (refine reg_tail (id := 9) 9 (by kernel_rfl) (by kernel_rfl) ?_; simp only [List.take_succ_cons, List.take_zero, List.drop_succ_cons, List.drop_zero]))
      refine bodyPost_ret (results_ttc rfl _ _ (w.heap.size + 1) 104 _ (0, 0) _ (.int .u64 0) (.int .i64 1) rfl rfl rfl (by (with_reducible repeat (first | exact absurd | refine st_drew ?_ | apply st_same | refine st_far (by omega) ?_ | (refine st_new ?_; (first | with_reducible rfl | assumption | (simp; done) | (simp; omega))) | refine st_alloc ?_))) Try.underlying104 rfl (by kernel_rfl)) rfl ?_
      refine (fun (k : Kp no w _) => ⟨_, rfl, RG.same H k, k⟩) ?_
      (with_reducible repeat (first | exact Kp.refl no w | refine kp_drew ?_ | refine kp_new (by omega) ?_ | refine kp_alloc ?_))
end Go.Proofs.Ytmejnhfggmmefaa.H
