/- Layer 14's reference: Get, Rest, New. No condition. -/
import Derived.Test.YtmejnhfggmmefaaR14
namespace Go.Proofs.Ytmejnhfggmmefaa.H
open Go.RowKit
set_option linter.unusedVariables false
set_option linter.unusedSimpArgs false
variable {W w : World} {S : Nat → Prop} {m : Md} {v j : Int}

set_option maxRecDepth 100000 in
set_option maxHeartbeats 6400000 in
theorem RGet14_arg {e : Value} (hA : RA14 m) (h : RM W w S e m) (hj : mIs m j = false) : Calls Try.prog 28 #[e, .int .i64 j] w fun e w' => ∃ vv, e = .returned (.tuple #[.int .u64 0, .int .i64 1, vv]) ∧ RM W w' S vv m ∧ Kp no w w' := by
  obtain ⟨most, l, got, cl⟩ := m
  obtain ⟨vl, vg, rfl, h1, h2, h3, h4⟩ := h
  obtain ⟨A1, c1, rfl⟩ := or_form h1
  obtain ⟨A2, c2, rfl⟩ := or_form h2
  dsimp only at hA h1 h2 h3 h4 hj ⊢
  obtain ⟨n0, n8, big, q0, q1, h0⟩ := hA
  dsimp only at n0 n8 big q0 q1 h0
  have HH := As.mk (And.intro h1 (And.intro h2 (And.intro h3 h4)))
  clear h1 h2 h3 h4 h0
  have hj2 : j < 0 ∨ (got.length : Int) ≤ j := by
    unfold mIs at hj; simp at hj
    rcases Int.lt_or_le j 0 with h | h
    · exact .inl h
    · exact .inr (hj h)
  clear hj
  by_cases hn : j < 0

  · have d1 : decide (j < 0) = true := decide_eq_true hn
    clear hn hj2
    go_enter Try.func28, Try.ntmps28
    go_upto_region 2 with fail
    obtain ⟨m0, m1, hK, hs⟩ := alloc2 (w := w) #[.int .i64 most, .slice A1 l.length c1, .slice A2 got.length c2, .bool cl] #[.int .i64 0, .slice none 0 0, .slice none 0 0, .bool false] 34 34
    generalize (w.alloc (.cells #[.int .i64 most, .slice A1 l.length c1, .slice A2 got.length c2, .bool cl] 34)).alloc (.cells #[.int .i64 0, .slice none 0 0, .slice none 0 0, .bool false] 34) = W1 at m0 m1 hK hs ⊢
    generalize hb0 : w.heap.size = b0 at m0 m1 hs ⊢
    refine wp_region_still_tail 3 (by kernel_rfl) (by kernel_rfl) ?_
    generalize hq : ({ W1 with drawn := W1.drawn + 1 } : World) = W2
    replace hq : QD W1 W2 := ⟨1, hq.symm⟩
    replace m0 := bk_qd m0 hq
    replace m1 := bk_qd m1 hq
    replace hK := hK.qd hq
    have e0 := bk_cell m0 0
    have e1 := bk_cell m0 1
    have e2 := bk_cell m0 2
    have e3 := bk_cell m0 3
    have f0 := bk_cell m1 0
    have f1 := bk_cell m1 1
    have f2 := bk_cell m1 2
    have f3 := bk_cell m1 3
    have z0 := bk_fz m1 0
    have z1 := bk_fz m1 1
    have z2 := bk_fz m1 2
    have z3 := bk_fz m1 3
    have HM := As.mk (And.intro m1 hK)
    clear m0 m1 hK hs hq
    simp only [List.take_succ_cons, List.take_zero, List.drop_succ_cons, List.drop_zero]
    repeat still_step
    refine wpStill_nil ?_
    clear e0 e1 e2 e3
    go_wp2
    obtain ⟨g1, g2, g3⟩ := tell4 (.int .i64 most) (.slice A1 l.length c1) (.slice A2 got.length c2) (.bool cl) HM.out.1 HM.out.2 (by omega)
    refine bodyPost_ret (results_ttc rfl _ _ (b0 + 1) 34 #[.int .i64 most, .slice A1 l.length c1, .slice A2 got.length c2, .bool cl] (0, 0) _ (.int .u64 0) (.int .i64 1) rfl rfl rfl g1 Try.underlying34 rfl (by kernel_rfl)) rfl ?_
    exact ⟨_, rfl, RM.kp ⟨_, _, rfl, HH.out.1, HH.out.2.1, HH.out.2.2.1, HH.out.2.2.2⟩ g2 (fun _ x => x.elim), g2⟩

  · have d1 : decide (j < 0) = false := decide_eq_false hn
    have d2 : decide ((got.length : Int) ≤ j) = true := decide_eq_true (by omega)
    clear hn hj2
    go_enter Try.func28, Try.ntmps28
    go_upto_region 2 with fail
    obtain ⟨m0, m1, hK, hs⟩ := alloc2 (w := w) #[.int .i64 most, .slice A1 l.length c1, .slice A2 got.length c2, .bool cl] #[.int .i64 0, .slice none 0 0, .slice none 0 0, .bool false] 34 34
    generalize (w.alloc (.cells #[.int .i64 most, .slice A1 l.length c1, .slice A2 got.length c2, .bool cl] 34)).alloc (.cells #[.int .i64 0, .slice none 0 0, .slice none 0 0, .bool false] 34) = W1 at m0 m1 hK hs ⊢
    generalize hb0 : w.heap.size = b0 at m0 m1 hs ⊢
    refine wp_region_still_tail 3 (by kernel_rfl) (by kernel_rfl) ?_
    generalize hq : ({ W1 with drawn := W1.drawn + 1 } : World) = W2
    replace hq : QD W1 W2 := ⟨1, hq.symm⟩
    replace m0 := bk_qd m0 hq
    replace m1 := bk_qd m1 hq
    replace hK := hK.qd hq
    have e0 := bk_cell m0 0
    have e1 := bk_cell m0 1
    have e2 := bk_cell m0 2
    have e3 := bk_cell m0 3
    have f0 := bk_cell m1 0
    have f1 := bk_cell m1 1
    have f2 := bk_cell m1 2
    have f3 := bk_cell m1 3
    have z0 := bk_fz m1 0
    have z1 := bk_fz m1 1
    have z2 := bk_fz m1 2
    have z3 := bk_fz m1 3
    have HM := As.mk (And.intro m1 hK)
    clear m0 m1 hK hs hq
    simp only [List.take_succ_cons, List.take_zero, List.drop_succ_cons, List.drop_zero]
    repeat still_step
    refine wpStill_nil ?_
    clear e0 e1 e2 e3
    go_wp2
    obtain ⟨g1, g2, g3⟩ := tell4 (.int .i64 most) (.slice A1 l.length c1) (.slice A2 got.length c2) (.bool cl) HM.out.1 HM.out.2 (by omega)
    refine bodyPost_ret (results_ttc rfl _ _ (b0 + 1) 34 #[.int .i64 most, .slice A1 l.length c1, .slice A2 got.length c2, .bool cl] (0, 0) _ (.int .u64 0) (.int .i64 1) rfl rfl rfl g1 Try.underlying34 rfl (by kernel_rfl)) rfl ?_
    exact ⟨_, rfl, RM.kp ⟨_, _, rfl, HH.out.1, HH.out.2.1, HH.out.2.2.1, HH.out.2.2.2⟩ g2 (fun _ x => x.elim), g2⟩

theorem mIs_nat (h : mIs m j = true) : ∃ jn : Nat, j = jn ∧ jn < m.got.length := by
  have : (0 : Int) ≤ j ∧ j < (m.got.length : Int) := by simpa [mIs] using h
  exact ⟨j.toNat, by omega, by omega⟩

set_option maxRecDepth 100000 in
set_option maxHeartbeats 6400000 in
theorem RGet14_noneC {e : Value} (hA : RA14 m) (h : RM W w S e m) (hj : mIs m j = true) (he : mGot m j = m.l.length) (hc : m.closed = true) : Calls Try.prog 28 #[e, .int .i64 j] w fun e w' => ∃ vv, e = .returned (.tuple #[.int .u64 0, .int .i64 10, vv]) ∧ RM W w' S vv m ∧ Kp no w w' := by
  obtain ⟨most, l, got, cl⟩ := m
  obtain ⟨vl, vg, rfl, h1, h2, h3, h4⟩ := h
  obtain ⟨A1, c1, rfl⟩ := or_form h1
  obtain ⟨A2, c2, rfl⟩ := or_form h2
  dsimp only at hA h1 h2 h3 h4 hj he hc ⊢
  subst hc
  obtain ⟨jn, rfl, hjl⟩ := mIs_nat hj
  dsimp only at hjl
  obtain ⟨n0, n8, big, q0, q1, h0⟩ := hA
  dsimp only at n0 n8 big q0 q1 h0
  have HH := As.mk (And.intro h1 (And.intro h2 (And.intro h3 h4)))
  have hc1 := h2
  obtain ⟨gg, c2', e2, -⟩ := or_some h2 n0
  injection e2 with e2 e3 e4
  subst e2; subst e4; clear e3
  have hgd : mGot ⟨most, l, got, true⟩ (jn : Int) = got.getD jn 0 := by unfold mGot; rw [Int.toNat_natCast]
  have hmem : got.getD jn 0 ∈ got := by
    rw [List.getD_eq_getElem?_getD, List.getElem?_eq_getElem hjl]; exact List.getElem_mem hjl
  have hb9 := h0 _ hmem
  rw [hgd] at he
  have hcell : ∀ {w' : World}, Kp no w w' → w'.cell? ⟨gg, jn, none⟩ = some (.int .i64 (got.getD jn 0)) := fun hk => or_cell (or_kp hc1 hk (fun _ _ x => x)) jn _ (ints_get got jn hjl)
  rw [he] at hcell
  have HC := As.mk (@hcell)
  clear h1 h2 h3 h4 h0 hcell he hgd hmem hb9 hc1 hj
  have hd9 : decide (got.length ≤ jn) = false := decide_eq_false (by omega)
  go_enter Try.func28, Try.ntmps28
  go_upto_region 3 with fail
  obtain ⟨m0, m1, hK, hs⟩ := alloc2 (w := w) #[.int .i64 most, .slice A1 l.length c1, .slice (some ⟨gg, 0, none⟩) got.length c2, .bool true] #[.int .i64 0, .slice none 0 0, .slice none 0 0, .bool false] 34 34
  generalize (w.alloc (.cells #[.int .i64 most, .slice A1 l.length c1, .slice (some ⟨gg, 0, none⟩) got.length c2, .bool true] 34)).alloc (.cells #[.int .i64 0, .slice none 0 0, .slice none 0 0, .bool false] 34) = W1 at m0 m1 hK hs ⊢
  generalize hb0 : w.heap.size = b0 at m0 m1 hs ⊢
  have hcc := HC.out hK
  have x0 := bk_cell m0 0
  have x1 := bk_cell m0 1
  have x2 := bk_cell m0 2
  have x3 := bk_cell m0 3
  go_quiet (fail)
  have hqn := QD.n W1 nq
  generalize W1.drewN nq = w5 at hqn ⊢
  replace m0 := bk_qd m0 hqn
  replace m1 := bk_qd m1 hqn
  replace hK := hK.qd hqn
  clear x0 x1 x2 x3 hcc hs
  have x3 := bk_cell m0 3
  go_upto_region 5 with fail
  clear x3
  refine wp_region_still_tail 3 (by kernel_rfl) (by kernel_rfl) ?_
  generalize hq : ({ w5 with drawn := w5.drawn + 1 } : World) = W2
  replace hq : QD w5 W2 := ⟨1, hq.symm⟩
  replace m0 := bk_qd m0 hq
  replace m1 := bk_qd m1 hq
  replace hK := hK.qd hq
  have e0 := bk_cell m0 0
  have e1 := bk_cell m0 1
  have e2 := bk_cell m0 2
  have e3 := bk_cell m0 3
  have f0 := bk_cell m1 0
  have f1 := bk_cell m1 1
  have f2 := bk_cell m1 2
  have f3 := bk_cell m1 3
  have z0 := bk_fz m1 0
  have z1 := bk_fz m1 1
  have z2 := bk_fz m1 2
  have z3 := bk_fz m1 3
  have HM := As.mk (And.intro m1 hK)
  clear m0 m1 hK hq hqn
  simp only [List.take_succ_cons, List.take_zero, List.drop_succ_cons, List.drop_zero]
  repeat still_step
  refine wpStill_nil ?_
  clear e0 e1 e2 e3
  go_wp2
  obtain ⟨g1, g2, g3⟩ := tell4 (.int .i64 most) (.slice A1 l.length c1) (.slice (some ⟨gg, 0, none⟩) got.length c2) (.bool true) HM.out.1 HM.out.2 (by omega)
  refine bodyPost_ret (results_ttc rfl _ _ (b0 + 1) 34 #[.int .i64 most, .slice A1 l.length c1, .slice (some ⟨gg, 0, none⟩) got.length c2, .bool true] (0, 0) _ (.int .u64 0) (.int .i64 10) rfl rfl rfl g1 Try.underlying34 rfl (by kernel_rfl)) rfl ?_
  exact ⟨_, rfl, RM.kp ⟨_, _, rfl, HH.out.1, HH.out.2.1, HH.out.2.2.1, HH.out.2.2.2⟩ g2 (fun _ x => x.elim), g2⟩

set_option maxRecDepth 100000 in
set_option maxHeartbeats 6400000 in
theorem RGet14_noneO {e : Value} (hA : RA14 m) (h : RM W w S e m) (hj : mIs m j = true) (he : mGot m j = m.l.length) (hc : m.closed = false) : Calls Try.prog 28 #[e, .int .i64 j] w fun e w' => ∃ vv, e = .returned (.tuple #[.int .u64 0, .int .i64 9, vv]) ∧ RM W w' S vv m ∧ Kp no w w' := by
  obtain ⟨most, l, got, cl⟩ := m
  obtain ⟨vl, vg, rfl, h1, h2, h3, h4⟩ := h
  obtain ⟨A1, c1, rfl⟩ := or_form h1
  obtain ⟨A2, c2, rfl⟩ := or_form h2
  dsimp only at hA h1 h2 h3 h4 hj he hc ⊢
  subst hc
  obtain ⟨jn, rfl, hjl⟩ := mIs_nat hj
  dsimp only at hjl
  obtain ⟨n0, n8, big, q0, q1, h0⟩ := hA
  dsimp only at n0 n8 big q0 q1 h0
  have HH := As.mk (And.intro h1 (And.intro h2 (And.intro h3 h4)))
  have hc1 := h2
  obtain ⟨gg, c2', e2, -⟩ := or_some h2 n0
  injection e2 with e2 e3 e4
  subst e2; subst e4; clear e3
  have hgd : mGot ⟨most, l, got, false⟩ (jn : Int) = got.getD jn 0 := by unfold mGot; rw [Int.toNat_natCast]
  have hmem : got.getD jn 0 ∈ got := by
    rw [List.getD_eq_getElem?_getD, List.getElem?_eq_getElem hjl]; exact List.getElem_mem hjl
  have hb9 := h0 _ hmem
  rw [hgd] at he
  have hcell : ∀ {w' : World}, Kp no w w' → w'.cell? ⟨gg, jn, none⟩ = some (.int .i64 (got.getD jn 0)) := fun hk => or_cell (or_kp hc1 hk (fun _ _ x => x)) jn _ (ints_get got jn hjl)
  rw [he] at hcell
  have HC := As.mk (@hcell)
  clear h1 h2 h3 h4 h0 hcell he hgd hmem hb9 hc1 hj
  have hd9 : decide (got.length ≤ jn) = false := decide_eq_false (by omega)
  go_enter Try.func28, Try.ntmps28
  go_upto_region 3 with fail
  obtain ⟨m0, m1, hK, hs⟩ := alloc2 (w := w) #[.int .i64 most, .slice A1 l.length c1, .slice (some ⟨gg, 0, none⟩) got.length c2, .bool false] #[.int .i64 0, .slice none 0 0, .slice none 0 0, .bool false] 34 34
  generalize (w.alloc (.cells #[.int .i64 most, .slice A1 l.length c1, .slice (some ⟨gg, 0, none⟩) got.length c2, .bool false] 34)).alloc (.cells #[.int .i64 0, .slice none 0 0, .slice none 0 0, .bool false] 34) = W1 at m0 m1 hK hs ⊢
  generalize hb0 : w.heap.size = b0 at m0 m1 hs ⊢
  have hcc := HC.out hK
  have x0 := bk_cell m0 0
  have x1 := bk_cell m0 1
  have x2 := bk_cell m0 2
  have x3 := bk_cell m0 3
  go_quiet (fail)
  have hqn := QD.n W1 nq
  generalize W1.drewN nq = w5 at hqn ⊢
  replace m0 := bk_qd m0 hqn
  replace m1 := bk_qd m1 hqn
  replace hK := hK.qd hqn
  clear x0 x1 x2 x3 hcc hs
  have x3 := bk_cell m0 3
  go_upto_region 6 with fail
  clear x3
  refine wp_region_still_tail 3 (by kernel_rfl) (by kernel_rfl) ?_
  generalize hq : ({ w5 with drawn := w5.drawn + 1 } : World) = W2
  replace hq : QD w5 W2 := ⟨1, hq.symm⟩
  replace m0 := bk_qd m0 hq
  replace m1 := bk_qd m1 hq
  replace hK := hK.qd hq
  have e0 := bk_cell m0 0
  have e1 := bk_cell m0 1
  have e2 := bk_cell m0 2
  have e3 := bk_cell m0 3
  have f0 := bk_cell m1 0
  have f1 := bk_cell m1 1
  have f2 := bk_cell m1 2
  have f3 := bk_cell m1 3
  have z0 := bk_fz m1 0
  have z1 := bk_fz m1 1
  have z2 := bk_fz m1 2
  have z3 := bk_fz m1 3
  have HM := As.mk (And.intro m1 hK)
  clear m0 m1 hK hq hqn
  simp only [List.take_succ_cons, List.take_zero, List.drop_succ_cons, List.drop_zero]
  repeat still_step
  refine wpStill_nil ?_
  clear e0 e1 e2 e3
  go_wp2
  obtain ⟨g1, g2, g3⟩ := tell4 (.int .i64 most) (.slice A1 l.length c1) (.slice (some ⟨gg, 0, none⟩) got.length c2) (.bool false) HM.out.1 HM.out.2 (by omega)
  refine bodyPost_ret (results_ttc rfl _ _ (b0 + 1) 34 #[.int .i64 most, .slice A1 l.length c1, .slice (some ⟨gg, 0, none⟩) got.length c2, .bool false] (0, 0) _ (.int .u64 0) (.int .i64 9) rfl rfl rfl g1 Try.underlying34 rfl (by kernel_rfl)) rfl ?_
  exact ⟨_, rfl, RM.kp ⟨_, _, rfl, HH.out.1, HH.out.2.1, HH.out.2.2.1, HH.out.2.2.2⟩ g2 (fun _ x => x.elim), g2⟩

set_option maxRecDepth 100000 in
set_option maxHeartbeats 6400000 in
theorem RGet14_some {e : Value} (hA : RA14 m) (h : RM W w S e m) (hj : mIs m j = true) (he : mGot m j ≠ m.l.length) (hS : ∀ k, S k → k < w.heap.size) (hW : W.heap.size ≤ w.heap.size) : Calls Try.prog 28 #[e, .int .i64 j] w fun e w' => ∃ vv, e = .returned (.tuple #[.int .u64 (m.l.getD (mGot m j).toNat 0), .int .i64 0, vv]) ∧ RM W w' S vv { m with got := m.got.set j.toNat (mGot m j + 1) } ∧ Kp no w w' := by
  obtain ⟨most, l, got, cl⟩ := m
  obtain ⟨vl, vg, rfl, h1, h2, h3, h4⟩ := h
  obtain ⟨A1, c1, rfl⟩ := or_form h1
  obtain ⟨A2, c2, rfl⟩ := or_form h2
  dsimp only at hA h1 h2 h3 h4 hj he ⊢
  obtain ⟨jn, rfl, hjl⟩ := mIs_nat hj
  dsimp only at hjl
  obtain ⟨n0, n8, big, q0, q1, h0⟩ := hA
  dsimp only at n0 n8 big q0 q1 h0
  have HH := As.mk (And.intro h1 (And.intro h2 (And.intro h3 h4)))
  have hc1 := h2
  obtain ⟨gg, c2', e2, -⟩ := or_some h2 n0
  injection e2 with e2 e3 e4
  subst e2; subst e4; clear e3
  have hgd : mGot ⟨most, l, got, cl⟩ (jn : Int) = got.getD jn 0 := by unfold mGot; rw [Int.toNat_natCast]
  have hmem : got.getD jn 0 ∈ got := by
    rw [List.getD_eq_getElem?_getD, List.getElem?_eq_getElem hjl]; exact List.getElem_mem hjl
  have hb9 := h0 _ hmem
  rw [hgd] at he
  have hcell : ∀ {w' : World}, Kp no w w' → w'.cell? ⟨gg, jn, none⟩ = some (.int .i64 (got.getD jn 0)) := fun hk => or_cell (or_kp hc1 hk (fun _ _ x => x)) jn _ (ints_get got jn hjl)
  obtain ⟨gn, hgn⟩ := Int.eq_ofNat_of_zero_le hb9.1
  rw [hgn] at hb9 he hcell hgd
  have hgl : gn < l.length := by omega
  obtain ⟨ga, c1', e5, -⟩ := or_some h1 (by omega)
  injection e5 with e5 e6 e7
  subst e5; subst e7
  clear e6
  have hcell1 : ∀ {w' : World}, Kp no w w' → w'.cell? ⟨ga, gn, none⟩ = some (.int .u64 (l.getD gn 0)) := fun hk => or_cell (or_kp HH.out.1 hk (fun _ _ x => x)) gn _ (u64s_get l gn hgl)
  have hrow2 : ∀ {w' : World}, Kp no w w' → ∀ (j : Nat) (u : Value), (ints got)[j]? = some u → w'.cell? ((⟨gg, 0, none⟩ : Addr).add j) = some u := fun hk j u hj => (or_kp hc1 hk (fun _ _ x => x)).cells (g := gg) rfl j u hj
  have HC := As.mk (And.intro (@hcell) (And.intro (@hcell1) (@hrow2)))
  have HS := As.mk (And.intro hS hW)
  have hne : ((gn : Int) == (l.length : Int)) = false := by simp; omega
  have HG := As.mk hgd
  rw [hgd, Int.toNat_natCast, Int.toNat_natCast]
  generalize l.getD gn 0 = xv at HC ⊢
  clear h1 h2 h3 h4 h0 hcell hcell1 hrow2 he hgd hmem hb9 hc1 hj hS hW
  have hd9 : decide (got.length ≤ jn) = false := decide_eq_false (by omega)
  obtain ⟨i0, hi0, hz0, hz1, hz2⟩ := info_parts Try.infoInt
  go_enter Try.func28, Try.ntmps28
  go_upto_region 3 with fail
  obtain ⟨m0, m1, hK, hs⟩ := alloc2 (w := w) #[.int .i64 most, .slice (some ⟨ga, 0, none⟩) l.length c1, .slice (some ⟨gg, 0, none⟩) got.length c2, .bool cl] #[.int .i64 0, .slice none 0 0, .slice none 0 0, .bool false] 34 34
  generalize (w.alloc (.cells #[.int .i64 most, .slice (some ⟨ga, 0, none⟩) l.length c1, .slice (some ⟨gg, 0, none⟩) got.length c2, .bool cl] 34)).alloc (.cells #[.int .i64 0, .slice none 0 0, .slice none 0 0, .bool false] 34) = W1 at m0 m1 hK hs ⊢
  generalize hb0 : w.heap.size = b0 at m0 m1 hs ⊢
  have hcc := HC.out.1 hK
  have x0 := bk_cell m0 0
  have x1 := bk_cell m0 1
  have x2 := bk_cell m0 2
  have x3 := bk_cell m0 3
  go_quiet (fail)
  have hqn := QD.n W1 nq
  generalize W1.drewN nq = w5 at hqn ⊢
  replace m0 := bk_qd m0 hqn
  replace m1 := bk_qd m1 hqn
  replace hK := hK.qd hqn
  clear x0 x1 x2 x3 hcc hs hqn
  have HB := As.mk hb0
  clear hb0
  have hb9 : b0 < w5.heap.size := bk_lt m0
  have HB9 := As.mk (bk_lt m1)
  have hown0 : (w5.alloc (.cells #[] 3)).ownsRow w5.heap.size 3 1 (.slice (some ⟨w5.heap.size, 0, none⟩) 0 0) 0 [] := by
    have := World.ownsRow_made (base := w5.heap.size) (e := 3) (size := 1) w5 #[] 0 (Nat.le_refl _) (Nat.zero_le _) rfl
    simpa using this
  have hk8 := Kp.alloc (Kp.refl no w5) (.cells #[] 3)
  have HO := As.mk (And.intro hown0 hk8)
  have HSRC := As.mk (HC.out.2.2 (hK.trans hk8))
  have HR := As.mk (And.intro m0 (And.intro m1 hK))
  have x2 := bk_cell m0 2
  clear hown0 hk8 m0 m1 hK
  go_upto_region 7 with fail
  go_wp2_with (at_builtin; go_loud (refine wpList_append_own_at _ (by rfl) (.tmp 30) (.tmp 32) 32 (by rfl) w5.heap.size 3 i0 _ 1 8 Try.underlying32 hi0 hz0 hz1 hz2 (by rfl) (by decide) (.slice (some ⟨w5.heap.size, 0, none⟩) 0 0) 0 [] (by rfl) HO.out.1 ⟨gg, 0, none⟩ got.length c2 (ints got) (by rfl) (ints_len got) HSRC.out (ints_one got) (by unfold maxLen; omega) (by omega) (by simp) ?_); intro v1 w1 hown1 hgrow1 _ _; rw [List.nil_append, Nat.zero_add] at hown1; obtain ⟨g5, c5, rfl, hg5⟩ := or_some hown1 n0; have hK1 := HO.out.2.grown hgrow1 (fun k hk hlt => absurd hlt (by have hk2 : w5.heap.size = k := Option.some.inj hk; omega)); have mm0 := bk_kp HR.out.1 hK1 (fun x => x); have mm1 := bk_kp HR.out.2.1 hK1 (fun x => x); have x2' := bk_cell mm0 2; have z2' := bk_fz mm0 2; have HF1 := As.mk (And.intro hown1 (And.intro (HR.out.2.2.trans hK1) (And.intro mm0 (And.intro mm1 hg5)))); have y1 := or_cell hown1 jn _ (ints_get got jn hjl); have zf := hown1.frozenAt jn; rw [show got.getD jn 0 = (gn : Int) from (by have := HG.out; unfold mGot at this; rw [Int.toNat_natCast] at this; exact this)] at y1; have ng : ¬ g5 = b0 := (by omega); have ng' : ¬ b0 = g5 := (by omega); clear hown1 hgrow1 hK1 mm0 mm1 x2 hb9)
  obtain ⟨hown1, hK1, mm0, mm1, hg5⟩ := HF1.out
  have hb := HB.out
  have hb2 := HB9.out
  have hks := Kp.set1 w1 b0 2 (.slice (some ⟨g5, 0, none⟩) got.length c5)
  have hrow := ((or_kp hown1 hks (fun k hk e => by have hk2 : g5 = k := Option.some.inj hk; omega)).stored jn (.int .i64 ((gn : Int) + 1))).1
  rw [ints_set] at hrow
  have m0 := bk_far (bk_set (cs' := #[.int .i64 most, .slice (some ⟨ga, 0, none⟩) l.length c1, .slice (some ⟨g5, 0, none⟩) got.length c5, .bool cl]) mm0 2 (.slice (some ⟨g5, 0, none⟩) got.length c5) rfl) (p := ⟨g5, jn, none⟩) ng' (.int .i64 ((gn : Int) + 1))
  have m1 := bk_far (bk_far mm1 (p := ⟨b0, 2, none⟩) (by show b0 + 1 ≠ b0; omega) (.slice (some ⟨g5, 0, none⟩) got.length c5)) (p := ⟨g5, jn, none⟩) (by show b0 + 1 ≠ g5; omega) (.int .i64 ((gn : Int) + 1))
  have hK := (hK1.setNew ⟨b0, 2, none⟩ (by show w.heap.size ≤ b0; omega) (.slice (some ⟨g5, 0, none⟩) got.length c5)).setNew ⟨g5, jn, none⟩ (by show w.heap.size ≤ g5; omega) (.int .i64 ((gn : Int) + 1))
  have hyy : (got.set jn ((gn : Int) + 1)).getD jn 0 = (gn : Int) + 1 := by rw [getD_set hjl hjl, if_pos rfl]
  have HG5 := As.mk (And.intro hg5 (And.intro hb hb2))
  clear hown1 hK1 mm0 mm1 hks y1 zf ng ng' x2' z2' HF1
  generalize (w1.setCell ⟨b0, 2, none⟩ (.slice (some ⟨g5, 0, none⟩) got.length c5)).setCell ⟨g5, jn, none⟩ (.int .i64 ((gn : Int) + 1)) = w9 at hrow m0 m1 hK ⊢
  clear hb hb2 hg5
  have hwg : IntKind.i64.wrap (gn : Int) = (gn : Int) := IntWalk.i64_in _ (by omega)
  have hgl2 : (gn : Int) < (l.length : Int) := by omega
  refine wp_region_still_tail 13 (by kernel_rfl) (by kernel_rfl) ?_
  generalize hq : ({ w9 with drawn := w9.drawn + 1 } : World) = W2
  replace hq : QD w9 W2 := ⟨1, hq.symm⟩
  replace m0 := bk_qd m0 hq
  replace m1 := bk_qd m1 hq
  replace hK := hK.qd hq
  have e0 := bk_cell m0 0
  have e1 := bk_cell m0 1
  have e2 := bk_cell m0 2
  have e3 := bk_cell m0 3
  have f0 := bk_cell m1 0
  have f1 := bk_cell m1 1
  have f2 := bk_cell m1 2
  have f3 := bk_cell m1 3
  have z0 := bk_fz m1 0
  have z1 := bk_fz m1 1
  have z2 := bk_fz m1 2
  have z3 := bk_fz m1 3
  have HM := As.mk (And.intro m1 hK)
  have yy := or_cell (or_qd hrow hq) jn _ (ints_get _ jn (by rw [List.length_set]; exact hjl))
  rw [hyy] at yy
  have ss := HC.out.2.1 hK
  have HRW := As.mk (or_qd hrow hq)
  clear m0 m1 hK hq hrow hyy
  simp only [List.take_succ_cons, List.take_zero, List.drop_succ_cons, List.drop_zero]
  repeat still_step
  refine wpStill_nil ?_
  clear e0 e1 e2 e3 yy ss hwg hgl2
  go_wp2
  obtain ⟨g1, g2, g3⟩ := tell4 (.int .i64 most) (.slice (some ⟨ga, 0, none⟩) l.length c1) (.slice (some ⟨g5, 0, none⟩) got.length c5) (.bool cl) HM.out.1 HM.out.2 (by have := HB.out; omega)
  refine bodyPost_ret (results_ttc rfl _ _ (b0 + 1) 34 #[.int .i64 most, .slice (some ⟨ga, 0, none⟩) l.length c1, .slice (some ⟨g5, 0, none⟩) got.length c5, .bool cl] (0, 0) _ (.int .u64 xv) (.int .i64 0) rfl rfl rfl g1 Try.underlying34 rfl (by kernel_rfl)) rfl ?_
  have hgg := HG5.out
  have hfin := or_base (or_kp HRW.out g3 (fun k hk e => by have hk2 : g5 = k := Option.some.inj hk; omega)) (show W.heap.size ≤ w5.heap.size from Nat.le_trans HS.out.2 (by have := HR.out.2.2.size; exact this))
  refine ⟨_, rfl, ⟨_, _, rfl, or_kp HH.out.1 g2 (fun _ _ x => x), by simpa using hfin, HH.out.2.2.1, fun k hk => hk.elim (fun h => HH.out.2.2.2 k (.inl h)) (fun h hs => ?_)⟩, g2⟩
  have hk2 : g5 = k := Option.some.inj h
  have := HS.out.1 k hs
  omega

theorem RGet14_any {e : Value} (hA : RA14 m) (h : RM W w S e m) (hS : ∀ k, S k → k < w.heap.size) (hW : W.heap.size ≤ w.heap.size) (j : Int) : Calls Try.prog 28 #[e, .int .i64 j] w fun e w' => ∃ vv, e = .returned (.tuple #[.int .u64 (mGet m j).1, .int .i64 (mGet m j).2.1, vv]) ∧ RM W w' S vv (mGet m j).2.2 ∧ Kp no w w' := by
  unfold mGet
  cases hj : mIs m j with
  | false => rw [if_neg (show ¬ (false = true) by decide)]; exact RGet14_arg hA h hj
  | true =>
    rw [if_pos rfl]
    by_cases he : mGot m j = m.l.length
    · rw [if_pos he]
      cases hc : m.closed with
      | true => exact RGet14_noneC hA h hj he hc
      | false => exact RGet14_noneO hA h hj he hc
    · rw [if_neg he]
      exact RGet14_some hA h hj he hS hW
theorem RPut14_any {e : Value} (hA : RA14 m) (h : RM W w S e m) (hS : ∀ k, S k → k < w.heap.size) (hW : W.heap.size ≤ w.heap.size) (v : Int) : Calls Try.prog 26 #[e, .int .u64 v] w fun e w' => ∃ vv, e = .returned (.tuple #[.int .u64 (mPut m v).1, .int .i64 (mPut m v).2.1, vv]) ∧ RM W w' S vv (mPut m v).2.2 ∧ Kp no w w' := by
  cases hc : m.closed with
  | true =>
    have e : mPut m v = (0, 10, m) := by unfold mPut; rw [if_pos hc]
    rw [e]; exact RPut14_closed hA h hc
  | false => exact RPut14_open hA h hc hS hW
set_option maxRecDepth 100000 in
set_option maxHeartbeats 6400000 in
theorem RRest14 {e : Value} (hA : RA14 m) (h : RM W w S e m) (j : Int) : Calls Try.prog 32 #[e, .int .i64 j] w fun e w' => ∃ vv, e = .returned vv ∧ Rd w' vv (mRest m j).length (u64s (mRest m j)) ∧ Kp no w w' := by
  obtain ⟨most, l, got, cl⟩ := m
  obtain ⟨vl, vg, rfl, h1, h2, h3, h4⟩ := h
  obtain ⟨A1, c1, rfl⟩ := or_form h1
  obtain ⟨A2, c2, rfl⟩ := or_form h2
  dsimp only at hA h1 h2 h3 h4 ⊢
  obtain ⟨n0, n8, big, q0, q1, h0⟩ := hA
  dsimp only at n0 n8 big q0 q1 h0
  have HH := As.mk (And.intro h1 (And.intro h2 (And.intro h3 h4)))
  clear h1 h2 h3 h4
  have hnil : ∀ W' : World, Rd W' (.slice none 0 0) ([] : List Int).length (u64s []) := fun W' => ⟨none, 0, rfl, Nat.le_refl _, Nat.zero_le _, fun _ => ⟨rfl, rfl, rfl⟩, (fun ad h => by cases h)⟩
  cases hj : mIs ⟨most, l, got, cl⟩ j with
  | false =>
    have HR := As.mk (show mRest ⟨most, l, got, cl⟩ j = [] from by unfold mRest; rw [hj]; rfl)
    have hj2 : j < 0 ∨ (got.length : Int) ≤ j := by
      unfold mIs at hj; simp at hj
      rcases Int.lt_or_le j 0 with h | h
      · exact .inl h
      · exact .inr (hj h)
    have HN := As.mk hnil
    clear hj hnil h0
    by_cases hn : j < 0
    · have d1 : decide (j < 0) = true := decide_eq_true hn
      clear hn hj2
      go_enter Try.func32, Try.ntmps32
      go_wp2
      go_ret
      rw [HR.out]
      exact ⟨_, rfl, HN.out _, (Kp.refl no w).alloc _⟩
    · have d1 : decide (j < 0) = false := decide_eq_false hn
      have d2 : decide ((got.length : Int) ≤ j) = true := decide_eq_true (by omega)
      clear hn hj2
      go_enter Try.func32, Try.ntmps32
      go_wp2
      go_ret
      rw [HR.out]
      exact ⟨_, rfl, HN.out _, (Kp.refl no w).alloc _⟩
  | true =>
    obtain ⟨jn, rfl, hjl⟩ := mIs_nat hj
    dsimp only at hjl
    have hmem : got.getD jn 0 ∈ got := by
      rw [List.getD_eq_getElem?_getD, List.getElem?_eq_getElem hjl]; exact List.getElem_mem hjl
    have hb9 := h0 _ hmem
    obtain ⟨gn, hgn⟩ := Int.eq_ofNat_of_zero_le hb9.1
    have hr : mRest ⟨most, l, got, cl⟩ (jn : Int) = l.drop gn := by
      unfold mRest mGot; rw [hj, if_pos rfl, Int.toNat_natCast]; dsimp only; rw [hgn, Int.toNat_natCast]
    rw [hgn] at hb9
    have hgl : gn ≤ l.length := by omega
    have HR := As.mk hr
    obtain ⟨gg, c2', e2, -⟩ := or_some HH.out.2.1 n0
    injection e2 with e2 e3 e4
    subst e2; subst e4; clear e3
    have hc1 := HH.out.2.1
    have hcell : ∀ {w' : World}, Kp no w w' → w'.cell? ⟨gg, jn, none⟩ = some (.int .i64 gn) := fun hk => by
      have := or_cell (or_kp hc1 hk (fun _ _ x => x)) jn _ (ints_get got jn hjl)
      rw [hgn] at this; exact this
    have HC := As.mk (@hcell)
    have hd9 : decide (got.length ≤ jn) = false := decide_eq_false (by omega)
    have HN := As.mk hnil
    clear h0 hmem hb9 hgn hr hj hc1 hcell hnil
    by_cases hl0 : l = []
    · have hv1 := HH.out.2.2.1 hl0
      injection hv1 with e5 e6 e7
      subst e5; subst e7; subst hl0
      clear e6
      have hg0 : gn = 0 := by simpa using hgl
      subst hg0
      clear hgl
      go_enter Try.func32, Try.ntmps32
      go_upto_region 3 with fail
      obtain ⟨m0, hK⟩ := box1 (w := w) #[.int .i64 most, .slice none 0 0, .slice (some ⟨gg, 0, none⟩) got.length c2, .bool cl] 34
      generalize w.alloc (.cells #[.int .i64 most, .slice none 0 0, .slice (some ⟨gg, 0, none⟩) got.length c2, .bool cl] 34) = W1 at m0 hK ⊢
      generalize w.heap.size = b0 at m0 ⊢
      have hcc := HC.out hK
      have x1 := bk_cell m0 1
      have x2 := bk_cell m0 2
      go_quiet (fail)
      have hK2 := hK.qd (QD.n W1 nq)
      clear x1 x2 hcc m0 hK
      go_wp2
      go_ret
      rw [HR.out]
      exact ⟨_, rfl, HN.out _, hK2⟩
    · have hlp : 0 < l.length := by
        rcases Nat.eq_zero_or_pos l.length with h | h
        · exact absurd (List.eq_nil_of_length_eq_zero h) hl0
        · exact h
      obtain ⟨ga, c1', e5, -⟩ := or_some HH.out.1 hlp
      injection e5 with e5 e6 e7
      subst e5; subst e7
      have hcap : l.length ≤ c1 := by
        rcases HH.out.1.2 with ⟨h, _⟩ | ⟨_, _, _, h, _, _, h9, _⟩
        · cases h
        · injection h with _ _ h; omega
      have hcm : c1 ≤ 9223372036854775807 := by
        rcases HH.out.1.2 with ⟨h, _⟩ | ⟨_, _, _, h, _, _, _, h9, _⟩
        · cases h
        · injection h with _ _ h; unfold maxLen at h9; omega
      clear e6 hl0
      have hfin : ∀ (W' : World) (a : Addr), Kp no w W' → (gn < l.length → a = ⟨ga, gn, none⟩) → Rd W' (.slice (some a) (l.length - gn) (c1 - gn)) (l.drop gn).length (u64s (l.drop gn)) := fun W' a hk ha => by
        refine ⟨some a, c1 - gn, by rw [List.length_drop], by rw [List.length_drop]; omega, by unfold maxLen; omega, (fun h => by cases h), fun ad e j u hj => ?_⟩
        cases e
        have hjl2 : j < l.length - gn := by have := (List.getElem?_eq_some_iff.1 hj).1; rw [u64s_len, List.length_drop] at this; omega
        rw [ha (by omega), add_none]
        refine or_cell (or_kp HH.out.1 hk (fun _ _ x => x)) (gn + j) u ?_
        rw [← hj]; simp [u64s, List.getElem?_drop]
      have HF := As.mk hfin
      clear hfin
      by_cases hcg : c1 = gn
      · subst hcg
        have HLL := As.mk (show l.length = c1 by omega)
        have hle : c1 ≤ l.length := hgl
        have hle2 : (c1 : Int) ≤ (l.length : Int) := by omega
        clear hgl hcap
        go_enter Try.func32, Try.ntmps32
        go_upto_region 3 with fail
        obtain ⟨m0, hK⟩ := box1 (w := w) #[.int .i64 most, .slice (some ⟨ga, 0, none⟩) l.length c1, .slice (some ⟨gg, 0, none⟩) got.length c2, .bool cl] 34
        generalize w.alloc (.cells #[.int .i64 most, .slice (some ⟨ga, 0, none⟩) l.length c1, .slice (some ⟨gg, 0, none⟩) got.length c2, .bool cl] 34) = W1 at m0 hK ⊢
        generalize w.heap.size = b0 at m0 ⊢
        have hcc := HC.out hK
        have x1 := bk_cell m0 1
        have x2 := bk_cell m0 2
        go_quiet (fail)
        have hK2 := hK.qd (QD.n W1 nq)
        clear x1 x2 hcc m0 hK
        go_wp2
        go_ret
        rw [HR.out]
        refine ⟨_, rfl, ?_, hK2⟩
        have hl := HLL.out
        have := HF.out _ ⟨ga, 0, none⟩ hK2 (fun h => by omega)
        simpa using this
      · have hlt : gn < c1 := by omega
        have hgl2 : (gn : Int) ≤ (l.length : Int) := by omega
        clear hcap
        go_enter Try.func32, Try.ntmps32
        go_upto_region 3 with fail
        obtain ⟨m0, hK⟩ := box1 (w := w) #[.int .i64 most, .slice (some ⟨ga, 0, none⟩) l.length c1, .slice (some ⟨gg, 0, none⟩) got.length c2, .bool cl] 34
        generalize w.alloc (.cells #[.int .i64 most, .slice (some ⟨ga, 0, none⟩) l.length c1, .slice (some ⟨gg, 0, none⟩) got.length c2, .bool cl] 34) = W1 at m0 hK ⊢
        generalize w.heap.size = b0 at m0 ⊢
        have hcc := HC.out hK
        have x1 := bk_cell m0 1
        have x2 := bk_cell m0 2
        go_quiet (fail)
        have hK2 := hK.qd (QD.n W1 nq)
        clear x1 x2 hcc m0 hK
        go_wp2
        go_ret
        rw [HR.out]
        refine ⟨_, rfl, ?_, hK2⟩
        exact HF.out _ ⟨ga, gn, none⟩ hK2 (fun _ => rfl)

set_option maxRecDepth 100000 in
set_option maxHeartbeats 6400000 in
theorem RNew14 (hS : ∀ k, S k → k < w.heap.size) (k : Int) (p q : Nat) (hq1 : 1 ≤ q) (hq2 : q ≤ 8) : Calls Try.prog 24 #[.agg #[.int .i64 k, .int .i64 p, .int .i64 q]] w fun e w' => ∃ vv, e = .returned vv ∧ RM w w' S vv ⟨p, [], List.replicate q 0, false⟩ ∧ Kp no w w' := by
  obtain ⟨i0, hi, hz0, hz1, hz2⟩ := info_parts Try.infoInt
  have hmk := fun (w : World) => run_makeSlice_full (P := Try.prog) w w.heap.size 32 3 i0 _ 1 Try.underlying32 hi hz0 hz1 .i64 .i64 q (by omega) (by rw [hz2]; omega) (by unfold maxLen; omega) (Nat.le_refl _)
  have HM := As.mk hmk
  clear hmk hi hz0 hz1 hz2
  go_enter Try.func24, Try.ntmps24
  go_upto_region 1 with fail
  obtain ⟨m0, m1, hK, hs⟩ := alloc2 (w := w) #[.int .i64 k, .int .i64 p, .int .i64 q] #[.int .i64 0, .slice none 0 0, .slice none 0 0, .bool false] 23 34
  generalize (w.alloc (.cells #[.int .i64 k, .int .i64 p, .int .i64 q] 23)).alloc (.cells #[.int .i64 0, .slice none 0 0, .slice none 0 0, .bool false] 34) = W1 at m0 m1 hK hs ⊢
  generalize hb0 : w.heap.size = b0 at m0 m1 hs ⊢
  obtain ⟨w3, hmk, hown, hgr⟩ := HM.out W1.drew
  have hk3 : Kp no W1 w3 := ((Kp.refl no W1).drew).grown hgr (fun k hk => by cases hk)
  have e1 := bk_cell m0 1
  have e2 := bk_cell m0 2
  change W1.cell? _ = some (.int .i64 p) at e1
  change W1.cell? _ = some (.int .i64 q) at e2
  replace m0 := bk_kp m0 hk3 (fun x => x)
  replace m1 := bk_kp m1 hk3 (fun x => x)
  have e1' := bk_cell m0 1
  have e2' := bk_cell m0 2
  change w3.cell? _ = some (.int .i64 p) at e1'
  change w3.cell? _ = some (.int .i64 q) at e2'
  have f0 := bk_cell m1 0
  have f1 := bk_cell m1 1
  have f2 := bk_cell m1 2
  have f3 := bk_cell m1 3
  have z0 := bk_fz m1 0
  have z1 := bk_fz m1 1
  have z2 := bk_fz m1 2
  have z3 := bk_fz m1 3
  have hsz : w.heap.size ≤ W1.heap.size := hK.size
  have HX := As.mk (And.intro hown (And.intro m1 (And.intro (hK.trans hk3) (And.intro hb0 hs))))
  clear hown hgr hk3 m0 m1 hK hb0 hs hsz
  change (Instr.makeSlice 32 (.int .i64 (q : Int)) (.int .i64 (q : Int))).run Try.prog W1.drew = .ok (.slice (some ⟨W1.heap.size, 0, none⟩) q q) w3 at hmk
  go_region_held3 (fun w' => w'.cell? ⟨b0, 1, none⟩ = some (.int .i64 p) ∧ w'.cell? ⟨b0, 2, none⟩ = some (.int .i64 q)) (first | exact ⟨e1', e2'⟩ | exact ⟨e1, e2⟩ | go_keep) (fail)
  rename_i hHeld
  clear hHeld hmk e1 e2 e1' e2' f0 f1 f2 f3 z0 z1 z2 z3
  obtain ⟨hown, m1, hK, hb0, hs⟩ := HX.out
  change w3.ownsRow W1.heap.size 3 1 (.slice (some ⟨W1.heap.size, 0, none⟩) q q) q _ at hown
  generalize hnn : W1.heap.size = nn at hown hs ⊢
  obtain ⟨g1, g2, g3⟩ := tell4 (.int .i64 (p : Int)) (.slice none 0 0) (.slice (some ⟨nn, 0, none⟩) q q) (.bool false) m1 hK (by omega)
  have hrow : ints (List.replicate q 0) = (madeCells (Value.int .i64 0).cells (q * 1)).toList := by
    rw [Nat.mul_one]
    exact ((toList_madeCells_one (Value.int .i64 0) q).trans (by simp [ints])).symm
  rw [← hrow] at hown
  have hfin := or_base (or_kp hown g3 (fun k hk e => by have hk2 : nn = k := Option.some.inj hk; omega)) (show w.heap.size ≤ nn by omega)
  have HX2 := As.mk (And.intro hfin (And.intro g1 g2))
  clear hown m1 hK hs hnn g1 g2 g3 hrow hfin HX HM
  generalize (((w3.setCell ⟨b0 + 1, 0, none⟩ (.int .i64 (p : Int))).setCell ⟨b0 + 1, 1, none⟩ (.slice none 0 0)).setCell ⟨b0 + 1, 2, none⟩ (.slice (some ⟨nn, 0, none⟩) q q)).setCell ⟨b0 + 1, 3, none⟩ (.bool false) = w9 at HX2 ⊢
  go_wp2
  refine bodyPost_ret (results_cell_row rfl _ _ (b0 + 1) 34 #[.int .i64 (p : Int), .slice none 0 0, .slice (some ⟨nn, 0, none⟩) q q, .bool false] (0, 0) _ rfl HX2.out.2.1 Try.underlying34 rfl (by kernel_rfl)) rfl ?_
  obtain ⟨h1, -, h3⟩ := HX2.out
  refine ⟨_, rfl, ⟨_, _, rfl, World.ownsRow_nil _ _ _ _, by simpa using h1, fun _ => rfl, fun k hk hs => ?_⟩, h3⟩
  rcases hk with hk | hk
  · cases hk
  · have := (h1.lt k hk).1
    have := hS k hs
    omega
end Go.Proofs.Ytmejnhfggmmefaa.H
