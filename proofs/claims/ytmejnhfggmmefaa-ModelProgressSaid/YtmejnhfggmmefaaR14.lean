/- Layer 14's reference (rondeauref14): New, Put, Get, Rest. No condition. -/
import Derived.Test.YtmejnhfggmmefaaL14A
import Derived.Test.YtmejnhfggmmefaaL13B
import Derived.Test.YtmejnhfggmmefaaR12B
import Derived.Laws.AppendOwnNone
import Derived.IntWalk
namespace Go.Proofs.Ytmejnhfggmmefaa.H
open Go.RowKit
set_option linter.unusedVariables false
set_option linter.unusedSimpArgs false

/-- A log of the reference, as a value: its memory is new, and apart from S. -/
def RM (W w : World) (S : Nat → Prop) (e : Value) (m : Md) : Prop :=
  ∃ vl vg, e = .agg #[.int .i64 m.most, vl, vg, .bool m.closed] ∧ w.ownsRow W.heap.size 36 1 vl m.l.length (u64s m.l) ∧ w.ownsRow W.heap.size 3 1 vg m.got.length (ints m.got) ∧ (m.l = [] → vl = .slice none 0 0) ∧ ∀ k, vl.ownBlock = some k ∨ vg.ownBlock = some k → ¬ S k
theorem RM.kp {W w w' : World} {S S' : Nat → Prop} {e : Value} {m : Md} (h : RM W w S e m) (k : Kp S' w w') (hS : ∀ i, S' i → S i) : RM W w' S e m := by
  obtain ⟨vl, vg, rfl, h1, h2, h3, h4⟩ := h
  exact ⟨vl, vg, rfl, or_kp h1 k (fun b hb hs => h4 b (.inl hb) (hS b hs)), or_kp h2 k (fun b hb hs => h4 b (.inr hb) (hS b hs)), h3, h4⟩
theorem RM.apart {W w : World} {S S' : Nat → Prop} {e : Value} {m : Md} (h : RM W w S e m) (hS : ∀ i, S' i → S i ∨ w.heap.size ≤ i) : RM W w S' e m := by
  obtain ⟨vl, vg, rfl, h1, h2, h3, h4⟩ := h
  refine ⟨vl, vg, rfl, h1, h2, h3, fun k hk hs => ?_⟩
  rcases hS k hs with h | h
  · exact h4 k hk h
  · rcases hk with hk | hk
    · have := (h1.lt k hk).2; omega
    · have := (h2.lt k hk).2; omega
structure RA14 (m : Md) : Prop where
  n0 : 0 < m.got.length
  n8 : m.got.length ≤ 8
  big : m.l.length ≤ 1000
  m0 : 1 ≤ m.most
  m1 : m.most ≤ 64
  h0 : ∀ x ∈ m.got, 0 ≤ x ∧ x ≤ m.l.length
/-- Four values, told in a block. -/
theorem tell4 {w W : World} {b : Nat} {z0 z1 z2 z3 : Value} (a0 a1 a2 a3 : Value) {T : TypeId} (h : W.heap[b]? = some (.cells #[z0, z1, z2, z3] T (0, 0))) (hK : Kp no w W) (hb : w.heap.size ≤ b) :
    ((((W.setCell ⟨b, 0, none⟩ a0).setCell ⟨b, 1, none⟩ a1).setCell ⟨b, 2, none⟩ a2).setCell ⟨b, 3, none⟩ a3).heap[b]? = some (.cells #[a0, a1, a2, a3] T (0, 0)) ∧
    Kp no w ((((W.setCell ⟨b, 0, none⟩ a0).setCell ⟨b, 1, none⟩ a1).setCell ⟨b, 2, none⟩ a2).setCell ⟨b, 3, none⟩ a3) ∧
    Kp (· = b) W ((((W.setCell ⟨b, 0, none⟩ a0).setCell ⟨b, 1, none⟩ a1).setCell ⟨b, 2, none⟩ a2).setCell ⟨b, 3, none⟩ a3) := by
  have q0 := bk_set (cs' := #[a0, z1, z2, z3]) h 0 a0 rfl
  have q1 := bk_set (cs' := #[a0, a1, z2, z3]) q0 1 a1 rfl
  have q2 := bk_set (cs' := #[a0, a1, a2, z3]) q1 2 a2 rfl
  have q3 := bk_set (cs' := #[a0, a1, a2, a3]) q2 3 a3 rfl
  exact ⟨q3, (((hK.setNew ⟨b, 0, none⟩ hb a0).setNew ⟨b, 1, none⟩ hb a1).setNew ⟨b, 2, none⟩ hb a2).setNew ⟨b, 3, none⟩ hb a3, ((((Kp.refl (· = b) W).setCell ⟨b, 0, none⟩ rfl a0).setCell ⟨b, 1, none⟩ rfl a1).setCell ⟨b, 2, none⟩ rfl a2).setCell ⟨b, 3, none⟩ rfl a3⟩
variable {W w : World} {S : Nat → Prop} {m : Md} {v j : Int}

set_option maxRecDepth 100000 in
set_option maxHeartbeats 3200000 in
theorem RPut14_closed {e : Value} (hA : RA14 m) (h : RM W w S e m) (hc : m.closed = true) : Calls Try.prog 26 #[e, .int .u64 v] w fun e w' => ∃ vv, e = .returned (.tuple #[.int .u64 0, .int .i64 10, vv]) ∧ RM W w' S vv m ∧ Kp no w w' := by
  obtain ⟨most, l, got, cl⟩ := m
  obtain ⟨vl, vg, rfl, h1, h2, h3, h4⟩ := h
  obtain ⟨A1, c1, rfl⟩ := or_form h1
  obtain ⟨A2, c2, rfl⟩ := or_form h2
  dsimp only at hA h1 h2 h3 h4 hc ⊢
  subst hc
  go_enter Try.func26, Try.ntmps26
  go_wp2
  obtain ⟨m0, m1, hK, hs⟩ := alloc2 (w := w) #[.int .i64 most, .slice A1 l.length c1, .slice A2 got.length c2, .bool true] #[.int .i64 0, .slice none 0 0, .slice none 0 0, .bool false] 34 34
  generalize (w.alloc (.cells #[.int .i64 most, .slice A1 l.length c1, .slice A2 got.length c2, .bool true] 34)).alloc (.cells #[.int .i64 0, .slice none 0 0, .slice none 0 0, .bool false] 34) = W1 at m0 m1 hK hs ⊢
  generalize hb0 : w.heap.size = b0 at m0 m1 hs ⊢
  refine wp_region_still_tail 3 (by kernel_rfl) (by kernel_rfl) ?_
  generalize hq : ({ W1 with drawn := W1.drawn + 1 } : World) = W2
  replace hq : QD W1 W2 := ⟨1, hq.symm⟩
  replace m0 := bk_qd m0 hq
  replace m1 := bk_qd m1 hq
  replace hK := hK.qd hq
  have e0 := bk_cell m0 0
  have e1 := bk_cell m0 1
  have e2 := bk_cell m0 2
  have e3 := bk_cell m0 3
  have f0 := bk_cell m1 0
  have f1 := bk_cell m1 1
  have f2 := bk_cell m1 2
  have f3 := bk_cell m1 3
  have z0 := bk_fz m1 0
  have z1 := bk_fz m1 1
  have z2 := bk_fz m1 2
  have z3 := bk_fz m1 3
  have HM := As.mk (And.intro m1 hK)
  clear m0 m1 hK hs hq
  simp only [List.take_succ_cons, List.take_zero, List.drop_succ_cons, List.drop_zero]
  repeat still_step
  refine wpStill_nil ?_
  clear e0 e1 e2 e3
  go_wp2
  obtain ⟨g1, g2, g3⟩ := tell4 (.int .i64 most) (.slice A1 l.length c1) (.slice A2 got.length c2) (.bool true) HM.out.1 HM.out.2 (by omega)
  refine bodyPost_ret (results_ttc rfl _ _ (b0 + 1) 34 #[.int .i64 most, .slice A1 l.length c1, .slice A2 got.length c2, .bool true] (0, 0) _ (.int .u64 0) (.int .i64 10) rfl rfl rfl g1 Try.underlying34 rfl (by kernel_rfl)) rfl ?_
  exact ⟨_, rfl, RM.kp ⟨_, _, rfl, h1, h2, h3, h4⟩ g2 (fun _ x => x.elim), g2⟩

def NotFull (most : Int) (l got : List Int) (k : Nat) : Prop := ∀ x, x < k → ¬ most ≤ (l.length : Int) - got.getD x 0
theorem full_iff {most : Int} {l got : List Int} {cl : Bool} (hn : 0 < got.length) : mFull ⟨most, l, got, cl⟩ = true ↔ ∃ k, k < got.length ∧ most ≤ (l.length : Int) - got.getD k 0 := by
  unfold mFull
  rw [decide_eq_true_iff]
  constructor
  · intro h
    obtain ⟨k, hk, e⟩ := List.mem_iff_getElem.1 (leastL_mem hn)
    exact ⟨k, hk, by rw [List.getD_eq_getElem?_getD, List.getElem?_eq_getElem hk]; simp only [Option.getD_some]; rw [e]; exact h⟩
  · rintro ⟨k, hk, h⟩
    have : leastL got ≤ got.getD k 0 := leastL_le (by rw [List.getD_eq_getElem?_getD, List.getElem?_eq_getElem hk]; exact List.getElem_mem hk)
    show most ≤ (l.length : Int) - leastL got
    omega
set_option maxRecDepth 100000 in
set_option maxHeartbeats 6400000 in
theorem RPut14_open {e : Value} (hA : RA14 m) (h : RM W w S e m) (hc : m.closed = false) (hS : ∀ k, S k → k < w.heap.size) (hW : W.heap.size ≤ w.heap.size) : Calls Try.prog 26 #[e, .int .u64 v] w fun e w' => ∃ vv, e = .returned (.tuple #[.int .u64 (mPut m v).1, .int .i64 (mPut m v).2.1, vv]) ∧ RM W w' S vv (mPut m v).2.2 ∧ Kp no w w' := by
  obtain ⟨most, l, got, cl⟩ := m
  obtain ⟨vl, vg, rfl, h1, h2, h3, h4⟩ := h
  obtain ⟨A1, c1, rfl⟩ := or_form h1
  obtain ⟨A2, c2, rfl⟩ := or_form h2
  dsimp only at hA h1 h2 h3 h4 hc ⊢
  subst hc
  obtain ⟨n0, n8, big, q0, q1, h0⟩ := hA
  dsimp only at n0 n8 big q0 q1 h0
  have HS := As.mk (And.intro hS hW)
  have HH := As.mk (And.intro h1 (And.intro h2 (And.intro h3 h4)))
  obtain ⟨gg, c2', e2, -⟩ := or_some h2 n0
  injection e2 with e2 e3 e4
  subst e2; subst e4; clear e3
  clear hS hW h1 h2 h3 h4
  go_enter Try.func26, Try.ntmps26
  go_wp2
  obtain ⟨m0, m1, hK, hs⟩ := alloc2 (w := w) #[.int .i64 most, .slice A1 l.length c1, .slice (some ⟨gg, 0, none⟩) got.length c2, .bool false] #[.int .i64 0, .slice none 0 0, .slice none 0 0, .bool false] 34 34
  generalize (w.alloc (.cells #[.int .i64 most, .slice A1 l.length c1, .slice (some ⟨gg, 0, none⟩) got.length c2, .bool false] 34)).alloc (.cells #[.int .i64 0, .slice none 0 0, .slice none 0 0, .bool false] 34) = W1 at m0 m1 hK hs ⊢
  generalize hb0 : w.heap.size = b0 at m0 m1 hs ⊢
  have HM := As.mk (And.intro m0 (And.intro m1 (And.intro hK hs)))
  clear m0 m1 hK hs
  have HB := As.mk hb0
  clear hb0
  go_loopw [7] (fun v7 wr => ∃ k : Nat, k ≤ got.length ∧ v7 = .int .i64 k ∧ QD W1 wr ∧ As (NotFull most l got k)) (fun v7 _ => got.length - (intOf v7).toNat)
  case atStart => exact ⟨0, Nat.zero_le _, rfl, QD.refl _, ⟨fun x hx => absurd hx (Nat.not_lt_zero _)⟩⟩
  case round =>
    obtain ⟨k, hk, rfl, hqq, HN⟩ := hrel
    have m0 := bk_qd HM.out.1 hqq
    have m1 := bk_qd HM.out.2.1 hqq
    have hK := HM.out.2.2.1.qd hqq
    have hs : b0 + 1 < wr.heap.size := bk_lt m1
    have x0 := bk_cell m0 0
    have x1 := bk_cell m0 1
    have x2 := bk_cell m0 2
    by_cases hlt : k < got.length
    · as_aux_lemma =>
        have hc1 : wr.cell? ⟨gg, k, none⟩ = some (.int .i64 (got.getD k 0)) := by
          have := or_cell (or_kp HH.out.2.1 hK (fun _ _ x => x)) k _ (ints_get got k hlt)
          exact this
        have hmem : got.getD k 0 ∈ got := by
          rw [List.getD_eq_getElem?_getD, List.getElem?_eq_getElem hlt]; exact List.getElem_mem hlt
        have hb9 := h0 _ hmem
        by_cases hf : most ≤ (l.length : Int) - got.getD k 0
        · have HF := As.mk (show mFull ⟨most, l, got, false⟩ = true from (full_iff n0).2 ⟨k, hlt, hf⟩)
          generalize got.getD k 0 = x at hc1 hf hb9
          obtain ⟨y0, y1⟩ := hb9
          have hd : decide (most ≤ (l.length : Int) - x) = true := decide_eq_true hf
          clear hf hmem hqq HN
          go_wp2
          go_quiet (fail)
          have hqn := QD.n wr nq
          generalize wr.drewN nq = w5 at hqn ⊢
          replace m0 := bk_qd m0 hqn
          replace m1 := bk_qd m1 hqn
          replace hK := hK.qd hqn
          clear x0 x1 x2 hc1 hqn
          go_wp2
          refine wp_region_still_tail 3 (by kernel_rfl) (by kernel_rfl) ?_
          generalize hq : ({ w5 with drawn := w5.drawn + 1 } : World) = W2
          replace hq : QD w5 W2 := ⟨1, hq.symm⟩
          replace m0 := bk_qd m0 hq
          replace m1 := bk_qd m1 hq
          replace hK := hK.qd hq
          have e0 := bk_cell m0 0
          have e1 := bk_cell m0 1
          have e2 := bk_cell m0 2
          have e3 := bk_cell m0 3
          have f0 := bk_cell m1 0
          have f1 := bk_cell m1 1
          have f2 := bk_cell m1 2
          have f3 := bk_cell m1 3
          have z0 := bk_fz m1 0
          have z1 := bk_fz m1 1
          have z2 := bk_fz m1 2
          have z3 := bk_fz m1 3
          have HM2 := As.mk (And.intro m1 hK)
          clear m0 m1 hK hq
          simp only [List.take_succ_cons, List.take_zero, List.drop_succ_cons, List.drop_zero]
          repeat still_step
          refine wpStill_nil ?_
          clear e0 e1 e2 e3
          go_wp2
          obtain ⟨g1, g2, g3⟩ := tell4 (.int .i64 most) (.slice A1 l.length c1) (.slice (some ⟨gg, 0, none⟩) got.length c2) (.bool false) HM2.out.1 HM2.out.2 (by have := HB.out; omega)
          refine bodyPost_ret (results_ttc rfl _ _ (b0 + 1) 34 #[.int .i64 most, .slice A1 l.length c1, .slice (some ⟨gg, 0, none⟩) got.length c2, .bool false] (0, 0) _ (.int .u64 0) (.int .i64 8) rfl rfl rfl g1 Try.underlying34 rfl (by kernel_rfl)) rfl ?_
          unfold mPut
          rw [HF.out]
          exact ⟨_, rfl, RM.kp ⟨_, _, rfl, HH.out.1, HH.out.2.1, HH.out.2.2.1, HH.out.2.2.2⟩ g2 (fun _ x => x.elim), g2⟩
        · have HN2 : As (NotFull most l got (k + 1)) := ⟨fun x hx => by
            rcases Nat.lt_or_eq_of_le (Nat.le_of_lt_succ hx) with h | h
            · exact HN.out x h
            · rw [h]; exact hf⟩
          generalize got.getD k 0 = x at hc1 hf hb9
          obtain ⟨y0, y1⟩ := hb9
          have hd : decide (most ≤ (l.length : Int) - x) = false := decide_eq_false hf
          clear hf hmem HN
          go_wp2
          go_quiet (fail)
          go_wp2
          exact ⟨⟨k + 1, by omega, by go_num, hqq.trans (QD.n _ _), HN2⟩, by simp [intOf]; omega⟩
    · have hkl : k = got.length := by omega
      subst hkl
      have HF := As.mk (show mFull ⟨most, l, got, false⟩ = false from by
        cases hf : mFull ⟨most, l, got, false⟩ with
        | false => rfl
        | true =>
          obtain ⟨x, hx, hle⟩ := (full_iff n0).1 hf
          exact absurd hle (HN.out x hx))
      have HR := As.mk (And.intro m0 (And.intro m1 hK))
      go_upto_region 8 with fail
      clear HN hlt hk
      have HW8 := As.mk (show w.heap.size ≤ wr.heap.size from hK.size)
      have hs9 : b0 + 1 < wr.heap.size := hs
      have hb9 : b0 < wr.heap.size := by omega
      have HS9 := As.mk hs9
      obtain ⟨i0, hi0, hz0, hz1, hz2⟩ := info_parts Try.infoU64
      have hown0 : (wr.alloc (.cells #[] 36)).ownsRow wr.heap.size 36 1 (.slice (some ⟨wr.heap.size, 0, none⟩) 0 0) 0 [] := by
        have := World.ownsRow_made (base := wr.heap.size) (e := 36) (size := 1) wr #[] 0 (Nat.le_refl _) (Nat.zero_le _) rfl
        simpa using this
      have hk8 := Kp.alloc (Kp.refl no wr) (.cells #[] 36)
      have HO := As.mk (And.intro hown0 hk8)
      have hrow1 := or_kp (or_kp HH.out.1 hK (fun _ _ x => x)) hk8 (fun _ _ x => x)
      have HROW := As.mk hrow1
      clear m0 m1 hK hs hown0 hk8 hrow1 x0 x1 x2 hqq
      have x1 := bk_cell HR.out.1 1
      by_cases hl0 : l = []
      · as_aux_lemma =>
          have hv1 := HH.out.2.2.1 hl0
          injection hv1 with e5 e6 e7
          subst e5; subst e7; subst hl0
          clear e6
          have hnew : ∀ (j : Nat) (u : Value), [Value.int .u64 v][j]? = some u → ((wr.alloc (.cells #[] 36)).alloc (.cells #[.int .u64 v] 36)).cell? ((⟨wr.heap.size + 1, 0, none⟩ : Addr).add j) = some u := fun j u hj => by
            match j, hj with
            | 0, hj =>
              injection hj with hj; subst hj; rw [add_none]
              simp
          have HNEW := As.mk hnew
          clear hnew
          go_wp2_with (first
            | (at_builtin; refine wpList_append_own_none (by rfl) (.tmp 31) (.tmp 33) 31 (by rfl) wr.heap.size 36 i0 1 Try.underlying31 hi0 (.slice (some ⟨wr.heap.size, 0, none⟩) 0 0) 0 [] (by rfl) HO.out.1 (by rfl) ?_)
            | (at_builtin; go_loud (refine wpList_append_own_at _ (by rfl) (.tmp 34) (.tmp 36) 31 (by rfl) wr.heap.size 36 i0 _ 1 8 Try.underlying31 hi0 hz0 hz1 hz2 (by rfl) (by decide) (.slice (some ⟨wr.heap.size, 0, none⟩) 0 0) 0 [] (by rfl) (HO.out.1.alloc _) ⟨wr.heap.size + 1, 0, none⟩ 1 1 [.int .u64 v] (by rfl) (by rfl) HNEW.out (by simp [Value.oneCell']) (by unfold maxLen; omega) (by omega) (by simp; omega) ?_); intro v' w' hown hgrow _ hat; obtain ⟨A', c', rfl⟩ := or_form hown; have hK9 := (HO.out.2.alloc (.cells #[.int .u64 v] 36)).grown hgrow (fun k hk hlt => absurd hlt (by have hk2 : wr.heap.size = k := Option.some.inj hk; omega)); have mm0 := bk_kp HR.out.1 hK9 (fun x => x); have HF2 := As.mk (And.intro hown (And.intro hgrow (And.intro hat (And.intro hK9 mm0)))); have x1' := bk_cell mm0 1; have z1' := bk_fz mm0 1; clear hown hgrow hat hK9 mm0))
          obtain ⟨hown, hgrow, hat, hK9, m0⟩ := HF2.out
          have m1 := bk_kp HR.out.2.1 hK9 (fun x => x)
          have hK := HR.out.2.2.trans hK9
          have hne : ∀ k, (Value.slice A' (0 + 1) c').ownBlock = some k → wr.heap.size ≤ k := fun k hk => (hown.lt k hk).1
          have hks := Kp.set1 w' b0 1 (.slice A' (0 + 1) c')
          have hrow := or_kp hown hks (fun k hk e => by have := hne k hk; omega)
          have m0' := bk_set (cs' := #[.int .i64 most, .slice A' (0 + 1) c', .slice (some ⟨gg, 0, none⟩) got.length c2, .bool false]) m0 1 (.slice A' (0 + 1) c') rfl
          have m1' := bk_far m1 (p := ⟨b0, 1, none⟩) (by show b0 + 1 ≠ b0; omega) (.slice A' (0 + 1) c')
          have hK2 := hK.setNew ⟨b0, 1, none⟩ (by show w.heap.size ≤ b0; have := HB.out; omega) (.slice A' (0 + 1) c')
          clear m0 m1 hK hks hown hgrow hat hK9 HF2
          generalize w'.setCell ⟨b0, 1, none⟩ (.slice A' (0 + 1) c') = w8 at hrow m0' m1' hK2 ⊢
          have m0 := m0'
          have m1 := m1'
          have hK := hK2
          have HRW := As.mk (And.intro hrow (And.intro hne hK2))
          clear m0' m1' hK2 hrow hne x1 hb9 hs9 x1' z1'
          refine wp_region_still_tail 8 (by kernel_rfl) (by kernel_rfl) ?_
          generalize hq : ({ w8 with drawn := w8.drawn + 1 } : World) = W2
          replace hq : QD w8 W2 := ⟨1, hq.symm⟩
          replace m0 := bk_qd m0 hq
          replace m1 := bk_qd m1 hq
          replace hK := hK.qd hq
          have e0 := bk_cell m0 0
          have e1 := bk_cell m0 1
          have e2 := bk_cell m0 2
          have e3 := bk_cell m0 3
          have f0 := bk_cell m1 0
          have f1 := bk_cell m1 1
          have f2 := bk_cell m1 2
          have f3 := bk_cell m1 3
          have z0 := bk_fz m1 0
          have z1 := bk_fz m1 1
          have z2 := bk_fz m1 2
          have z3 := bk_fz m1 3
          have HM2 := As.mk (And.intro m1 hK)
          have HQ2 := As.mk hq
          clear m0 m1 hK hq
          simp only [List.take_succ_cons, List.take_zero, List.drop_succ_cons, List.drop_zero]
          repeat still_step
          refine wpStill_nil ?_
          clear e0 e1 e2 e3
          go_wp2
          obtain ⟨g1, g2, g3⟩ := tell4 (.int .i64 most) (.slice A' (0 + 1) c') (.slice (some ⟨gg, 0, none⟩) got.length c2) (.bool false) HM2.out.1 HM2.out.2 (by have := HB.out; omega)
          refine bodyPost_ret (results_ttc rfl _ _ (b0 + 1) 34 #[.int .i64 most, .slice A' (0 + 1) c', .slice (some ⟨gg, 0, none⟩) got.length c2, .bool false] (0, 0) _ (.int .u64 0) (.int .i64 0) rfl rfl rfl g1 Try.underlying34 rfl (by kernel_rfl)) rfl ?_
          unfold mPut
          rw [HF.out]
          obtain ⟨hrow, hne, hKw8⟩ := HRW.out
          have hx : ∀ k, (Value.slice A' (0 + 1) c').ownBlock = some k → ¬ S k := fun k hk hs => by have h1 := hne k hk; have h2 := HS.out.1 k hs; have h3 := HW8.out; omega
          have hq8 := HQ2.out
          have hs8 := HS9.out
          have hb8 : W.heap.size ≤ wr.heap.size := Nat.le_trans HS.out.2 HW8.out
          have hfin := or_base (or_kp (or_qd hrow hq8) g3 (fun k hk e => by have := hne k hk; omega)) hb8
          refine ⟨_, rfl, ⟨_, _, rfl, by simpa [u64s] using hfin, or_kp HH.out.2.1 g2 (fun _ _ x => x), fun h => by simp at h, fun k hk => hk.elim (hx k) (fun h => HH.out.2.2.2 k (.inr h))⟩, g2⟩
      · as_aux_lemma =>
          have hlp : 0 < l.length := by
            rcases Nat.eq_zero_or_pos l.length with h | h
            · exact absurd (List.eq_nil_of_length_eq_zero h) hl0
            · exact h
          obtain ⟨g1, c1', e5, -⟩ := or_some HH.out.1 hlp
          injection e5 with e5 e6 e7
          subst e5; subst e7
          clear e6 hl0
          have hsrc : ∀ (j : Nat) (u : Value), (u64s l)[j]? = some u → (wr.alloc (.cells #[] 36)).cell? ((⟨g1, 0, none⟩ : Addr).add j) = some u := fun j u hj => HROW.out.cells (g := g1) rfl j u hj
          have hnew : ∀ (w1 : World) (j : Nat) (u : Value), [Value.int .u64 v][j]? = some u → (w1.alloc (.cells #[.int .u64 v] 36)).cell? ((⟨w1.heap.size, 0, none⟩ : Addr).add j) = some u := fun w1 j u hj => by
            match j, hj with
            | 0, hj => injection hj with hj; subst hj; rw [add_none]; exact bk_cell (heap_alloc_new w1 (.cells #[.int .u64 v] 36)) 0
          have HNEW := As.mk (And.intro hsrc hnew)
          clear hnew hsrc
          go_wp2_with (first
            | (at_builtin; refine wpList_append_own_at _ (by rfl) (.tmp 31) (.tmp 33) 31 (by rfl) wr.heap.size 36 i0 _ 1 8 Try.underlying31 hi0 hz0 hz1 hz2 (by rfl) (by decide) (.slice (some ⟨wr.heap.size, 0, none⟩) 0 0) 0 [] (by rfl) HO.out.1 ⟨g1, 0, none⟩ l.length c1 (u64s l) (by rfl) (u64s_len l) HNEW.out.1 (u64s_one l) (by unfold maxLen; omega) (by omega) (by simp) ?_; intro v1 w1 hown1 hgrow1 _ _; rw [List.nil_append, Nat.zero_add] at hown1; obtain ⟨A5, c5, rfl⟩ := or_form hown1; have hK1 := HO.out.2.grown hgrow1 (fun k hk hlt => absurd hlt (by have hk2 : wr.heap.size = k := Option.some.inj hk; omega)); have HF1 := As.mk (And.intro hown1 hK1); clear hown1 hgrow1 hK1)
            | (at_builtin; go_loud (refine wpList_append_own_at _ (by rfl) (.tmp 34) (.tmp 36) 31 (by rfl) wr.heap.size 36 i0 _ 1 8 Try.underlying31 hi0 hz0 hz1 hz2 (by rfl) (by decide) (.slice A5 l.length c5) l.length (u64s l) (by rfl) (HF1.out.1.alloc _) ⟨w1.heap.size, 0, none⟩ 1 1 [.int .u64 v] (by rfl) (by rfl) (HNEW.out.2 w1) (by simp [Value.oneCell']) (by unfold maxLen; omega) (by omega) (by have := HF1.out.2.size; simp; omega) ?_); intro v' w' hown hgrow _ hat; obtain ⟨A', c', rfl⟩ := or_form hown; have hK9 := (HF1.out.2.alloc (.cells #[.int .u64 v] 36)).grown hgrow (fun k hk hlt => absurd hlt (by have := (HF1.out.1.lt k hk).1; omega)); have mm0 := bk_kp HR.out.1 hK9 (fun x => x); have HF2 := As.mk (And.intro hown (And.intro hgrow (And.intro hat (And.intro hK9 mm0)))); have x1' := bk_cell mm0 1; have z1' := bk_fz mm0 1; clear hown hgrow hat hK9 mm0))
          obtain ⟨hown, hgrow, hat, hK9, m0⟩ := HF2.out
          have m1 := bk_kp HR.out.2.1 hK9 (fun x => x)
          have hK := HR.out.2.2.trans hK9
          have hne : ∀ k, (Value.slice A' (l.length + 1) c').ownBlock = some k → wr.heap.size ≤ k := fun k hk => (hown.lt k hk).1
          have hks := Kp.set1 w' b0 1 (.slice A' (l.length + 1) c')
          have hrow := or_kp hown hks (fun k hk e => by have := hne k hk; omega)
          have m0' := bk_set (cs' := #[.int .i64 most, .slice A' (l.length + 1) c', .slice (some ⟨gg, 0, none⟩) got.length c2, .bool false]) m0 1 (.slice A' (l.length + 1) c') rfl
          have m1' := bk_far m1 (p := ⟨b0, 1, none⟩) (by show b0 + 1 ≠ b0; omega) (.slice A' (l.length + 1) c')
          have hK2 := hK.setNew ⟨b0, 1, none⟩ (by show w.heap.size ≤ b0; have := HB.out; omega) (.slice A' (l.length + 1) c')
          clear m0 m1 hK hks hown hgrow hat hK9 HF2
          generalize w'.setCell ⟨b0, 1, none⟩ (.slice A' (l.length + 1) c') = w8 at hrow m0' m1' hK2 ⊢
          have m0 := m0'
          have m1 := m1'
          have hK := hK2
          have HRW := As.mk (And.intro hrow (And.intro hne hK2))
          clear m0' m1' hK2 hrow hne x1 hb9 hs9 x1' z1'
          refine wp_region_still_tail 8 (by kernel_rfl) (by kernel_rfl) ?_
          generalize hq : ({ w8 with drawn := w8.drawn + 1 } : World) = W2
          replace hq : QD w8 W2 := ⟨1, hq.symm⟩
          replace m0 := bk_qd m0 hq
          replace m1 := bk_qd m1 hq
          replace hK := hK.qd hq
          have e0 := bk_cell m0 0
          have e1 := bk_cell m0 1
          have e2 := bk_cell m0 2
          have e3 := bk_cell m0 3
          have f0 := bk_cell m1 0
          have f1 := bk_cell m1 1
          have f2 := bk_cell m1 2
          have f3 := bk_cell m1 3
          have z0 := bk_fz m1 0
          have z1 := bk_fz m1 1
          have z2 := bk_fz m1 2
          have z3 := bk_fz m1 3
          have HM2 := As.mk (And.intro m1 hK)
          have HQ2 := As.mk hq
          clear m0 m1 hK hq
          simp only [List.take_succ_cons, List.take_zero, List.drop_succ_cons, List.drop_zero]
          repeat still_step
          refine wpStill_nil ?_
          clear e0 e1 e2 e3
          go_wp2
          obtain ⟨g1, g2, g3⟩ := tell4 (.int .i64 most) (.slice A' (l.length + 1) c') (.slice (some ⟨gg, 0, none⟩) got.length c2) (.bool false) HM2.out.1 HM2.out.2 (by have := HB.out; omega)
          refine bodyPost_ret (results_ttc rfl _ _ (b0 + 1) 34 #[.int .i64 most, .slice A' (l.length + 1) c', .slice (some ⟨gg, 0, none⟩) got.length c2, .bool false] (0, 0) _ (.int .u64 (IntKind.u64.wrap (IntKind.i64.wrap (l.length : Int)))) (.int .i64 0) rfl rfl rfl g1 Try.underlying34 rfl (by kernel_rfl)) rfl ?_
          unfold mPut
          rw [HF.out]
          obtain ⟨hrow, hne, hKw8⟩ := HRW.out
          have hx : ∀ k, (Value.slice A' (l.length + 1) c').ownBlock = some k → ¬ S k := fun k hk hs => by have h1 := hne k hk; have h2 := HS.out.1 k hs; have h3 := HW8.out; omega
          have hq8 := HQ2.out
          have hs8 := HS9.out
          have hb8 : W.heap.size ≤ wr.heap.size := Nat.le_trans HS.out.2 HW8.out
          have hfin := or_base (or_kp (or_qd hrow hq8) g3 (fun k hk e => by have := hne k hk; omega)) hb8
          have hwl : IntKind.u64.wrap (IntKind.i64.wrap (l.length : Int)) = (l.length : Int) := by rw [IntKind.wrap_u64, IntWalk.i64_in (l.length : Int) (by omega)]; omega
          refine ⟨_, by rw [hwl]; rfl, ⟨_, _, rfl, by simpa [u64s] using hfin, or_kp HH.out.2.1 g2 (fun _ _ x => x), fun h => by simp at h, fun k hk => hk.elim (hx k) (fun h => HH.out.2.2.2 k (.inr h))⟩, g2⟩
end Go.Proofs.Ytmejnhfggmmefaa.H
