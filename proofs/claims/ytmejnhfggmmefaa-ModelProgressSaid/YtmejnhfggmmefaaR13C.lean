/- Layer 13's reference: Publish, Release, Take. No condition. -/
import Derived.Test.YtmejnhfggmmefaaR13B
import Derived.Test.YtmejnhfggmmefaaR12F
import Derived.Test.YtmejnhfggmmefaaR14B
namespace Go.Proofs.Ytmejnhfggmmefaa.H
open Go.RowKit
set_option linter.unusedVariables false
set_option linter.unusedSimpArgs false
variable {w : World} {bb : Nat → Prop} {S : Nat → Prop} {r : Rg} {t v j : Int}

theorem rd_off {W : World} {v : Value} {L : List Sl} (h : Rd W v L.length (slCells L)) (hL : 0 < L.length) {b : Nat} {cs : Array Value} {T : TypeId} {fr : Nat × Nat} (hb : W.heap[b]? = some (.cells cs T fr))
    (hn : ∀ (j : Nat) (s x l : Int), ¬ (cs[j]? = some (.int .u64 s) ∧ cs[j + 1]? = some (.int .u64 x) ∧ cs[j + 2]? = some (.int .i64 l))) : ∀ k, v.ownBlock = some k → k ≠ b := by
  intro k hk e
  subst e
  obtain ⟨ab, ao, c, rfl, -, -, hx⟩ := h.form (by rw [slCells_len]; omega)
  have e : ab = k := Option.some.inj hk
  subst e
  obtain ⟨k0, k1, k2⟩ := slCells_get L 0 hL
  have h0 := hx _ _ k0
  have h1 := hx _ _ k1
  have h2 := hx _ _ k2
  rw [bk_cell hb] at h0 h1 h2
  exact hn (ao + 0 * 3) _ _ _ ⟨h0, h1, h2⟩
theorem ring_off (a b : Int) (x y : Value) (c : Bool) (e : Int) (hx : ∀ i n, x ≠ .int i n) (hy : ∀ i n, y ≠ .int i n) : ∀ (j : Nat) (s q l : Int), ¬ ((#[.int .u64 a, .int .u64 b, x, .bool c, y, .int .i64 e] : Array Value)[j]? = some (.int .u64 s) ∧ (#[.int .u64 a, .int .u64 b, x, .bool c, y, .int .i64 e] : Array Value)[j + 1]? = some (.int .u64 q) ∧ (#[.int .u64 a, .int .u64 b, x, .bool c, y, .int .i64 e] : Array Value)[j + 2]? = some (.int .i64 l)) := by
  intro j s q l ⟨h0, h1, h2⟩
  match j, h0, h1, h2 with
  | 0, _, _, h2 => exact hx _ _ (Option.some.inj h2)
  | 1, _, h1, _ => exact hx _ _ (Option.some.inj h1)
  | 2, h0, _, _ => exact hx _ _ (Option.some.inj h0)
  | 3, h0, _, _ => cases h0
  | 4, h0, _, _ => exact hy _ _ (Option.some.inj h0)
  | 5, h0, _, _ => cases h0
  | j + 6, h0, _, _ => simp at h0
theorem RG.two {w w1 w' : World} {Ah Al A2 : Option Addr} {ch cl c2 b0 b1 : Nat} {T : TypeId} {C : Bool} {tl : Int} {hs : List Int} {L L2 : List Sl}
    (H : As (Rd w (.slice Ah hs.length ch) hs.length (u64s hs) ∧ Rd w (.slice Al L.length cl) L.length (slCells L) ∧ (∀ k, (Value.slice Ah hs.length ch).ownBlock = some k → ¬ S k) ∧ ∀ k, (Value.slice Al L.length cl).ownBlock = some k → ¬ bb k))
    (HR : As (Rd w1 (.slice A2 L2.length c2) L2.length (slCells L2) ∧ ∀ k, (Value.slice A2 L2.length c2).ownBlock = some k → ¬ bb k)) (hz : L2.length = L.length) (hL : 0 < L.length)
    (M : As (w1.heap[b0]? = some (.cells #[.int .u64 L.length, .int .u64 tl, .slice Ah hs.length ch, .bool C, .slice Al L.length cl, .int .i64 hs.length] T (0, 0)) ∧ w1.heap[b1]? = some (.cells #[.int .u64 0, .int .u64 0, .slice none 0 0, .bool false, .slice none 0 0, .int .i64 0] T (0, 0)) ∧ Kp no w w1))
    (k : Kp no w w') (k2 : Kp (fun i => i = b0 ∨ i = b1) w1 w') : RG bb S w' (.agg #[.int .u64 L.length, .int .u64 tl, .slice Ah hs.length ch, .bool C, .slice A2 L2.length c2, .int .i64 hs.length]) ⟨tl, hs, C, L2⟩ := by
  obtain ⟨h1, h2, h3, h4⟩ := H.out
  obtain ⟨r1, r2⟩ := HR.out
  obtain ⟨m0, m1, m2⟩ := M.out
  rw [← hz]
  refine ⟨_, _, rfl, h1.kp k (fun _ _ x => x), r1.kp k2 (fun b hb hs => ?_), h3, r2⟩
  rcases hs with e | e
  · exact rd_off r1 (by omega) m0 (ring_off _ _ _ _ _ _ (fun _ _ h => by cases h) (fun _ _ h => by cases h)) b hb e
  · exact rd_off r1 (by omega) m1 (ring_off _ _ _ _ _ _ (fun _ _ h => by cases h) (fun _ _ h => by cases h)) b hb e
set_option maxRecDepth 100000 in
set_option maxHeartbeats 6400000 in
theorem RPublish_any {e : Value} (hA : RA13 r) (h : RG bb S w e r) (hbb : ∀ k, bb k → k < w.heap.size) (ht : 0 ≤ t) : Calls Try.prog 83 #[e, .int .u64 t, .int .u64 v] w fun e w' => ∃ vv, e = .returned (.tuple #[.int .i64 (rPublish r t v).1, vv]) ∧ RG bb S w' vv (rPublish r t v).2 ∧ Kp no w w' := by
  have HA := As.mk hA
  have HG := As.mk h
  obtain ⟨tl, hs, CL, L⟩ := r
  obtain ⟨vh, vl, rfl, h1, h2, h3, h4⟩ := h
  obtain ⟨Ah, ch, rfl, -⟩ := id h1
  obtain ⟨Al, cl, rfl, -⟩ := id h2
  dsimp only at hA h1 h2 h3 HA HG ⊢
  have H := As.mk (And.intro h1 (And.intro h2 (And.intro h3 h4)))
  have HP := fun (W : World) (k : Kp no w W) => RPut_any (bb := bb) (w := W) (t := t) (v := v) HA.out.s ⟨_, rfl, h2.kp k (fun _ _ x => x), h4⟩ (fun b hb => by have := k.size; have := hbb b hb; omega) ht
  have HPP := As.mk HP
  clear hA h1 h2 h3 h4 HP hbb ht
  by_cases hlt : tl ≤ t
  · have hd : decide (tl ≤ t) = true := decide_eq_true hlt
    have e : rPublish ⟨tl, hs, CL, L⟩ t v = (11, ⟨tl, hs, CL, L⟩) := by unfold rPublish; rw [if_pos hlt]
    rw [e]
    clear e hlt
    go_enter Try.func83, Try.ntmps83
    go_wp2_with (first | (refine wpStill_op (by rfl) (by rfl) (fun K hK => ?_)) | (refine wpStill_nil ?_) | (refine wpStill_want (by rfl) (by rfl) (fun K hK => ?_)) | (refine wpStill_skip (by rfl) ?_; simp only [Act.put, List.setIfInBounds_toArray, List.set_cons_zero, List.set_cons_succ]) | (refine reg_tail (id := 2) 2 (by kernel_rfl) (by kernel_rfl) ?_; simp only [List.take_succ_cons, List.take_zero, List.drop_succ_cons, List.drop_zero]) | (refine reg_tail (id := 5) 3 (by kernel_rfl) (by kernel_rfl) ?_; simp only [List.take_succ_cons, List.take_zero, List.drop_succ_cons, List.drop_zero]))
    refine bodyPost_ret (results_tc rfl _ _ (w.heap.size + 1) 104 _ (0, 0) _ (.int .i64 11) rfl rfl (by (with_reducible repeat (first | exact absurd | refine st_drew ?_ | apply st_same | refine st_far (by omega) ?_ | (refine st_new ?_; (first | with_reducible rfl | assumption | (simp; done) | (simp; omega))) | refine st_alloc ?_))) Try.underlying104 rfl (by kernel_rfl)) rfl ?_
    refine (fun (k : Kp no w _) => ⟨_, rfl, RG.same H k, k⟩) ?_
    (with_reducible repeat (first | exact Kp.refl no w | refine kp_drew ?_ | refine kp_new (by omega) ?_ | refine kp_alloc ?_))
  · have hd : decide (tl ≤ t) = false := decide_eq_false hlt
    have e : rPublish ⟨tl, hs, CL, L⟩ t v = ((sPut L hs.length t v).1, ⟨tl, hs, CL, (sPut L hs.length t v).2⟩) := by unfold rPublish; rw [if_neg hlt]
    rw [e]
    clear e hlt
    have hl := sPut_len L hs.length t v
    generalize sPut L hs.length t v = q at HPP hl ⊢
    obtain ⟨er, L2⟩ := q
    dsimp only at HPP hl ⊢
    rw [← hl]
    go_enter Try.func83, Try.ntmps83
    go_wp2_with fail
    refine (HPP.out _ (((Kp.refl no w).alloc _).alloc _)).mono ?_
    rintro e w1 ⟨vv, rfl, ⟨v2, rfl, hr2, hf2⟩, hk⟩
    obtain ⟨A2, c2, rfl, -⟩ := id hr2
    obtain ⟨m0, m1, hK, hsz⟩ := after2 hk
    have e0 := bk_cell m0
    have z0 := bk_fz m0
    have e1 := bk_cell m1
    have z1 := bk_fz m1
    have M := As.mk (And.intro m0 (And.intro m1 hK))
    have HR := As.mk (And.intro hr2 hf2)
    have HL := As.mk hl
    have l0 : w.heap.size < w1.heap.size := by omega
    have l1 : w.heap.size + 1 < w1.heap.size := hsz
    have n1 : ¬ w1.heap.size = w.heap.size := by omega
    have n2 : ¬ w1.heap.size = w.heap.size + 1 := by omega
    have n3 : ¬ w.heap.size = w1.heap.size := by omega
    have n4 : ¬ w.heap.size + 1 = w1.heap.size := by omega
    clear m0 m1 hK hk hr2 hf2 hl hsz
    go_wp2_with (first | (refine wpStill_op (by rfl) (by rfl) (fun K hK => ?_)) | (refine wpStill_nil ?_) | (refine wpStill_want (by rfl) (by rfl) (fun K hK => ?_)) | (refine wpStill_skip (by rfl) ?_; simp only [Act.put, List.setIfInBounds_toArray, List.set_cons_zero, List.set_cons_succ]) | (refine reg_tail (id := 2) 2 (by kernel_rfl) (by kernel_rfl) ?_; simp only [List.take_succ_cons, List.take_zero, List.drop_succ_cons, List.drop_zero]) | (refine reg_tail (id := 5) 3 (by kernel_rfl) (by kernel_rfl) ?_; simp only [List.take_succ_cons, List.take_zero, List.drop_succ_cons, List.drop_zero]))
    refine bodyPost_ret (results_tc rfl _ _ (w.heap.size + 1) 104 _ (0, 0) _ (.int .i64 er) rfl rfl (by (with_reducible repeat (first | exact M.out.2.1 | refine st_drew ?_ | apply st_same | refine st_far (by omega) ?_ | (refine st_new ?_; (first | with_reducible rfl | assumption | (simp; done) | (simp; omega))) | refine st_alloc ?_))) Try.underlying104 rfl (by kernel_rfl)) rfl ?_
    have hp := HA.out.s.pos
    refine (fun (k : Kp no w _) (k2 : Kp (fun i => i = w.heap.size ∨ i = w.heap.size + 1) w1 _) => ⟨_, rfl, RG.two H HR HL.out hp M k k2, k⟩) ?_ ?_
    · (with_reducible repeat (first | exact M.out.2.2 | refine kp_drew ?_ | refine kp_new (by omega) ?_ | refine kp_alloc ?_))
    · (with_reducible repeat (first | exact Kp.refl _ w1 | refine kp_drew ?_ | refine kp_in (by first | exact rfl | exact Or.inl rfl | exact Or.inr rfl | exact Or.inr (Or.inl rfl) | exact Or.inr (Or.inr rfl)) ?_ | refine kp_new (by omega) ?_ | refine kp_alloc ?_))
end Go.Proofs.Ytmejnhfggmmefaa.H
