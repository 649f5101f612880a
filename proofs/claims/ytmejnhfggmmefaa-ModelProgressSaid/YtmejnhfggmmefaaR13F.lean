/- Layer 13's reference: State. No condition. -/
import Derived.Test.YtmejnhfggmmefaaR13E
import Derived.Test.YtmejnhfggmmefaaSeq2
namespace Go.Proofs.Ytmejnhfggmmefaa.H
open Go.RowKit
set_option linter.unusedVariables false
set_option linter.unusedSimpArgs false
variable {w : World} {bb : Nat → Prop} {S : Nat → Prop} {r : Rg} {t v j : Int}

set_option maxRecDepth 100000 in
set_option maxHeartbeats 6400000 in
theorem RState_any {e : Value} (hA : RA13 r) (h : RG bb S w e r) : Calls Try.prog 60 #[e] w fun e w' => ∃ vh vl, e = .returned (.agg #[.int .u64 r.tail, vh, .bool r.closed, vl]) ∧ w'.ownsRow w.heap.size 36 1 vh r.heads.length (u64s r.heads) ∧ w'.ownsRow w.heap.size 119 3 vl r.L.length (slCells r.L) ∧ Kp no w w' := by
  have HA := As.mk hA
  obtain ⟨tl, hs, CL, L⟩ := r
  obtain ⟨vh, vl, rfl, h1, h2, h3, h4⟩ := h
  obtain ⟨Ah, ch, rfl, -⟩ := id h1
  obtain ⟨Al, cl, rfl, -⟩ := id h2
  dsimp only at hA h1 h2 h3 HA ⊢
  have H := As.mk (And.intro h1 (And.intro h2 (And.intro h3 h4)))
  have hn8 := hA.s.hR
  have hn64 := hA.s.le
  dsimp only at hn8 hn64
  clear hA h1 h2 h3 h4
  go_enter Try.func60, Try.ntmps60
  go_wp2_with fail
  obtain ⟨m0, m1, hK, hsz⟩ := alloc2 (w := w) #[.int .u64 L.length, .int .u64 tl, .slice Ah hs.length ch, .bool CL, .slice Al L.length cl, .int .i64 hs.length] #[.int .u64 0, .slice none 0 0, .bool false, .slice none 0 0] 104 92
  generalize (w.alloc (.cells #[.int .u64 L.length, .int .u64 tl, .slice Ah hs.length ch, .bool CL, .slice Al L.length cl, .int .i64 hs.length] 104)).alloc (.cells #[.int .u64 0, .slice none 0 0, .bool false, .slice none 0 0] 92) = W at m0 m1 hK hsz ⊢
  have e1 := bk_cell m0 1
  have e2 := bk_cell m0 2
  have e3 := bk_cell m0 3
  have e4 := bk_cell m0 4
  have M := As.mk (And.intro m0 (And.intro m1 hK))
  have hb1 : w.heap.size + 1 < W.heap.size := by omega
  have hb0 : w.heap.size < W.heap.size := by omega
  clear m0 m1 hK
  go_region_held3 (fun w' => w'.cell? ⟨w.heap.size, 1, none⟩ = some (.int .u64 tl) ∧ w'.cell? ⟨w.heap.size, 2, none⟩ = some (.slice Ah hs.length ch) ∧ w'.cell? ⟨w.heap.size, 3, none⟩ = some (.bool CL) ∧ w'.cell? ⟨w.heap.size, 4, none⟩ = some (.slice Al L.length cl)) (first | exact ⟨e1, e2, e3, e4⟩ | exact ⟨f1, f2, f3, f4⟩ | exact ⟨g1, g2, g3, g4⟩ | go_keep)
    (first
      | (refine step_clone rfl (.tmp 5) (.tmp 7) 31 36 rfl Try.underlying31 Try.infoU64 rfl (by decide) (w.heap.size + 1 + 1) (news := u64s hs) rfl rfl (by (with_reducible repeat (first | exact absurd | refine st_drew ?_ | apply st_same | refine st_far (by omega) ?_ | (refine st_new ?_; (first | with_reducible rfl | assumption | (simp; done) | (simp; omega))) | refine st_alloc ?_))) (by omega) (H.out.1.kp (S := no) (by (with_reducible repeat (first | exact M.out.2.2 | refine kp_drew ?_ | refine kp_new (by omega) ?_ | refine kp_alloc ?_))) (fun _ _ x => x)) (u64s_len hs) (u64s_one hs) (by omega) (by omega) ?_; intro v1 w1 own1 k1 ob1; obtain ⟨A1, d1, rfl⟩ := or_form own1; have hs1 : w.heap.size + 1 + 1 < w1.heap.size := (by have := k1.size; (try simp at this); omega); have mA := bk_kp (g := w.heap.size) (o := .cells #[.int .u64 L.length, .int .u64 tl, .slice Ah hs.length ch, .bool CL, .slice Al L.length cl, .int .i64 hs.length] 104 (0, 0)) (by (with_reducible repeat (first | exact M.out.1 | refine st_drew ?_ | apply st_same | refine st_far (by omega) ?_ | (refine st_new ?_; (first | with_reducible rfl | assumption | (simp; done) | (simp; omega))) | refine st_alloc ?_))) k1 (by omega); have mB := bk_kp (g := w.heap.size + 1) (o := .cells #[.int .u64 0, .slice none 0 0, .bool false, .slice none 0 0] 92 (0, 0)) (by (with_reducible repeat (first | exact M.out.2.1 | refine st_drew ?_ | apply st_same | refine st_far (by omega) ?_ | (refine st_new ?_; (first | with_reducible rfl | assumption | (simp; done) | (simp; omega))) | refine st_alloc ?_))) k1 (by omega); have f1 := bk_cell mA 1; have f2 := bk_cell mA 2; have f3 := bk_cell mA 3; have f4 := bk_cell mA 4; have N1 := As.mk (And.intro own1 (And.intro mA (And.intro mB (And.intro (show Kp no w w1 from Kp.new (by (with_reducible repeat (first | exact M.out.2.2 | refine kp_drew ?_ | refine kp_new (by omega) ?_ | refine kp_alloc ?_))) k1 (by rintro i rfl; omega)) k1)))); clear own1 mA mB k1 ob1 e1 e2 e3 e4)
      | (refine step_clone rfl (.tmp 11) (.tmp 14) 58 119 rfl Try.underlying58 Try.infoSlot rfl (by decide) (w.heap.size + 1 + 1) (news := slCells L) rfl rfl (by (with_reducible repeat (first | exact (bk_kp (by (with_reducible repeat (first | exact absurd | refine st_drew ?_ | apply st_same | refine st_far (by omega) ?_ | (refine st_new ?_; (first | with_reducible rfl | assumption | (simp; done) | (simp; omega))) | refine st_alloc ?_))) N1.out.2.2.2.2 (by omega)) | refine st_drew ?_ | apply st_same | refine st_far (by omega) ?_ | (refine st_new ?_; (first | with_reducible rfl | assumption | (simp; done) | (simp; omega))) | refine st_alloc ?_))) (by omega) (H.out.2.1.kp (S := no) (by (with_reducible repeat (first | exact N1.out.2.2.2.1 | refine kp_drew ?_ | refine kp_new (by omega) ?_ | refine kp_alloc ?_))) (fun _ _ x => x)) (slCells_len L) (slCells_one L) (by omega) (by omega) ?_; intro v2 w2 own2 k2 ob2; obtain ⟨A2, d2, rfl⟩ := or_form own2; have hs2 : w.heap.size + 1 + 1 < w2.heap.size := (by have := k2.size; (try simp at this); omega); have mA2 := bk_kp (g := w.heap.size) (o := .cells #[.int .u64 L.length, .int .u64 tl, .slice Ah hs.length ch, .bool CL, .slice Al L.length cl, .int .i64 hs.length] 104 (0, 0)) (by (with_reducible repeat (first | exact N1.out.2.1 | refine st_drew ?_ | apply st_same | refine st_far (by omega) ?_ | (refine st_new ?_; (first | with_reducible rfl | assumption | (simp; done) | (simp; omega))) | refine st_alloc ?_))) k2 (by omega); have mB2 := bk_kp (g := w.heap.size + 1) (o := .cells #[.int .u64 0, .slice none 0 0, .bool false, .slice none 0 0] 92 (0, 0)) (by (with_reducible repeat (first | exact N1.out.2.2.1 | refine st_drew ?_ | apply st_same | refine st_far (by omega) ?_ | (refine st_new ?_; (first | with_reducible rfl | assumption | (simp; done) | (simp; omega))) | refine st_alloc ?_))) k2 (by omega); have x0 := bk_cell mB2 0; have y0 := bk_fz mB2 0; have x1 := bk_cell mB2 1; have y1 := bk_fz mB2 1; have x2 := bk_cell mB2 2; have y2 := bk_fz mB2 2; have x3 := bk_cell mB2 3; have y3 := bk_fz mB2 3; have g1 := bk_cell mA2 1; have g2 := bk_cell mA2 2; have g3 := bk_cell mA2 3; have g4 := bk_cell mA2 4; have N2 := As.mk (And.intro own2 (And.intro mA2 (And.intro mB2 (And.intro (show Kp no w w2 from Kp.new (by (with_reducible repeat (first | exact N1.out.2.2.2.1 | refine kp_drew ?_ | refine kp_new (by omega) ?_ | refine kp_alloc ?_))) k2 (by rintro i rfl; omega)) (or_kp (or_kp N1.out.1 (show Kp no w1 _ from by (with_reducible repeat (first | exact Kp.refl no w1 | refine kp_drew ?_ | refine kp_new (by omega) ?_ | refine kp_alloc ?_))) (fun _ _ x => x)) k2 (fun k hk e => by obtain ⟨cur, hc⟩ := or_bk N1.out.1 hk; have q1 := bk_lt hc; first | omega | (have q2 : w1.heap[k]? = some (.cells #[] 119 (0, 0)) := (by rw [e]; (with_reducible repeat (first | exact (bk_kp (by (with_reducible repeat (first | exact absurd | refine st_drew ?_ | apply st_same | refine st_far (by omega) ?_ | (refine st_new ?_; (first | with_reducible rfl | assumption | (simp; done) | (simp; omega))) | refine st_alloc ?_))) N1.out.2.2.2.2 (by omega)) | refine st_drew ?_ | apply st_same | refine st_far (by omega) ?_ | (refine st_new ?_; (first | with_reducible rfl | assumption | (simp; done) | (simp; omega))) | refine st_alloc ?_))); rw [hc] at q2; injection q2 with q2; injection q2 with _ q2; exact absurd q2 (by decide)))))))); clear own2 mA2 mB2 k2 ob2 f1 f2 f3 f4 hs1))
  all_goals (
    go_wp2
    refine bodyPost_ret (results_cell_row rfl _ _ (w.heap.size + 1) 92 _ (0, 0) _ rfl (by (with_reducible repeat (first | exact N2.out.2.2.1 | refine st_drew ?_ | apply st_same | refine st_far (by omega) ?_ | (refine st_new ?_; (first | with_reducible rfl | assumption | (simp; done) | (simp; omega))) | refine st_alloc ?_))) Try.underlying92 rfl (by kernel_rfl)) rfl ?_
    have hk3 := (Kp.refl (· = w.heap.size + 1) w2)
    refine (fun (k : Kp no w _) (k3 : Kp (· = w.heap.size + 1) w2 _) => ⟨_, _, rfl, or_base (or_kp N2.out.2.2.2.2 k3 (fun i hi e => by subst e; obtain ⟨cur, hc⟩ := or_bk N2.out.2.2.2.2 hi; rw [N2.out.2.2.1] at hc; injection hc with hc; injection hc with _ hc; exact absurd hc (by decide))) (by omega), or_base (or_kp N2.out.1 k3 (fun i hi e => by subst e; obtain ⟨cur, hc⟩ := or_bk N2.out.1 hi; rw [N2.out.2.2.1] at hc; injection hc with hc; injection hc with _ hc; exact absurd hc (by decide))) (by omega), k⟩) ?_ ?_
    · (with_reducible repeat (first | exact N2.out.2.2.2.1 | refine kp_drew ?_ | refine kp_new (by omega) ?_ | refine kp_alloc ?_))
    · (with_reducible repeat (first | exact Kp.refl _ w2 | refine kp_drew ?_ | refine kp_in (by first | exact rfl | exact Or.inl rfl | exact Or.inr rfl | exact Or.inr (Or.inl rfl) | exact Or.inr (Or.inr rfl)) ?_ | refine kp_new (by omega) ?_ | refine kp_alloc ?_)))
end Go.Proofs.Ytmejnhfggmmefaa.H
