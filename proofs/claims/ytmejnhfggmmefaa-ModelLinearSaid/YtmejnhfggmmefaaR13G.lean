/- Layer 13's reference: New. No condition. -/
import Derived.Test.YtmejnhfggmmefaaR13F
import Derived.Test.YtmejnhfggmmefaaR12G
namespace Go.Proofs.Ytmejnhfggmmefaa.H
open Go.RowKit
set_option linter.unusedVariables false
set_option linter.unusedSimpArgs false
variable {w : World} {bb : Nat → Prop} {S : Nat → Prop} {r : Rg} {t v j : Int}

/-- make of n elements. -/
theorem make_run {P : Program} (w : World) {t e : TypeId} (ht : P.underlying t = some (.slice e)) {z : Value} {size bytes : Nat} (hi : (P.info? e).map (fun i => (i.zero, i.size, i.bytes)) = some (some z, size, bytes))
    (n : Nat) (hc : n * size ≤ 16777216) (hby : bytes * n ≤ 281474976710656) (h63 : n ≤ 1099511627776) :
    ∃ w', (Instr.makeSlice t (.int .i64 (n : Int)) (.int .i64 (n : Int))).run P w = .ok (.slice (some ⟨w.heap.size, 0, none⟩) n n) w' ∧ w'.ownsRow w.heap.size e size (.slice (some ⟨w.heap.size, 0, none⟩) n n) n (madeCells z.cells (n * size)).toList ∧ Kp no w w' := by
  obtain ⟨i, h2, h3, h4, h5⟩ := info_at hi
  obtain ⟨w', hr, ho2, hg⟩ := run_makeSlice_full (P := P) w w.heap.size t e i z size ht h2 h3 h4 .i64 .i64 n hc (by rw [h5]; exact hby) (by unfold maxLen; omega) (Nat.le_refl _)
  exact ⟨w', hr, ho2, (Kp.refl no w).grown hg (fun k hk => by cases hk)⟩
theorem rep_u64s (q : Nat) : (madeCells (Value.int .u64 0).cells (q * 1)).toList = u64s (List.replicate q 0) := by
  rw [Nat.mul_one]
  exact (toList_madeCells_one (Value.int .u64 0) q).trans (by simp [u64s])
theorem RG.new {w W W' : World} {g g' B c2 p q b1 : Nat} {A2 : Option Addr}
    (X : As (W.ownsRow B 36 1 (.slice (some ⟨g, 0, none⟩) q q) q (u64s (List.replicate q 0)) ∧ Rd W (.slice A2 (sNew p).length c2) (sNew p).length (slCells (sNew p)) ∧ W.heap[b1]? = some (.cells #[.int .u64 0, .int .u64 0, .slice none 0 0, .bool false, .slice none 0 0, .int .i64 0] 104 (0, 0)) ∧ Kp no w W ∧ ∀ k, (Value.slice A2 (sNew p).length c2).ownBlock = some k → ¬ bb k)) (hB : w.heap.size ≤ B) (hg : g' = g) (hp1 : 1 ≤ p)
    (HS : As ((∀ i, bb i → i < w.heap.size) ∧ ∀ i, S i → i < w.heap.size)) (k3 : Kp (· = b1) W W') :
    RG bb S W' (.agg #[.int .u64 p, .int .u64 0, .slice (some ⟨g', 0, none⟩) q q, .bool false, .slice A2 (sNew p).length c2, .int .i64 q]) ⟨0, List.replicate q 0, false, sNew p⟩ := by
  obtain ⟨h1, h2, h3, h4, h5⟩ := X.out
  subst hg
  have hl : (sNew p).length = p := by simp [sNew]
  refine ⟨.slice (some ⟨g', 0, none⟩) q q, .slice A2 (sNew p).length c2, by simp [hl], ?_, h2.kp k3 (fun i hi e => rd_off h2 (by omega) h3 (ring_off _ _ _ _ _ _ (fun _ _ h => by cases h) (fun _ _ h => by cases h)) i hi e), fun k hk hs => ?_, h5⟩
  · have := Rd.of_own (or_kp h1 k3 (fun i hi e => by subst e; obtain ⟨cur, hc⟩ := or_bk h1 hi; rw [h3] at hc; injection hc with hc; injection hc with _ hc; exact absurd hc (by decide)))
    simpa using this
  · have := h1.lt k hk
    have := HS.out.2 k hs
    omega
set_option maxRecDepth 100000 in
set_option maxHeartbeats 6400000 in
theorem RNew13 (k : Int) (p q : Nat) (hp1 : 1 ≤ p) (hp : p ≤ 64) (hq : q ≤ 8) (hbb : ∀ k, bb k → k < w.heap.size) (hS : ∀ i, S i → i < w.heap.size) : Calls Try.prog 59 #[.agg #[.int .i64 k, .int .i64 p, .int .i64 q]] w fun e w' => ∃ vv, e = .returned vv ∧ RG bb S w' vv ⟨0, List.replicate q 0, false, sNew p⟩ ∧ Kp no w w' := by
  have HS := As.mk (And.intro hbb hS)
  clear hbb hS
  have hwq : IntKind.u64.wrap (p : Int) = (p : Int) := by rw [IntKind.wrap_u64]; omega
  go_enter Try.func59, Try.ntmps59
  go_wp2_with fail
  obtain ⟨m0, m1, hK, hsz⟩ := alloc2 (w := w) #[.int .i64 k, .int .i64 p, .int .i64 q] #[.int .u64 0, .int .u64 0, .slice none 0 0, .bool false, .slice none 0 0, .int .i64 0] 23 104
  generalize (w.alloc (.cells #[.int .i64 k, .int .i64 p, .int .i64 q] 23)).alloc (.cells #[.int .u64 0, .int .u64 0, .slice none 0 0, .bool false, .slice none 0 0, .int .i64 0] 104) = W at m0 m1 hK hsz ⊢
  have e1 : W.cell? ⟨w.heap.size, 1, none⟩ = some (.int .i64 p) := bk_cell m0 1
  have e2 : W.cell? ⟨w.heap.size, 2, none⟩ = some (.int .i64 q) := bk_cell m0 2
  have M := As.mk (And.intro m0 (And.intro m1 hK))
  have hb1 : w.heap.size + 1 < W.heap.size := by omega
  have hb0 : w.heap.size < W.heap.size := by omega
  clear m0 m1 hK
  obtain ⟨w1, hmk, own1, k1⟩ := make_run W.drew Try.underlying31 Try.infoU64 q (by omega) (by omega) (by omega)
  rw [rep_u64s] at own1
  have f1 : w1.cell? ⟨w.heap.size, 1, none⟩ = some (.int .i64 p) := bk_cell (bk_kp (st_drew M.out.1) k1 (fun x => x)) 1
  have f2 : w1.cell? ⟨w.heap.size, 2, none⟩ = some (.int .i64 q) := bk_cell (bk_kp (st_drew M.out.1) k1 (fun x => x)) 2
  have N1 := As.mk (And.intro own1 k1)
  have hw1 : W.heap.size ≤ w1.heap.size := k1.size
  clear own1 k1
  go_region_held3 (fun w' => w'.cell? ⟨w.heap.size, 1, none⟩ = some (.int .i64 p) ∧ w'.cell? ⟨w.heap.size, 2, none⟩ = some (.int .i64 q)) (first | (with_reducible exact ⟨e1, e2⟩) | (with_reducible exact ⟨f1, f2⟩) | (with_reducible exact ⟨g1, g2⟩) | (with_reducible exact ⟨i1, i2⟩) | (have hX0 := X0; exact ⟨bk_cell (cs := #[.int .i64 k, .int .i64 p, .int .i64 q]) (t := 23) (fr := (0, 0)) (by (with_reducible repeat (first | exact X0.out | refine st_drew ?_ | apply st_same | refine st_far (by omega) ?_ | (refine st_new ?_; (first | with_reducible rfl | assumption | (simp; done) | (simp; omega))) | refine st_alloc ?_))) 1, bk_cell (cs := #[.int .i64 k, .int .i64 p, .int .i64 q]) (t := 23) (fr := (0, 0)) (by (with_reducible repeat (first | exact X0.out | refine st_drew ?_ | apply st_same | refine st_far (by omega) ?_ | (refine st_new ?_; (first | with_reducible rfl | assumption | (simp; done) | (simp; omega))) | refine st_alloc ?_))) 2⟩) | go_keep)
    ((go_at_call 36; refine (RNew (R := q) bb p hp (fun b hb => by have := HS.out.1 b hb; first | omega | (rw [sz_drew]; omega))).mono ?_; rintro e w2 ⟨vv, rfl, ⟨vl, rfl, hrs, hfs⟩, k2⟩; obtain ⟨A2, c2, rfl, -⟩ := id hrs
      first
        | (have k2A : Kp no w1 w2 := (by with_reducible exact k2)
           have x0 := bk_kp (bk_kp (st_drew M.out.1) N1.out.2 (fun x => x)) k2A (fun x => x)
           have x1 := bk_kp (bk_kp (st_drew M.out.2.1) N1.out.2 (fun x => x)) k2A (fun x => x)
           have g1 : w2.cell? ⟨w.heap.size, 1, none⟩ = some (.int .i64 p) := bk_cell x0 1
           have g2 : w2.cell? ⟨w.heap.size, 2, none⟩ = some (.int .i64 q) := bk_cell x0 2
           have X := As.mk (And.intro (or_kp N1.out.1 k2A (fun _ _ x => x)) (And.intro hrs (And.intro x1 (And.intro ((kp_drew M.out.2.2).trans (N1.out.2.trans k2A)) hfs))))
           have y0 := bk_cell x1 0
           have z0 := bk_fz x1 0
           have y1 := bk_cell x1 1
           have z1 := bk_fz x1 1
           have y2 := bk_cell x1 2
           have z2 := bk_fz x1 2
           have y3 := bk_cell x1 3
           have z3 := bk_fz x1 3
           have y4 := bk_cell x1 4
           have z4 := bk_fz x1 4
           have y5 := bk_cell x1 5
           have z5 := bk_fz x1 5
           have X0 := As.mk x0
           clear x0 x1 k2 k2A hrs hfs)
        | (have x0 := bk_kp (st_drew M.out.1) k2 (fun x => x)
           have g1 : w2.cell? ⟨w.heap.size, 1, none⟩ = some (.int .i64 p) := bk_cell x0 1
           have g2 : w2.cell? ⟨w.heap.size, 2, none⟩ = some (.int .i64 q) := bk_cell x0 2
           obtain ⟨w3, hmk2, own3, k3⟩ := make_run w2 Try.underlying31 Try.infoU64 q (by omega) (by omega) (by omega)
           rw [rep_u64s] at own3
           have x2 := bk_kp x0 k3 (fun x => x)
           have x1 := bk_kp (bk_kp (st_drew M.out.2.1) k2 (fun x => x)) k3 (fun x => x)
           have i1 : w3.cell? ⟨w.heap.size, 1, none⟩ = some (.int .i64 p) := bk_cell x2 1
           have i2 : w3.cell? ⟨w.heap.size, 2, none⟩ = some (.int .i64 q) := bk_cell x2 2
           have hz2 := k2.size
           have X := As.mk (And.intro (or_base own3 hz2) (And.intro (hrs.kp k3 (fun _ _ x => x)) (And.intro x1 (And.intro ((kp_drew M.out.2.2).trans (k2.trans k3)) hfs))))
           have y0 := bk_cell x1 0
           have z0 := bk_fz x1 0
           have y1 := bk_cell x1 1
           have z1 := bk_fz x1 1
           have y2 := bk_cell x1 2
           have z2 := bk_fz x1 2
           have y3 := bk_cell x1 3
           have z3 := bk_fz x1 3
           have y4 := bk_cell x1 4
           have z4 := bk_fz x1 4
           have y5 := bk_cell x1 5
           have z5 := bk_fz x1 5
           have X0 := As.mk x2
           clear x0 x1 x2 k2 hrs hfs own3 k3)))
  all_goals (
    go_wp2
    refine bodyPost_ret (results_cell_row rfl _ _ (w.heap.size + 1) 104 _ (0, 0) _ rfl (by (with_reducible repeat (first | exact X.out.2.2.1 | refine st_drew ?_ | apply st_same | refine st_far (by omega) ?_ | (refine st_new ?_; (first | with_reducible rfl | assumption | (simp; done) | (simp; omega))) | refine st_alloc ?_))) Try.underlying104 rfl (by kernel_rfl)) rfl ?_
    refine (fun (k : Kp no w _) (k3 : Kp (· = w.heap.size + 1) _ _) => ⟨_, rfl, RG.new X (by have := M.out.2.2.size; first | omega | (rw [sz_drew]; omega)) (by first | rfl | (rw [sz_drew]; omega)) hp1 HS k3, k⟩) ?_ ?_
    · (with_reducible repeat (first | exact X.out.2.2.2.1 | refine kp_drew ?_ | refine kp_new (by omega) ?_ | refine kp_alloc ?_))
    · (with_reducible repeat (first | exact Kp.refl _ _ | refine kp_drew ?_ | refine kp_in (by first | exact rfl | exact Or.inl rfl | exact Or.inr rfl | exact Or.inr (Or.inl rfl) | exact Or.inr (Or.inr rfl)) ?_ | refine kp_new (by omega) ?_ | refine kp_alloc ?_)))
end Go.Proofs.Ytmejnhfggmmefaa.H
