/- Layer 13: plays, walked. No condition. -/
import Derived.Test.YtmejnhfggmmefaaL13P
namespace Go.Proofs.Ytmejnhfggmmefaa.H
open Go.RowKit Go.Sort
set_option linter.unusedVariables false
set_option linter.unusedSimpArgs false
variable {w : World} {B : RB} {r : Rg}

set_option maxRecDepth 100000 in
set_option maxHeartbeats 64000000 in
theorem plays13 {r0 : Rg} (h : RingIn w B r0) {e0 : Value} (T : Int) (hr : ∀ g4, w.heap.size ≤ g4 → RG (Sg B g4) (Sg B g4) w e0 r0) (O : List O12) (hO : ∀ o ∈ O, 0 ≤ o.t) (sb so c : Nat) (hl : O.length ≤ 200) (hsb : ¬ B.own sb) (hsl : sb < w.heap.size) (hT0 : r0.tail ≤ T) (hT : T + 200 < 9223372036854775807)
    (hs : ∀ j u, (oCells O)[j]? = some u → w.cell? ⟨sb, so + j, none⟩ = some u) :
    Calls Try.prog 58 #[.pointer (some ⟨B.g, 0, none⟩), e0, .slice (some ⟨sb, so, none⟩) O.length c] w fun e w' => e = .returned (.bool true) ∧ Kp B.own w w' := by
  obtain ⟨A1, c1, A2, c2, rfl⟩ := (hr _ (Nat.le_refl _)).form
  have HO := As.mk hO
  have hgn : ¬ B.own w.heap.size := fun hk => by have := h.glt _ hk; omega
  have HP : As (P13 w (w.alloc (.cells (rgA A1 c1 A2 c2 r0) 104)) B r0 (T + (0 : Nat)) w.heap.size O sb so A1 c1 A2 c2) := by
    have hK := (Kp.refl no w).alloc (.cells (rgA A1 c1 A2 c2 r0) 104)
    refine ⟨⟨h.kp hK (fun _ _ x => x), heap_alloc_new _ _, (hr _ (Nat.le_refl _)).kp hK (fun _ x => x.elim), fun j u hj => ?_, ?_, hgn, Nat.le_refl _, hsl, by simpa using hT0, hK.mono (fun _ x => x.elim)⟩⟩
    · have := hs j u hj
      rw [World.cell?_of_block (hK.block sb hsl (fun x => x))]; exact this
    · rintro (hk | rfl)
      · exact hsb hk
      · omega
  clear h hr hs hsb hsl hO hgn hT0
  unfold rgA at HP
  go_enter Try.func58, Try.ntmps58
  go_wp2_with fail
  generalize w.alloc (.cells #[.int .u64 r0.L.length, .int .u64 r0.tail, .slice A1 r0.heads.length c1, .bool r0.closed, .slice A2 r0.L.length c2, .int .i64 r0.heads.length] 104) = W at HP ⊢
  generalize w.heap.size = g4 at HP ⊢
  go_loopw [24] (fun v24 wr => ∃ (i : Nat) (r : Rg) (A1 : Option Addr) (c1 : Nat) (A2 : Option Addr) (c2 : Nat), i ≤ O.length ∧ v24 = .int .i64 i ∧ As (P13 w wr B r (T + i) g4 O sb so A1 c1 A2 c2)) (fun v24 _ => O.length - (intOf v24).toNat)
  case atStart => exact ⟨0, r0, A1, c1, A2, c2, Nat.zero_le _, rfl, HP⟩
  case round =>
    as_aux_lemma =>
      clear HP
      obtain ⟨i, r, A1, c1, A2, c2, hi, rfl, HP⟩ := hrel
      by_cases hlt : i < O.length
      · obtain ⟨ok, oj, t, ov, hOi, q0, q1, q2, q3⟩ := oCells_at HP.out.sc hlt
        have ht : 0 ≤ t := by have := HO.out _ (mem_getD hlt); rw [hOi] at this; exact this
        have HT := As.mk ht
        have HA := As.mk (HP.out.A (by omega))
        clear hOi ht
        go_upto_region 7 with fail
        obtain ⟨mo, hko⟩ := box1 (w := wr) #[.int .i64 ok, .int .i64 oj, .int .u64 t, .int .u64 ov] 89
        have hgo : ¬ Sg B g4 wr.heap.size := fun h => by have := HP.out.glt _ h; omega
        have HQ := As.mk (HP.out.kp hko)
        clear HP q0 q1 q2 q3
        generalize wr.alloc (.cells #[.int .i64 ok, .int .i64 oj, .int .u64 t, .int .u64 ov] 89) = W1 at mo HQ ⊢
        generalize wr.heap.size = go at mo hgo ⊢
        clear hko
        have MO := As.mk (And.intro mo hgo)
        have d0 := bk_cell mo
        have e0 := bk_cell HQ.out.box
        unfold rgA at e0
        have lo : go < W1.heap.size := bk_lt mo
        have lg : g4 < W1.heap.size := bk_lt HQ.out.box
        clear mo hgo
        have lo0 := As.mk lo
        have lg0 := As.mk lg
        go_wp2_with fail
        refine (RPublish_any HA.out (HQ.out.refAt (by (with_reducible repeat (first | exact Kp.refl no W1 | refine kp_drew ?_ | refine kp_new (by omega) ?_ | refine kp_alloc ?_)))).1 (HQ.out.refAt (by (with_reducible repeat (first | exact Kp.refl no W1 | refine kp_drew ?_ | refine kp_new (by omega) ?_ | refine kp_alloc ?_)))).2.1 HT.out).mono ?_
        rintro e W2 ⟨vv, rfl, hrg, kk⟩
        obtain ⟨B2, b2, D2, d2', rfl⟩ := hrg.form
        have K2 := As.mk (show Kp no W1 W2 from Kp.trans (by (with_reducible repeat (first | exact Kp.refl no W1 | refine kp_drew ?_ | refine kp_new (by omega) ?_ | refine kp_alloc ?_))) kk)
        clear hrg kk
        generalize (rPublish r t 0).2 = r2 at *
        clear d0 e0 lo lg
        have d0 := bk_cell (bk_kp MO.out.1 K2.out (fun x => x))
        have e0 := bk_cell (HQ.out.refAt K2.out).2.2.1
        unfold rgA at e0
        have lo : go < W2.heap.size := Nat.lt_of_lt_of_le lo0.out K2.out.size
        have lg : g4 < W2.heap.size := Nat.lt_of_lt_of_le lg0.out K2.out.size
        go_wp2_with fail
        refine (RRelease_any HA.out (HQ.out.refAt (by (with_reducible repeat (first | exact K2.out | refine kp_drew ?_ | refine kp_new (by omega) ?_ | refine kp_alloc ?_)))).1 (HQ.out.refAt (by (with_reducible repeat (first | exact K2.out | refine kp_drew ?_ | refine kp_new (by omega) ?_ | refine kp_alloc ?_)))).2.1 HT.out).mono ?_
        rintro e W3 ⟨vv, rfl, hrg, kk⟩
        obtain ⟨B3, b3, D3, d3', rfl⟩ := hrg.form
        have N3 : As (W3.heap[W2.heap.size]? = some (.cells (rgA B2 b2 D2 d2' r2) 104 (0, 0))) := ⟨bk_kp (by unfold rgA; (with_reducible repeat (first | exact absurd | refine st_drew ?_ | apply st_same | refine st_far (by omega) ?_ | (refine st_new ?_; (first | with_reducible rfl | assumption | (simp; done) | (simp; omega))) | refine st_alloc ?_))) kk (fun x => x)⟩
        have K3 := As.mk (show Kp no W1 W3 from Kp.trans (by (with_reducible repeat (first | exact K2.out | refine kp_drew ?_ | refine kp_new (by omega) ?_ | refine kp_alloc ?_))) kk)
        clear hrg kk
        generalize (rRelease r oj t).2.2 = r3 at *
        clear d0 e0 lo lg
        have d0 := bk_cell (bk_kp MO.out.1 K3.out (fun x => x))
        have e0 := bk_cell (HQ.out.refAt K3.out).2.2.1
        unfold rgA at e0
        have lo : go < W3.heap.size := Nat.lt_of_lt_of_le lo0.out K3.out.size
        have lg : g4 < W3.heap.size := Nat.lt_of_lt_of_le lg0.out K3.out.size
        go_wp2_with fail
        refine (RTake_any HA.out (HQ.out.refAt (by (with_reducible repeat (first | exact K3.out | refine kp_drew ?_ | refine kp_new (by omega) ?_ | refine kp_alloc ?_)))).1 (HQ.out.refAt (by (with_reducible repeat (first | exact K3.out | refine kp_drew ?_ | refine kp_new (by omega) ?_ | refine kp_alloc ?_)))).2.1).mono ?_
        rintro e W4 ⟨vv, rfl, hrg, kk⟩
        obtain ⟨B4, b4, D4, d4', rfl⟩ := hrg.form
        have N4 : As (W4.heap[W2.heap.size]? = some (.cells (rgA B2 b2 D2 d2' r2) 104 (0, 0))) := ⟨bk_kp (by (with_reducible repeat (first | exact N3.out | refine st_drew ?_ | apply st_same | refine st_far (by omega) ?_ | (refine st_new ?_; (first | with_reducible rfl | assumption | (simp; done) | (simp; omega))) | refine st_alloc ?_))) kk (fun x => x)⟩
        clear N3
        have K4 := As.mk (show Kp no W1 W4 from Kp.trans (by (with_reducible repeat (first | exact K3.out | refine kp_drew ?_ | refine kp_new (by omega) ?_ | refine kp_alloc ?_))) kk)
        clear hrg kk
        generalize (rTake r oj).2.2 = r4 at *
        clear d0 e0 lo lg
        have d0 := bk_cell (bk_kp MO.out.1 K4.out (fun x => x))
        have e0 := bk_cell (HQ.out.refAt K4.out).2.2.1
        unfold rgA at e0
        have lo : go < W4.heap.size := Nat.lt_of_lt_of_le lo0.out K4.out.size
        have lg : g4 < W4.heap.size := Nat.lt_of_lt_of_le lg0.out K4.out.size
        have hf := rpub_free' r t 0
        have hh := rrel_has r oj t
        have he := rtake_empty r oj
        generalize (rPublish r t 0).1 = kp at hf ⊢
        generalize (rRelease r oj t).2.1 = kr at hh ⊢
        generalize (rRelease r oj t).1 = xr at ⊢
        generalize (rTake r oj).2.1 = kt at he ⊢
        generalize (rTake r oj).1 = xt at ⊢
        have HE := As.mk (And.intro hf (And.intro hh he))
        clear hf hh he
        go_upto_region 11 with fail
        have l2 := As.mk (show g4 < W2.heap.size ∧ go < W2.heap.size ∧ W1.heap.size ≤ W2.heap.size from ⟨Nat.lt_of_lt_of_le lg0.out K2.out.size, Nat.lt_of_lt_of_le lo0.out K2.out.size, K2.out.size⟩)
        generalize W2.heap.size = n14 at N4 l2 ⊢
        obtain ⟨hdv, hHD⟩ : ∃ x, x = (if rIs r oj = true then rHead r oj else 0) := ⟨_, rfl⟩
        have HD := As.mk hHD
        obtain ⟨isj, hIS⟩ : ∃ x, x = rIs r oj := ⟨_, rfl⟩
        have HI := As.mk hIS
        clear hHD hIS
        have k9 : As (Kp no W1 (W4.alloc (.cells #[.int .u64 r4.L.length, .int .u64 r4.tail, .slice B4 r4.heads.length b4, .bool r4.closed, .slice D4 r4.L.length d4', .int .i64 r4.heads.length] 104))) := ⟨by (with_reducible repeat (first | exact K4.out | refine kp_drew ?_ | refine kp_new (by omega) ?_ | refine kp_alloc ?_))⟩
        have n9 : As ((W4.alloc (.cells #[.int .u64 r4.L.length, .int .u64 r4.tail, .slice B4 r4.heads.length b4, .bool r4.closed, .slice D4 r4.L.length d4', .int .i64 r4.heads.length] 104)).heap[n14]? = some (.cells (rgA B2 b2 D2 d2' r2) 104 (0, 0))) := ⟨by (with_reducible repeat (first | exact N4.out | refine st_drew ?_ | apply st_same | refine st_far (by omega) ?_ | (refine st_new ?_; (first | with_reducible rfl | assumption | (simp; done) | (simp; omega))) | refine st_alloc ?_))⟩
        go_cut [63] from 53 to 63 (fun s63 wx => s63 = .bool isj ∧ As (Kp no W1 wx) ∧ As (wx.heap[n14]? = some (.cells (rgA B2 b2 D2 d2' r2) 104 (0, 0))))
        case first =>
          as_aux_lemma =>
            by_cases j0 : 0 ≤ oj
            · have hd1 : decide (0 ≤ oj) = true := decide_eq_true j0
              have hv : isj = decide (oj < (r.heads.length : Int)) := by rw [HI.out]; unfold rIs; rw [hd1, Bool.true_and]
              have HV := As.mk hv
              clear hv
              go_wp2
              go_meet
              exact ⟨by rw [HV.out], k9, n9⟩
            · have hd2 : decide (0 ≤ oj) = false := decide_eq_false j0
              have hv : isj = false := by rw [HI.out]; unfold rIs; rw [hd2, Bool.false_and]
              subst hv
              clear j0
              go_wp2
              go_meet
              exact ⟨rfl, k9, n9⟩
        case rest =>
          as_aux_lemma =>
            clear K2 K3 K4 N4 d0 e0 lo lg k9 n9
            obtain ⟨rfl, k4, n4⟩ := hcut
            go_upto_if 63 with fail
            go_cut [21] from 64 to 69 (fun s21 wx => s21 = .int .u64 hdv ∧ As (Kp no W1 wx) ∧ As (wx.heap[n14]? = some (.cells (rgA B2 b2 D2 d2' r2) 104 (0, 0))))
            case first =>
              as_aux_lemma =>
                cases isj with
                | true =>
                  have hi := HI.out
                  have hj : 0 ≤ oj ∧ oj < (r.heads.length : Int) := by simpa [rIs] using hi.symm
                  obtain ⟨j0, j1⟩ := hj
                  obtain ⟨k, rfl⟩ := Int.eq_ofNat_of_zero_le j0
                  have hk : k < r.heads.length := by omega
                  obtain ⟨gh, ho, rfl, hgl, hcc⟩ := HQ.out.headAt hk
                  have hc := hcc _ k4.out
                  have hv : r.heads.getD k 0 = hdv := by rw [HD.out, if_pos hi.symm]; unfold rHead; simp
                  rw [hv] at hc
                  have h8 := HQ.out.R.s.hR
                  have hb := bk_cell (HQ.out.refAt k4.out).2.2.1 2
                  unfold rgA at hb
                  have d1 := bk_cell (bk_kp MO.out.1 k4.out (fun x => x)) 1
                  clear hcc hi hv hgl
                  go_wp2
                  go_meet
                  exact ⟨rfl, k4, n4⟩
                | false =>
                  have hv : hdv = 0 := by rw [HD.out, if_neg (by rw [← HI.out]; decide)]
                  subst hv
                  go_wp2
                  go_meet
                  exact ⟨rfl, k4, n4⟩
            case rest =>
              as_aux_lemma =>
                obtain ⟨rfl, k5, n5⟩ := hcut
                clear k4 n4
                have HR := As.mk (HQ.out.grown k5.out)
                have HG := As.mk (HQ.out.grownG k5.out)
                have hb := bk_cell (HQ.out.refAt k5.out).2.2.1
                unfold rgA at hb
                have x0 := cell_grow (hb 0)
                have x1 := cell_grow (hb 1)
                have x2 := cell_grow (hb 2)
                have x3 := cell_grow (hb 3)
                have x4 := cell_grow (hb 4)
                have x5 := cell_grow (hb 5)
                have hd := bk_cell (bk_kp MO.out.1 k5.out (fun x => x))
                have y1 := cell_grow (hd 1)
                have y2 := cell_grow (hd 2)
                have hf := HE.out.1
                have hh := HE.out.2.1
                have he := HE.out.2.2
                clear hb hd
                go_upto_region 13 with fail
                refine reg_kp (by kernel_rfl) (by kernel_rfl) ?_
                repeat (go_big_quiet_step (first
                  | (go_at_call 64; exact kq_same (Tail_any (HR.out _ _)))
                  | (go_at_call 65; exact kq_same (HD.out ▸ Head_any (HR.out _ _) oj))
                  | (go_at_call 66; exact kq_same (Closed_any (HR.out _ _)))
                  | (go_at_call 63; exact kq_qd (Full_any (HR.out _ _)))
                  | (go_at_call 86; exact kq_of (RFull_any HA.out (HG.out _ _)))
                  | (go_at_call 55; exact kq_qd (Empty_any (HR.out _ _) oj))
                  | (go_at_call 43; exact kq_qd (RFree_any (HR.out _ _) HT.out))
                  | (go_at_call 44; exact kq_qd (RHas_any (HR.out _ _) HT.out oj))))
                refine wpQuiet_nil ?_
                intro w6 k6
                have K6 := As.mk (k5.out.trans k6)
                have HQ6 := As.mk (HQ.out.kp (k5.out.trans k6))
                have N6 := As.mk (bk_kp n5.out k6 (fun x => x))
                have MO6 := As.mk (bk_kp MO.out.1 (k5.out.trans k6) (fun x => x))
                have d0 := bk_cell MO6.out
                have hkm := kd_tmod ⟨ok, oj, t, ov⟩
                change Int.tmod (IntKind.u64.wrap ok) 5 = _ at hkm
                have hkl := kd_le ⟨ok, oj, t, ov⟩
                have htl := rDo_tail r ⟨ok, oj, t, ov⟩
                have htl2 := HQ.out.tl
                have HTL := As.mk (show (rDo r ⟨ok, oj, t, ov⟩).2.2.tail ≤ T + ((i + 1 : Nat) : Int) from by push_cast; omega)
                have HD2 := As.mk (show rDo r ⟨ok, oj, t, ov⟩ = rDo r ⟨ok, oj, t, ov⟩ from rfl)
                clear k5 n5 k6 htl htl2 hf hh he HR HG x0 x1 x2 x3 x4 x5 y1 y2
                generalize hqd : kd ⟨ok, oj, t, ov⟩ = qd at hkm hkl
                have HQD := As.mk hqd
                clear hqd
                obtain ⟨xr', er', r', hX⟩ : ∃ x e r', (x, e, r') = rDo r ⟨ok, oj, t, ov⟩ := ⟨_, _, _, rfl⟩
                have HX := As.mk hX
                clear hX HD2
                go_upto_block 2 with fail
                go_cut [9, 10, 11, 12] from 131 to 202 (fun s9 s10 s11 s12 wx => s9 = .int .u64 xr' ∧ s10 = .int .u64 xr' ∧ s11 = .int .i64 er' ∧ s12 = .int .i64 er' ∧ As (∃ A1 c1 A2 c2, P13 w wx B r' (T + ((i + 1 : Nat) : Int)) g4 O sb so A1 c1 A2 c2))
                case first =>
                  as_aux_lemma =>
                    rcases (show qd = 0 ∨ qd = 1 ∨ qd = 2 ∨ qd = 3 ∨ qd = 4 by omega) with rfl | rfl | rfl | rfl | rfl
                    · have hC : (xr', er', r') = (rClaim r) := HX.out.trans (by have := HQD.out; unfold rDo; simp only [this]; rfl)
                      have g1 : (rClaim r).1 = xr' := by rw [← hC]
                      have g2 : (rClaim r).2.1 = er' := by rw [← hC]
                      have g3 : (rClaim r).2.2 = r' := by rw [← hC]
                      clear hC hkl
                      go_wp2_with fail
                      refine (Claim_any HQ6.out.R (by have := HA.out.t1; omega)).mono ?_
                      rintro e wa ⟨rfl, Ra, ka⟩
                      rw [g1, g2]
                      rw [g3] at Ra
                      have hm := HQ6.out.mid ka
                      have e0 := bk_cell hm.2.1
                      unfold rgA at e0
                      have d0 := bk_cell (bk_kp MO6.out ka (fun h => MO.out.2 (.inl h)))
                      have HRa := As.mk (And.intro Ra (And.intro ka hm))
                      clear Ra ka hm
                      go_wp2_with fail
                      refine (RClaim_any HA.out HRa.out.2.2.1 ).mono ?_
                      rintro e wb ⟨vv, rfl, hrg, kb⟩
                      rw [g1, g2]
                      rw [g3] at hrg
                      obtain ⟨B9, b9, D9, d9, rfl⟩ := hrg.form
                      have hbx := bk_kp HRa.out.2.2.2.1 kb (fun x => x)
                      have e0 := bk_cell hbx
                      unfold rgA at e0
                      have z0 := bk_fz hbx
                      have HS := As.mk (And.intro hrg (And.intro kb hbx))
                      clear hrg kb hbx g1 g2 g3
                      go_wp2
                      go_meet
                      exact ⟨rfl, rfl, rfl, rfl, ⟨⟨_, _, _, _, HQ6.out.next HRa.out.2.1 HRa.out.1 HS.out.2.1 HS.out.1 (fun _ h => h) HQ6.out.one (by (with_reducible repeat (first | exact Kp.refl _ wb | refine kp_drew ?_ | refine kp_in (by first | exact rfl | exact Or.inl rfl | exact Or.inr rfl | exact Or.inr (Or.inl rfl) | exact Or.inr (Or.inr rfl)) ?_ | refine kp_new (by omega) ?_ | refine kp_alloc ?_))) (by (with_reducible repeat (first | exact HS.out.2.2 | refine st_drew ?_ | apply st_same | refine st_far (by omega) ?_ | (refine st_new ?_; (first | with_reducible rfl | assumption | (simp; done) | (simp; omega))) | refine st_alloc ?_))) (by rfl) (by have := HTL.out; rw [← HX.out] at this; exact this)⟩⟩⟩
                    · have hC : (xr', er', r') = (0, (rPublish r t ov).1, (rPublish r t ov).2) := HX.out.trans (by have := HQD.out; unfold rDo; simp only [this]; rfl)
                      have g1 : xr' = 0 := by injection hC
                      have g2 : (rPublish r t ov).1 = er' := by injection hC with _ hC; injection hC with hC _; exact hC.symm
                      have g3 : (rPublish r t ov).2 = r' := by injection hC with _ hC; injection hC with _ hC; exact hC.symm
                      have HX1 := As.mk g1
                      clear hC hkl g1
                      have hn14 : ¬ Sg B g4 n14 := fun hh => by have := HQ.out.glt _ hh; have := l2.out; omega
                      have hg14 : ¬ n14 = g4 := by have := l2.out; omega
                      have hg41 : ¬ g4 = n14 := fun e => hg14 e.symm
                      have HN14 := As.mk hn14
                      clear hn14
                      go_wp2_with fail
                      refine (Publish_any HQ6.out.R HT.out).mono ?_
                      rintro e wa ⟨rfl, Ra, ka⟩
                      rw [g2]
                      rw [g3] at Ra
                      have hm := HQ6.out.mid ka
                      have e0 := bk_cell hm.2.1
                      unfold rgA at e0
                      have d0 := bk_cell (bk_kp MO6.out ka (fun h => MO.out.2 (.inl h)))
                      have hm2 : RG (fun i => Sg B g4 i ∨ i = n14) (fun i => Sg B g4 i ∨ i = n14) wa (.agg (rgA A1 c1 A2 c2 r)) r := by
                        have q := (HQ.out.ref.more HA.out.s.pos HA.out.n0 (S' := fun i => Sg B g4 i ∨ i = n14) (fun i hi => by rcases hi with hi | rfl; exact .inl hi; exact .inr l2.out.2.2)).kp K6.out (fun _ x => x.elim)
                        exact q.kp ka (fun i hi => ⟨.inl (.inl hi), .inl (.inl hi)⟩)
                      have hn := bk_kp N6.out ka (fun h => HN14.out (.inl h))
                      have HRa := As.mk (And.intro Ra (And.intro ka (And.intro hm (And.intro hm2 hn))))
                      have hlt9 : ∀ i, Sg B g4 i ∨ i = n14 → i < wa.heap.size := fun i hi => by
                        rcases hi with hi | rfl
                        · exact hm.2.2 i hi
                        · exact bk_lt hn
                      clear Ra ka hm hm2 hn
                      go_wp2_with fail
                      refine (RPublish_any HA.out HRa.out.2.2.2.1 hlt9 HT.out).mono ?_
                      rintro e wb ⟨vv, rfl, hrg, kb⟩
                      rw [g2]
                      rw [g3] at hrg
                      obtain ⟨B9, b9, D9, d9, rfl⟩ := hrg.form
                      have hbx := bk_kp HRa.out.2.2.1.2.1 kb (fun x => x)
                      have hnx := bk_kp HRa.out.2.2.2.2 kb (fun x => x)
                      have e1 := bk_cell hnx
                      unfold rgA at e1
                      have z1 := bk_fz hnx
                      obtain ⟨q1, q2⟩ := set6 (.int .u64 r'.L.length) (.int .u64 r'.tail) (.slice B9 r'.heads.length b9) (.bool r'.closed) (.slice D9 r'.L.length d9) (.int .i64 r'.heads.length) hnx
                      have q3 := bk_kp hbx q2 hg41
                      have q4 : Kp (fun i => i = g4 ∨ i = n14) wb _ := q2.mono (fun _ h => Or.inr h)
                      have HS := As.mk (And.intro hrg (And.intro kb (And.intro q1 (And.intro q4 q3))))
                      clear hrg kb hbx hnx g2 g3 hlt9 q1 q2 q3 q4 e0
                      go_upto_region 24 with fail
                      clear e1 z1
                      generalize ((((((wb.setCell ⟨n14, 0, none⟩ (.int .u64 r'.L.length)).setCell ⟨n14, 1, none⟩ (.int .u64 r'.tail)).setCell ⟨n14, 2, none⟩ (.slice B9 r'.heads.length b9)).setCell ⟨n14, 3, none⟩ (.bool r'.closed)).setCell ⟨n14, 4, none⟩ (.slice D9 r'.L.length d9)).setCell ⟨n14, 5, none⟩ (.int .i64 r'.heads.length)) = W10 at HS ⊢
                      have e0 := bk_cell HS.out.2.2.2.2
                      unfold rgA at e0
                      have z0 := bk_fz HS.out.2.2.2.2
                      iterate 2 (first | go_values | go_step)
                      refine wp_loadRow (.tmp 14) 104 rfl rfl HS.out.2.2.1 Try.underlying104 rfl (by kernel_rfl) ?_
                      simp only [Act.put, List.setIfInBounds_toArray, List.set_cons_zero, List.set_cons_succ]
                      iterate 2 (first | go_values | go_step)
                      refine wp_store_row 104 (.tmp 4) (.tmp 164) rfl g4 #[.int .u64 r'.L.length, .int .u64 r'.tail, .slice B9 r'.heads.length b9, .bool r'.closed, .slice D9 r'.L.length d9, .int .i64 r'.heads.length] rfl rfl 104 _ HS.out.2.2.2.2 (by kernel_rfl) rfl (by simp [Value.oneCell']) ?_
                      simp only [Act.put]
                      go_wp2
                      go_meet
                      exact ⟨by rw [HX1.out], by rw [HX1.out], rfl, rfl, ⟨⟨_, _, _, _, HQ6.out.next (Sc := fun i => i = g4 ∨ i = n14) HRa.out.2.1 HRa.out.1 HS.out.2.1 HS.out.1 (fun _ h => .inl h) (fun i hi => by
                        rcases hi with rfl | rfl
                        · exact ⟨.inl (.inr rfl), HQ6.out.gn, fun e => HQ6.out.sbn (.inr e.symm), HQ6.out.g0⟩
                        · exact ⟨.inr rfl, fun h => HN14.out (.inl h), fun e => by have := HQ6.out.slt; have := l2.out; have := HQ.out.K.size; omega, by have := l2.out; have := HQ.out.K.size; omega⟩) (setRow_kp (.inl rfl) HS.out.2.2.2.1) (setRow_heap HS.out.2.2.2.2) (by rfl) (by have := HTL.out; rw [← HX.out] at this; exact this)⟩⟩⟩
                    · have hC : (xr', er', r') = (rTake r oj) := HX.out.trans (by have := HQD.out; unfold rDo; simp only [this]; rfl)
                      have g1 : (rTake r oj).1 = xr' := by rw [← hC]
                      have g2 : (rTake r oj).2.1 = er' := by rw [← hC]
                      have g3 : (rTake r oj).2.2 = r' := by rw [← hC]
                      clear hC hkl
                      go_wp2_with fail
                      refine (Take_any HQ6.out.R oj).mono ?_
                      rintro e wa ⟨rfl, Ra, ka⟩
                      rw [g1, g2]
                      rw [g3] at Ra
                      have hm := HQ6.out.mid ka
                      have e0 := bk_cell hm.2.1
                      unfold rgA at e0
                      have d0 := bk_cell (bk_kp MO6.out ka (fun h => MO.out.2 (.inl h)))
                      have HRa := As.mk (And.intro Ra (And.intro ka hm))
                      clear Ra ka hm
                      go_wp2_with fail
                      refine (RTake_any HA.out HRa.out.2.2.1 HRa.out.2.2.2.2).mono ?_
                      rintro e wb ⟨vv, rfl, hrg, kb⟩
                      rw [g1, g2]
                      rw [g3] at hrg
                      obtain ⟨B9, b9, D9, d9, rfl⟩ := hrg.form
                      have hbx := bk_kp HRa.out.2.2.2.1 kb (fun x => x)
                      have e0 := bk_cell hbx
                      unfold rgA at e0
                      have z0 := bk_fz hbx
                      have HS := As.mk (And.intro hrg (And.intro kb hbx))
                      clear hrg kb hbx g1 g2 g3
                      go_wp2
                      go_meet
                      exact ⟨rfl, rfl, rfl, rfl, ⟨⟨_, _, _, _, HQ6.out.next HRa.out.2.1 HRa.out.1 HS.out.2.1 HS.out.1 (fun _ h => h) HQ6.out.one (by (with_reducible repeat (first | exact Kp.refl _ wb | refine kp_drew ?_ | refine kp_in (by first | exact rfl | exact Or.inl rfl | exact Or.inr rfl | exact Or.inr (Or.inl rfl) | exact Or.inr (Or.inr rfl)) ?_ | refine kp_new (by omega) ?_ | refine kp_alloc ?_))) (by (with_reducible repeat (first | exact HS.out.2.2 | refine st_drew ?_ | apply st_same | refine st_far (by omega) ?_ | (refine st_new ?_; (first | with_reducible rfl | assumption | (simp; done) | (simp; omega))) | refine st_alloc ?_))) (by rfl) (by have := HTL.out; rw [← HX.out] at this; exact this)⟩⟩⟩
                    · have hC : (xr', er', r') = (rRelease r oj t) := HX.out.trans (by have := HQD.out; unfold rDo; simp only [this]; rfl)
                      have g1 : (rRelease r oj t).1 = xr' := by rw [← hC]
                      have g2 : (rRelease r oj t).2.1 = er' := by rw [← hC]
                      have g3 : (rRelease r oj t).2.2 = r' := by rw [← hC]
                      clear hC hkl
                      go_wp2_with fail
                      refine (Release_any HQ6.out.R HT.out oj).mono ?_
                      rintro e wa ⟨rfl, Ra, ka⟩
                      rw [g1, g2]
                      rw [g3] at Ra
                      have hm := HQ6.out.mid ka
                      have e0 := bk_cell hm.2.1
                      unfold rgA at e0
                      have d0 := bk_cell (bk_kp MO6.out ka (fun h => MO.out.2 (.inl h)))
                      have HRa := As.mk (And.intro Ra (And.intro ka hm))
                      clear Ra ka hm
                      go_wp2_with fail
                      refine (RRelease_any HA.out HRa.out.2.2.1 HRa.out.2.2.2.2 HT.out).mono ?_
                      rintro e wb ⟨vv, rfl, hrg, kb⟩
                      rw [g1, g2]
                      rw [g3] at hrg
                      obtain ⟨B9, b9, D9, d9, rfl⟩ := hrg.form
                      have hbx := bk_kp HRa.out.2.2.2.1 kb (fun x => x)
                      have e0 := bk_cell hbx
                      unfold rgA at e0
                      have z0 := bk_fz hbx
                      have HS := As.mk (And.intro hrg (And.intro kb hbx))
                      clear hrg kb hbx g1 g2 g3
                      go_wp2
                      go_meet
                      exact ⟨rfl, rfl, rfl, rfl, ⟨⟨_, _, _, _, HQ6.out.next HRa.out.2.1 HRa.out.1 HS.out.2.1 HS.out.1 (fun _ h => h) HQ6.out.one (by (with_reducible repeat (first | exact Kp.refl _ wb | refine kp_drew ?_ | refine kp_in (by first | exact rfl | exact Or.inl rfl | exact Or.inr rfl | exact Or.inr (Or.inl rfl) | exact Or.inr (Or.inr rfl)) ?_ | refine kp_new (by omega) ?_ | refine kp_alloc ?_))) (by (with_reducible repeat (first | exact HS.out.2.2 | refine st_drew ?_ | apply st_same | refine st_far (by omega) ?_ | (refine st_new ?_; (first | with_reducible rfl | assumption | (simp; done) | (simp; omega))) | refine st_alloc ?_))) (by rfl) (by have := HTL.out; rw [← HX.out] at this; exact this)⟩⟩⟩
                    · have hC : (xr', er', r') = (0, 0, { r with closed := true }) := HX.out.trans (by have := HQD.out; unfold rDo; simp only [this]; rfl)
                      have g1 : xr' = 0 := by injection hC
                      have g2 : er' = 0 := by injection hC with _ hC; injection hC
                      have g3 : r' = { r with closed := true } := by injection hC with _ hC; injection hC
                      have HX1 := As.mk (And.intro g1 (And.intro g2 g3))
                      clear hC hkl g1 g2 g3
                      go_wp2_with fail
                      refine (Close_any HQ6.out.R).mono ?_
                      rintro e wa ⟨rfl, Ra, ka⟩
                      have hm := HQ6.out.mid ka
                      have e0 := bk_cell hm.2.1
                      unfold rgA at e0
                      have z0 := bk_fz hm.2.1
                      have HRa := As.mk (And.intro Ra (And.intro ka hm))
                      clear Ra ka hm
                      go_wp2
                      go_meet
                      exact ⟨by rw [HX1.out.1], by rw [HX1.out.1], by rw [HX1.out.2.1], by rw [HX1.out.2.1], ⟨⟨_, _, _, _, by
                        rw [HX1.out.2.2]
                        exact HQ6.out.next HRa.out.2.1 HRa.out.1 (Kp.refl no _) HRa.out.2.2.1.close (fun _ h => h) HQ6.out.one (by (with_reducible repeat (first | exact Kp.refl _ wa | refine kp_drew ?_ | refine kp_in (by first | exact rfl | exact Or.inl rfl | exact Or.inr rfl | exact Or.inr (Or.inl rfl) | exact Or.inr (Or.inr rfl)) ?_ | refine kp_new (by omega) ?_ | refine kp_alloc ?_))) (by (with_reducible repeat (first | exact HRa.out.2.2.2.1 | refine st_drew ?_ | apply st_same | refine st_far (by omega) ?_ | (refine st_new ?_; (first | with_reducible rfl | assumption | (simp; done) | (simp; omega))) | refine st_alloc ?_))) (by rfl) (by have := HTL.out; rw [← HX.out, HX1.out.2.2] at this; exact this)⟩⟩⟩
                case rest =>
                  as_aux_lemma =>
                    obtain ⟨rfl, rfl, rfl, rfl, HF⟩ := hcut
                    clear HQ6 N6 MO6 d0 hkm hkl
                    obtain ⟨⟨A1, c1, A2, c2, hF⟩⟩ := HF
                    have HF := As.mk hF
                    clear hF
                    have HA2 := As.mk (HF.out.A (by omega))
                    have b := HF.out.cells
                    obtain ⟨b0, b1, b2, b3, b4, b5⟩ := b
                    clear HQ l2 HX HTL HQD HD HI HE
                    go_upto_region 31 with fail
                    go_region_held3 (fun w' => w'.cell? ⟨g4, 0, none⟩ = some (.int .u64 r'.L.length) ∧ w'.cell? ⟨g4, 1, none⟩ = some (.int .u64 r'.tail) ∧ w'.cell? ⟨g4, 2, none⟩ = some (.slice A1 r'.heads.length c1) ∧ w'.cell? ⟨g4, 3, none⟩ = some (.bool r'.closed) ∧ w'.cell? ⟨g4, 4, none⟩ = some (.slice A2 r'.L.length c2) ∧ w'.cell? ⟨g4, 5, none⟩ = some (.int .i64 r'.heads.length)) (first | (with_reducible exact ⟨b0, b1, b2, b3, b4, b5⟩) | (with_reducible exact ⟨f0, f1, f2, f3, f4, f5⟩) | (with_reducible exact ⟨g0, g1, g2, g3, g4', g5⟩) | (with_reducible exact ⟨k0, k1, k2, k3, k4, k5⟩) | go_keep)
                      ((first
                        | (go_at_call 49; refine (State_any (HF.out.R.qd (QD.drew _))).mono ?_; rintro e w7 ⟨v1, v2, rfl, o1, o2, k7⟩; have H7 := As.mk ((HF.out.kp (Kp.of_qd (QD.drew _))).kp k7); obtain ⟨f0, f1, f2, f3, f4, f5⟩ := H7.out.cells; have O7 := As.mk (And.intro o1 o2); clear o1 o2 k7 b0 b1 b2 b3 b4 b5)
                        | (go_at_call 60; refine (RState_any HA2.out H7.out.ref).mono ?_; rintro e w8 ⟨z1, z2, rfl, p1, p2, k8⟩; have H8 := As.mk (H7.out.kp k8); obtain ⟨g0, g1, g2, g3, g4', g5⟩ := H8.out.cells; have O8 := As.mk (And.intro (or_kp O7.out.1 k8 (fun _ _ x => x)) (And.intro (or_kp O7.out.2 k8 (fun _ _ x => x)) (And.intro p1 p2))); clear p1 p2 k8 f0 f1 f2 f3 f4 f5)
                        | (go_at_call 57; refine (RSame13 (r := r') (Rd.of_own O8.out.1) (Rd.of_own O8.out.2.1) (Rd.of_own O8.out.2.2.1) (Rd.of_own O8.out.2.2.2) HA2.out.n0 HA2.out.s.hR HA2.out.s.pos HA2.out.s.le).mono ?_; rintro e w9 ⟨rfl, k9⟩; have H9 := As.mk (H8.out.kp k9); obtain ⟨k0, k1, k2, k3, k4, k5⟩ := H9.out.cells; clear k9 g0 g1 g2 g3 g4' g5)))
                    go_wp2
                    exact ⟨⟨i + 1, r', A1, c1, A2, c2, by omega, by go_num, H9⟩, by simp [intOf]; omega⟩
      · go_wp2
        go_ret
        exact ⟨rfl, HP.out.K⟩
end Go.Proofs.Ytmejnhfggmmefaa.H
