/- Layer 14: ModelPlays: whatever is put, got and closed, in whatever order, each answer, and what is left, is the reference's. No condition. -/
import Derived.Test.YtmejnhfggmmefaaR14B
import Derived.Test.YtmejnhfggmmefaaL14B
namespace Go.Proofs.Ytmejnhfggmmefaa.H
open Go.RowKit
set_option linter.unusedVariables false
set_option linter.unusedSimpArgs false
variable {w : World}


/-- What holds in a round. -/
structure F14 (W wr : World) (G : Nat) (B : MB) (m : Md) (g7 : Nat) (vl vg : Value) (i : Nat) : Prop where
  M : MdNew W wr B m
  gG : G = B.g
  box : wr.heap[g7]? = some (.cells #[.int .i64 m.most, vl, vg, .bool m.closed] 34 (0, 0))
  ref : RM W wr B.own (.agg #[.int .i64 m.most, vl, vg, .bool m.closed]) m
  n7 : ¬ B.own g7
  le : m.l.length ≤ i
theorem F14.kp {W w w' : World} {G : Nat} {B : MB} {m : Md} {g7 : Nat} {vl vg : Value} {i : Nat} (h : F14 W w G B m g7 vl vg i) (k : Kp no w w') : F14 W w' G B m g7 vl vg i :=
  ⟨h.M.kp k, h.gG, bk_kp h.box k (fun x => x), h.ref.kp k (fun _ x => x.elim), h.n7, h.le⟩
theorem F14.ra {W w : World} {G : Nat} {B : MB} {m : Md} {g7 : Nat} {vl vg : Value} {i : Nat} (h : F14 W w G B m g7 vl vg i) (hi : i ≤ 1000) : RA14 m :=
  ⟨h.M.i.n0, h.M.i.n8, by have := h.le; omega, h.M.i.m0, h.M.i.m1, h.M.i.h0⟩
/-- .. behind the program's call, the reference's, and the copy of what it gave. -/
theorem F14.next {W w2 : World} {G : Nat} {B2 : MB} {m' : Md} {g7 : Nat} {vl vg : Value} {a b c d : Value} {i : Nat} (hM : MdNew W w2 B2 m') (hg : G = B2.g) (hb : w2.heap[g7]? = some (.cells #[a, b, c, d] 34 (0, 0))) (hr : RM W w2 B2.own (.agg #[.int .i64 m'.most, vl, vg, .bool m'.closed]) m') (h7 : ¬ B2.own g7) (hw : W.heap.size ≤ g7) (hl : m'.l.length ≤ i) :
    F14 W ((((w2.setCell ⟨g7, 0, none⟩ (.int .i64 m'.most)).setCell ⟨g7, 1, none⟩ vl).setCell ⟨g7, 2, none⟩ vg).setCell ⟨g7, 3, none⟩ (.bool m'.closed)) G B2 m' g7 vl vg i := by
  obtain ⟨q1, q2, q3⟩ := tell4 (w := W) (.int .i64 m'.most) vl vg (.bool m'.closed) hb hM.K hw
  obtain ⟨vl', vg', e, h1, h2, h3, h4⟩ := hr
  have e2 : vl = vl' ∧ vg = vg' := by simpa using e
  obtain ⟨rfl, rfl⟩ := e2
  refine ⟨⟨hM.i.kp q3 (fun k hk e => h7 (by rw [← e]; exact hk)), hM.n, q2⟩, hg, q1, ⟨vl, vg, rfl, or_kp h1 q3 (fun k hk e => ?_), or_kp h2 q3 (fun k hk e => ?_), h3, h4⟩, h7, hl⟩
  · obtain ⟨c1, h5⟩ := or_bk h1 hk
    rw [e] at h5
    exact absurd rfl (bk_ne h5 hb (by decide))
  · obtain ⟨c1, h5⟩ := or_bk h2 hk
    rw [e] at h5
    exact absurd rfl (bk_ne h5 hb (by decide))


theorem mPut_len (m : Md) (v : Int) : (mPut m v).2.2.l.length ≤ m.l.length + 1 := by
  rcases mPut_tells m v with ⟨-, -, -, -, h⟩ | ⟨-, h⟩ <;> rw [h] <;> simp
theorem mGet_len (m : Md) (j : Int) : (mGet m j).2.2.l.length ≤ m.l.length + 1 := by
  rcases mGet_tells m j with ⟨-, -, -, -, h⟩ | ⟨-, h⟩ <;> rw [h] <;> simp
theorem mPut_most (m : Md) (v : Int) : (mPut m v).2.2.most = m.most := by
  rcases mPut_tells m v with ⟨-, -, -, -, h⟩ | ⟨-, h⟩ <;> rw [h]
set_option maxRecDepth 100000 in
set_option maxHeartbeats 12800000 in
theorem ModelPlays_calls {v0 v1 : Value} (ho : ∃ o : Rc, v0 = .agg o.vals.toArray ∧ o.ok) (hs : ∃ O : List O14, Rd w v1 O.length (oCells14 O) ∧ ∀ o ∈ O, o.ok) : Calls Try.prog 3 #[v0, v1] w fun e w' => e = .returned (.bool true) ∧ Kp no w w' := by
  obtain ⟨⟨k, c, R⟩, rfl, -⟩ := ho
  obtain ⟨O, hrd, hok⟩ := hs
  have hrd0 := As.mk hrd
  obtain ⟨A, cap, rfl, hn1, hn2, -⟩ := hrd
  unfold maxLen at hn2
  change Calls Try.prog 3 #[.agg #[.int .i64 k, .int .i64 c, .int .i64 R], _] w _
  clear hok
  go_enter Try.func3, Try.ntmps3
  go_wp2_with fail
  obtain ⟨m0, hK⟩ := box1 (w := w) #[.int .i64 k, .int .i64 c, .int .i64 R] 23
  generalize w.alloc (.cells #[.int .i64 k, .int .i64 c, .int .i64 R] 23) = W at m0 hK ⊢
  generalize w.heap.size = g0 at m0 ⊢
  refine awake14.mono ?_
  rintro e w1 ⟨rfl, hk⟩
  replace m0 := bk_kp m0 hk (fun x => x)
  replace hK := hK.trans hk
  clear hk
  by_cases hl : O.length ≤ 200
  · have hd : decide ((200 : Int) < (O.length : Int)) = false := decide_eq_false (by omega)
    have d0 := bk_cell m0 0
    have d1 := bk_cell m0 1
    have d2 := bk_cell m0 2
    clear hn1 hn2
    cases hm : rMay k c R with
    | false =>
      as_aux_lemma =>
        have HMM := As.mk hm
        clear hrd0 hm
        go_wp2_with fail
        refine (MNew_no k c R HMM.out).mono ?_
        rintro e w3 ⟨rfl, hk⟩
        replace m0 := bk_kp m0 hk (fun x => x)
        replace hK := hK.trans hk
        clear hk d0 d1 d2
        have d0 := bk_cell m0 0
        have d1 := bk_cell m0 1
        have d2 := bk_cell m0 2
        go_wp2_with fail
        refine (RMay_any k c R).mono ?_
        rw [HMM.out]
        rintro e w4 ⟨rfl, hk⟩
        replace hK := hK.trans hk
        clear hk d0 d1 d2 m0
        go_wp2
        go_ret
        exact ⟨rfl, hK⟩
    | true =>
      obtain ⟨p, q, rfl, rfl, hp1, hp2, hq1, hq2⟩ := rMay_nat hm
      have hHm := As.mk hm
      have hP := As.mk (And.intro hp1 (And.intro hp2 (And.intro hq1 hq2)))
      clear hm hp1 hp2 hq1 hq2
      go_wp2_with fail
      refine (MNew_new k p q hHm.out (Kp.refl no w1)).mono ?_
      rintro e w2 ⟨B, rfl, hR, -, -⟩
      replace m0 := bk_kp m0 hR.K (fun x => x)
      clear d0 d1 d2
      have d0 := bk_cell m0 0
      have d1 := bk_cell m0 1
      have d2 := bk_cell m0 2
      go_wp2_with fail
      refine (RMay_any k p q).mono ?_
      rw [hHm.out]
      rintro e w3 ⟨rfl, hk⟩
      replace m0 := bk_kp m0 hk (fun x => x)
      replace hR := hR.kp hk
      clear hk d0 d1 d2
      have d0 := bk_cell m0 0
      have d1 := bk_cell m0 1
      have d2 := bk_cell m0 2
      go_wp2_with fail
      refine (RNew14 (S := B.own) (fun k hk => hR.i.lt k hk) k p q (by have := hP.out; omega) (by have := hP.out; omega)).mono ?_
      rintro e w4 ⟨vv, rfl, hrm, hk⟩
      obtain ⟨vl, vg, rfl, h1, h2, h3, h4⟩ := hrm
      obtain ⟨A1, c1, rfl⟩ := or_form h1
      obtain ⟨A2, c2, rfl⟩ := or_form h2
      have hlq : (List.replicate q (0 : Int)).length = q := List.length_replicate
      have hlz : ([] : List Int).length = 0 := rfl
      dsimp only at h1 h2 h3 h4 ⊢
      rw [hlz] at h1 h3 h4 ⊢
      rw [hlq] at h2 h4 ⊢
      have hs3 := hR.K.size
      replace hR := hR.kp hk
      have hw1 : w1.heap.size ≤ w4.heap.size := hR.K.size
      have hbx := box1 (w := w4) #[.int .i64 p, .slice A1 0 c1, .slice A2 q c2, .bool false] 34
      obtain ⟨mb, hkb⟩ := hbx
      have HC : As (F14 w1 (w4.alloc (.cells #[.int .i64 p, .slice A1 0 c1, .slice A2 q c2, .bool false] 34)) B.g B ⟨p, [], List.replicate q 0, false⟩ w4.heap.size (.slice A1 0 c1) (.slice A2 q c2) 0 ∧ w1.heap.size ≤ w4.heap.size) :=
        ⟨⟨hR.kp hkb, rfl, mb, RM.kp ⟨_, _, rfl, or_base h1 hs3, (by rw [hlq]; exact or_base h2 hs3), h3, h4⟩ hkb (fun _ x => x.elim), fun h => by have := hR.i.lt _ h; omega, Nat.le_refl _⟩, hw1⟩
      replace hrd0 := As.mk (hrd0.out.kp hK (fun _ _ x => x))
      clear hR d0 d1 d2 m0 h1 h2 h3 h4 hs3 hw1 mb hkb hk hlq hlz
      go_wp2
      generalize w4.alloc (.cells #[.int .i64 p, .slice A1 0 c1, .slice A2 q c2, .bool false] 34) = W5 at HC ⊢
      generalize w4.heap.size = g7 at HC ⊢
      generalize hBg : B.g = G at HC ⊢
      have HW7 := As.mk HC.out.2
      replace HC := As.mk HC.out.1
      go_loopw [46] (fun v46 wr => ∃ (i : Nat) (B : MB) (m : Md) (vl vg : Value), i ≤ O.length ∧ v46 = .int .i64 i ∧ As (F14 w1 wr G B m g7 vl vg i)) (fun v46 _ => O.length - (intOf v46).toNat)
      case atStart => exact ⟨0, _, _, _, _, Nat.zero_le _, rfl, HC⟩
      case round =>
        as_aux_lemma =>
          clear HC hBg
          obtain ⟨i, B', m, vl, vg, hi, rfl, HI⟩ := hrel
          by_cases hlt : i < O.length
          · have hr := hrd0.out.kp HI.out.M.K (fun _ _ x => x)
            obtain ⟨ab, ao, c', he, -, -, hc⟩ := hr.form (by rw [oCells14_len]; omega)
            injection he with e1 e2 e3
            subst e1; subst e3; clear e2
            obtain ⟨ok, oj, ov, -, x0, x1, x2⟩ := oCells14_at hc hlt
            have hHa := HI.out.ra (by omega)
            have HRA := As.mk hHa
            have HLE := As.mk (show m.l.length < 1000000 from by have := HI.out.le; omega)
            clear hr hc hHa
            go_upto_block 2 with fail
            obtain ⟨mo, hko⟩ := box1 (w := wr) #[.int .i64 ok, .int .i64 oj, .int .u64 ov] 38
            have hgo : ¬ B'.own wr.heap.size := fun h => by have := HI.out.M.i.lt _ h; omega
            have hgo7 : wr.heap.size ≠ g7 := by have := bk_lt HI.out.box; omega
            have HI2 := As.mk (HI.out.kp hko)
            generalize wr.alloc (.cells #[.int .i64 ok, .int .i64 oj, .int .u64 ov] 38) = W2 at mo HI2 ⊢
            generalize wr.heap.size = go at mo hgo hgo7 ⊢
            clear hko x0 x1 x2 HI
            have HG := As.mk HI2.out.gG
            have HMO := As.mk (And.intro mo (And.intro hgo hgo7))
            have d0 := bk_cell mo 0
            have d1 := bk_cell mo 1
            have d2 := bk_cell mo 2
            have b0 := bk_cell HI2.out.box 0
            have b1 := bk_cell HI2.out.box 1
            have b2 := bk_cell HI2.out.box 2
            have b3 := bk_cell HI2.out.box 3
            obtain ⟨vl', vg', hve, h1, h2, -, -⟩ := HI2.out.ref
            have hve2 : vl = vl' ∧ vg = vg' := by simpa using hve
            obtain ⟨rfl, rfl⟩ := hve2
            obtain ⟨A1, c1, rfl⟩ := or_form h1
            obtain ⟨A2, c2, rfl⟩ := or_form h2
            have hkm : 0 ≤ IntKind.u64.wrap ok := by rw [IntKind.wrap_u64]; omega
            have hkq : Int.tmod (IntKind.u64.wrap ok) 3 = IntKind.u64.wrap ok % 3 := Int.tmod_eq_emod_of_nonneg hkm
            have hkl : 0 ≤ IntKind.u64.wrap ok % 3 ∧ IntKind.u64.wrap ok % 3 < 3 := by omega
            generalize IntKind.u64.wrap ok % 3 = qd at hkq hkl
            clear hve h1 h2 hkm mo
            go_cut [10, 11, 12, 13] from 50 to 112 (fun s10 s11 s12 s13 wx => ∃ (x er : Int) (B2 : MB) (m' : Md) (A1 A2 : Option Addr) (n1 c1 n2 c2 : Nat), s10 = .int .u64 x ∧ s11 = .int .u64 x ∧ s12 = .int .i64 er ∧ s13 = .int .i64 er ∧ As (F14 w1 wx G B2 m' g7 (.slice A1 n1 c1) (.slice A2 n2 c2) (i + 1) ∧ wx.heap[go]? = some (.cells #[.int .i64 ok, .int .i64 oj, .int .u64 ov] 38 (0, 0))))
            case first =>
              as_aux_lemma =>
                have hw0 : wrap64 0 = 0 := by unfold wrap64; omega
                have hw1 : wrap64 1 = 1 := by unfold wrap64; omega
                have hw2 : wrap64 2 = 2 := by unfold wrap64; omega
                rcases (show qd = 0 ∨ qd = 1 ∨ qd = 2 by omega) with rfl | rfl | rfl
                · clear hkl
                  go_wp2_with fail
                  have hcc := MPut_new HI2.out.M HLE.out ov
                  rw [← HG.out] at hcc
                  refine hcc.mono ?_
                  clear hcc
                  rintro e w5 ⟨B2, rfl, hg2, hM5, hsub, hk5⟩
                  have m5 := bk_kp (S := B'.own) HMO.out.1 hk5 HMO.out.2.1
                  have hb5 := bk_kp (S := B'.own) HI2.out.box hk5 HI2.out.n7
                  have hr5 := (HI2.out.ref.kp hk5 (fun _ x => x)).apart (S' := B'.own) (fun _ h => .inl h)
                  have hr6 : RM w1 w5 B2.own (.agg #[.int .i64 m.most, .slice A1 m.l.length c1, .slice A2 m.got.length c2, .bool m.closed]) m := by
                    obtain ⟨vl, vg, e, h1, h2, h3, h4⟩ := HI2.out.ref
                    refine ⟨vl, vg, e, or_kp h1 hk5 (fun b hb hs => h4 b (.inl hb) hs), or_kp h2 hk5 (fun b hb hs => h4 b (.inr hb) hs), h3, fun k hk hs => (hsub k hs).elim (h4 k hk) (fun h => ?_)⟩
                    rcases hk with hk | hk
                    · have := (h1.lt k hk).2; omega
                    · have := (h2.lt k hk).2; omega
                  have hn7 : ¬ B2.own g7 := fun h => (hsub g7 h).elim HI2.out.n7 (fun h => by have := bk_lt HI2.out.box; omega)
                  have f2 := bk_cell m5 2
                  have y0 := bk_cell hb5 0
                  have y1 := bk_cell hb5 1
                  have y2 := bk_cell hb5 2
                  have y3 := bk_cell hb5 3
                  have HX := As.mk (And.intro hM5 (And.intro hr6 (And.intro hn7 (And.intro hb5 (And.intro m5 hg2)))))
                  clear hM5 hr5 hr6 hn7 hb5 m5 hk5 hsub d0 d1 d2 b0 b1 b2 b3
                  go_wp2_with fail
                  refine (RPut14_any HRA.out HX.out.2.1 (fun k hk => HX.out.1.i.lt k hk) HX.out.1.K.size ov).mono ?_
                  rintro e w6 ⟨vv, rfl, hr7, hk6⟩
                  obtain ⟨vl7, vg7, rfl, p1, p2, p3, p4⟩ := hr7
                  obtain ⟨A3, c3, rfl⟩ := or_form p1
                  obtain ⟨A4, c4, rfl⟩ := or_form p2
                  have hb6 := bk_kp HX.out.2.2.2.1 hk6 (fun x => x)
                  have m6 := bk_kp HX.out.2.2.2.2.1 hk6 (fun x => x)
                  have y0' := bk_cell hb6 0
                  have y1' := bk_cell hb6 1
                  have y2' := bk_cell hb6 2
                  have y3' := bk_cell hb6 3
                  have z0 := bk_fz hb6 0
                  have z1 := bk_fz hb6 1
                  have z2 := bk_fz hb6 2
                  have z3 := bk_fz hb6 3
                  have hlen := mPut_len m ov
                  have HF := As.mk (And.intro (F14.next (HX.out.1.kp hk6) (HG.out.trans HX.out.2.2.2.2.2) hb6 ⟨_, _, rfl, p1, p2, p3, p4⟩ HX.out.2.2.1 HW7.out (by have := HI2.out.le; omega : _ ≤ i + 1)) (bk_far (bk_far (bk_far (bk_far m6 (p := ⟨g7, 0, none⟩) HMO.out.2.2 (.int .i64 (mPut m ov).2.2.most)) (p := ⟨g7, 1, none⟩) HMO.out.2.2 (.slice A3 (mPut m ov).2.2.l.length c3)) (p := ⟨g7, 2, none⟩) HMO.out.2.2 (.slice A4 (mPut m ov).2.2.got.length c4)) (p := ⟨g7, 3, none⟩) HMO.out.2.2 (.bool (mPut m ov).2.2.closed)))
                  generalize (mPut m ov).2.2 = m' at HF ⊢
                  generalize (mPut m ov).2.1 = er
                  generalize (mPut m ov).1 = xr
                  clear p1 p2 p3 p4 hb6 m6 hk6 hlen y0 y1 y2 y3 f2
                  go_wp2
                  go_meet
                  exact ⟨xr, er, B2, m', A3, A4, _, c3, _, c4, rfl, rfl, rfl, rfl, HF⟩
                · clear hkl
                  go_wp2_with fail
                  have hcc := MGet_new HI2.out.M oj
                  rw [← HG.out] at hcc
                  refine hcc.mono ?_
                  clear hcc
                  rintro e w5 ⟨rfl, hM5, hk5⟩
                  have m5 := bk_kp (S := B'.own) HMO.out.1 hk5 HMO.out.2.1
                  have hb5 := bk_kp (S := B'.own) HI2.out.box hk5 HI2.out.n7
                  have hr5 := (HI2.out.ref.kp hk5 (fun _ x => x)).apart (S' := B'.own) (fun _ h => .inl h)
                  have hr6 := hr5
                  have hn7 := HI2.out.n7
                  have f2 := bk_cell m5 1
                  have y0 := bk_cell hb5 0
                  have y1 := bk_cell hb5 1
                  have y2 := bk_cell hb5 2
                  have y3 := bk_cell hb5 3
                  have HX := As.mk (And.intro hM5 (And.intro hr6 (And.intro hn7 (And.intro hb5 m5))))
                  clear hM5 hr5 hr6 hn7 hb5 m5 hk5 d0 d1 d2 b0 b1 b2 b3
                  go_wp2_with fail
                  refine (RGet14_any HRA.out HX.out.2.1 (fun k hk => HX.out.1.i.lt k hk) HX.out.1.K.size oj).mono ?_
                  rintro e w6 ⟨vv, rfl, hr7, hk6⟩
                  obtain ⟨vl7, vg7, rfl, p1, p2, p3, p4⟩ := hr7
                  obtain ⟨A3, c3, rfl⟩ := or_form p1
                  obtain ⟨A4, c4, rfl⟩ := or_form p2
                  have hb6 := bk_kp HX.out.2.2.2.1 hk6 (fun x => x)
                  have m6 := bk_kp HX.out.2.2.2.2 hk6 (fun x => x)
                  have y0' := bk_cell hb6 0
                  have y1' := bk_cell hb6 1
                  have y2' := bk_cell hb6 2
                  have y3' := bk_cell hb6 3
                  have z0 := bk_fz hb6 0
                  have z1 := bk_fz hb6 1
                  have z2 := bk_fz hb6 2
                  have z3 := bk_fz hb6 3
                  have hlen := mGet_len m oj
                  have HF := As.mk (And.intro (F14.next (HX.out.1.kp hk6) HG.out hb6 ⟨_, _, rfl, p1, p2, p3, p4⟩ HX.out.2.2.1 HW7.out (by have := HI2.out.le; omega : _ ≤ i + 1)) (bk_far (bk_far (bk_far (bk_far m6 (p := ⟨g7, 0, none⟩) HMO.out.2.2 (.int .i64 (mGet m oj).2.2.most)) (p := ⟨g7, 1, none⟩) HMO.out.2.2 (.slice A3 (mGet m oj).2.2.l.length c3)) (p := ⟨g7, 2, none⟩) HMO.out.2.2 (.slice A4 (mGet m oj).2.2.got.length c4)) (p := ⟨g7, 3, none⟩) HMO.out.2.2 (.bool (mGet m oj).2.2.closed)))
                  generalize (mGet m oj).2.2 = m' at HF ⊢
                  generalize (mGet m oj).2.1 = er
                  generalize (mGet m oj).1 = xr
                  clear p1 p2 p3 p4 hb6 m6 hk6 hlen y0 y1 y2 y3 f2
                  go_wp2
                  go_meet
                  exact ⟨xr, er, B', m', A3, A4, _, c3, _, c4, rfl, rfl, rfl, rfl, HF⟩
                · clear hkl
                  go_wp2_with fail
                  have hcc := MClose_new HI2.out.M
                  rw [← HG.out] at hcc
                  refine hcc.mono ?_
                  clear hcc
                  rintro e w5 ⟨rfl, hM5, hk5⟩
                  have m5 := bk_kp (S := B'.own) HMO.out.1 hk5 HMO.out.2.1
                  have hb5 := bk_kp (S := B'.own) HI2.out.box hk5 HI2.out.n7
                  have hr5 := HI2.out.ref.kp hk5 (fun _ x => x)
                  have y3 := bk_cell hb5 3
                  have z3 := bk_fz hb5 3
                  have hks := Kp.set1 w5 g7 3 (.bool true)
                  have hb6 := bk_set (cs' := #[.int .i64 m.most, .slice A1 m.l.length c1, .slice A2 m.got.length c2, .bool true]) hb5 3 (.bool true) rfl
                  have HF := As.mk (And.intro (show F14 w1 (w5.setCell ⟨g7, 3, none⟩ (.bool true)) G B' { m with closed := true } g7 (.slice A1 m.l.length c1) (.slice A2 m.got.length c2) (i + 1) from by
                    obtain ⟨vl, vg, e, h1, h2, h3, h4⟩ := hr5
                    have e2 : (.slice A1 m.l.length c1) = vl ∧ (.slice A2 m.got.length c2) = vg := by simpa using e
                    obtain ⟨rfl, rfl⟩ := e2
                    refine ⟨⟨hM5.i.kp hks (fun k hk e => HI2.out.n7 (by rw [← e]; exact hk)), hM5.n, hM5.K.setNew ⟨g7, 3, none⟩ HW7.out _⟩, HG.out, hb6, ⟨_, _, rfl, or_kp h1 hks (fun k hk e => ?_), or_kp h2 hks (fun k hk e => ?_), h3, h4⟩, HI2.out.n7, by have := HI2.out.le; dsimp only; omega⟩
                    · obtain ⟨c1, h5⟩ := or_bk h1 hk
                      rw [e] at h5
                      exact absurd rfl (bk_ne h5 hb5 (by decide))
                    · obtain ⟨c1, h5⟩ := or_bk h2 hk
                      rw [e] at h5
                      exact absurd rfl (bk_ne h5 hb5 (by decide))) (bk_far m5 (p := ⟨g7, 3, none⟩) HMO.out.2.2 (.bool true)))
                  clear hM5 hr5 hb5 m5 hk5 d0 d1 d2 b0 b1 b2 b3 hks hb6
                  go_wp2
                  go_meet
                  exact ⟨0, 0, B', _, A1, A2, _, c1, _, c2, rfl, rfl, rfl, rfl, HF⟩
            case rest =>
              as_aux_lemma =>
                obtain ⟨x, er, B2, m', A3, A4, n1, c3, n2, c4, rfl, rfl, rfl, rfl, HF⟩ := hcut
                clear d0 d1 d2 b0 b1 b2 b3 hkq hkl HI2 HRA HLE HMO
                have hx := ne_selfm x
                have he := ne_selfm er
                obtain ⟨hF, hO⟩ := HF.out
                have HGG := As.mk hF.gG
                have hF1 := hF.kp (Kp.of_qd (QD.drew wc))
                have hO1 := bk_qd hO (QD.drew wc)
                have hra := As.mk (hF.ra (by omega))
                have hst : wc.drew.cell? ⟨go, 1, none⟩ = some (.int .i64 oj) ∧ wc.drew.cell? ⟨g7, 0, none⟩ = some (.int .i64 m'.most) ∧ wc.drew.cell? ⟨g7, 1, none⟩ = some (.slice A3 n1 c3) ∧ wc.drew.cell? ⟨g7, 2, none⟩ = some (.slice A4 n2 c4) ∧ wc.drew.cell? ⟨g7, 3, none⟩ = some (.bool m'.closed) := ⟨bk_cell hO1 1, bk_cell hF1.box 0, bk_cell hF1.box 1, bk_cell hF1.box 2, bk_cell hF1.box 3⟩
                clear hF hO HG
                go_upto_region 24 with fail
                go_region_held3 (fun w' => w'.cell? ⟨go, 1, none⟩ = some (.int .i64 oj) ∧ w'.cell? ⟨g7, 0, none⟩ = some (.int .i64 m'.most) ∧ w'.cell? ⟨g7, 1, none⟩ = some (.slice A3 n1 c3) ∧ w'.cell? ⟨g7, 2, none⟩ = some (.slice A4 n2 c4) ∧ w'.cell? ⟨g7, 3, none⟩ = some (.bool m'.closed)) (first | exact hst | exact hst5 | exact hst6 | exact hst7)
                  (first
                    | (go_at_call 31; have hcc := MRest_any hF1.M.i oj; rw [← HGG.out] at hcc; refine hcc.mono ?_; clear hcc; rintro e w5 ⟨v5, rfl, hown5, hk5⟩; have hF5 := hF1.kp hk5; have hO5 := bk_kp hO1 hk5 (fun x => x); have hst5 : w5.cell? ⟨go, 1, none⟩ = some (.int .i64 oj) ∧ w5.cell? ⟨g7, 0, none⟩ = some (.int .i64 m'.most) ∧ w5.cell? ⟨g7, 1, none⟩ = some (.slice A3 n1 c3) ∧ w5.cell? ⟨g7, 2, none⟩ = some (.slice A4 n2 c4) ∧ w5.cell? ⟨g7, 3, none⟩ = some (.bool m'.closed) := ⟨bk_cell hO5 1, bk_cell hF5.box 0, bk_cell hF5.box 1, bk_cell hF5.box 2, bk_cell hF5.box 3⟩)
                    | (go_at_call 32; refine (RRest14 hra.out hF5.ref oj).mono ?_; rintro e w6 ⟨v6, rfl, hrd6, hk6⟩; have hF6 := hF5.kp hk6; have hO6 := bk_kp hO5 hk6 (fun x => x); have hst6 : w6.cell? ⟨go, 1, none⟩ = some (.int .i64 oj) ∧ w6.cell? ⟨g7, 0, none⟩ = some (.int .i64 m'.most) ∧ w6.cell? ⟨g7, 1, none⟩ = some (.slice A3 n1 c3) ∧ w6.cell? ⟨g7, 2, none⟩ = some (.slice A4 n2 c4) ∧ w6.cell? ⟨g7, 3, none⟩ = some (.bool m'.closed) := ⟨bk_cell hO6 1, bk_cell hF6.box 0, bk_cell hF6.box 1, bk_cell hF6.box 2, bk_cell hF6.box 3⟩)
                    | (go_at_call 30; refine (SameU_any ((Rd.of_own hown5).kp hk6 (fun _ _ x => x)) hrd6).mono ?_; rw [decide_eq_true rfl]; rintro e w7 ⟨rfl, hq7⟩; have hF7 := hF6.kp (Kp.of_qd hq7); have hO7 := bk_qd hO6 hq7; have hst7 : w7.cell? ⟨go, 1, none⟩ = some (.int .i64 oj) ∧ w7.cell? ⟨g7, 0, none⟩ = some (.int .i64 m'.most) ∧ w7.cell? ⟨g7, 1, none⟩ = some (.slice A3 n1 c3) ∧ w7.cell? ⟨g7, 2, none⟩ = some (.slice A4 n2 c4) ∧ w7.cell? ⟨g7, 3, none⟩ = some (.bool m'.closed) := ⟨bk_cell hO7 1, bk_cell hF7.box 0, bk_cell hF7.box 1, bk_cell hF7.box 2, bk_cell hF7.box 3⟩))
                have HFF := As.mk hF7
                clear hst hst5 hst6 hst7 hF1 hF5 hF6 hF7 hO1 hO5 hO6 hO7 hown5 hrd6 hk5 hk6 hq7 hx he
                go_wp2
                exact ⟨⟨i + 1, B2, m', _, _, by omega, by go_num, HFF⟩, by simp [intOf]; omega⟩
          · go_wp2
            go_ret
            exact ⟨rfl, hK.trans HI.out.M.K⟩
  · as_aux_lemma =>
      have hd : decide ((200 : Int) < (O.length : Int)) = true := decide_eq_true (by omega)
      clear hl hn1 hn2 hrd0 m0
      go_wp2_with fail
      refine awake14.mono ?_
      rintro e w3 ⟨rfl, hk⟩
      replace hK := hK.trans hk
      clear hk
      go_wp2
      go_ret
      exact ⟨rfl, hK⟩
end Go.Proofs.Ytmejnhfggmmefaa.H
