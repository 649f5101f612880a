/- Layer 13: RingReady: what Free and Has tell is what Publish and Release then do; how a ring stands can be loaded at any time, and does the same. No condition. -/
import Derived.Test.YtmejnhfggmmefaaL13E
namespace Go.Proofs.Ytmejnhfggmmefaa.H
open Go.RowKit
set_option linter.unusedVariables false
set_option linter.unusedSimpArgs false
variable {w : World}

theorem RgNew.keep {w0 w w' : World} {B B' : RB} {r : Rg} (h : RgNew w0 w B r) (k : Kp B'.own w w') (hd : ∀ i, B.own i → ¬ B'.own i) (hn : ∀ i, B'.own i → w0.heap.size ≤ i) : RgNew w0 w' B r := ⟨h.i.kp k hd, h.n, h.K.new k hn⟩
theorem RLoad_same {w0 w : World} {B : RB} {r : Rg} (hr : RgNew w0 w B r) (k : Int) (p q : Nat) (hl : rLoadsB k p q r.tail r.heads r.L = true) {v1 v2 : Value} (h1 : Rd w v1 r.heads.length (u64s r.heads)) (h2 : Rd w v2 r.L.length (slCells r.L)) :
    Calls Try.prog 56 #[.agg #[.int .i64 k, .int .i64 p, .int .i64 q], stVal v1 v2 r] w fun e w' => ∃ B2, e = .returned (.tuple #[.pointer (some ⟨B2.g, 0, none⟩), .int .i64 0]) ∧ RgNew w0 w' B2 r ∧ (∀ i, B2.own i → w.heap.size ≤ i) ∧ Kp no w w' := by
  have hi := hr.i
  refine (RLoad_any k p q (v1 := v1) (v2 := v2) r.tail r.closed r.heads r.L (fun x hx => ⟨(hi.s.wf x hx).1, (hi.s.wf x hx).2.1⟩) h1 (fun x hx => ⟨(hi.h0 x hx).1, by have := (hi.h0 x hx).2; have := hi.t1; omega⟩) h2 hi.t0).mono ?_
  rintro e w' (⟨-, B2, rfl, h3, h4, h5⟩ | ⟨h3, -, -⟩)
  · have hs := hr.K.size
    exact ⟨B2, rfl, ⟨h3, fun i hi => by have := h4 i hi; omega, hr.K.trans h5⟩, h4, h5⟩
  · rw [hl] at h3; cases h3
theorem bool_ne_self (b : Bool) : (b != b) = false := by cases b <;> rfl
theorem bool_eq_self (b : Bool) : (b == b) = true := by cases b <;> rfl
theorem int_eq_self (x : Int) : (x == x) = true := by simp
set_option maxRecDepth 100000 in
set_option maxHeartbeats 12800000 in
theorem RingReady_calls {v0 v1 v2 : Value} (ho : ∃ o : Rc, v0 = .agg o.vals.toArray ∧ o.ok) (hs : ∃ O : List O12, Rd w v1 O.length (oCells O) ∧ ∀ o ∈ O, o.ok) (ho2 : ∃ o : O12, v2 = .agg o.vals.toArray ∧ o.ok) :
    Calls Try.prog 17 #[v0, v1, v2] w fun e w' => e = .returned (.bool true) ∧ Kp no w w' := by
  obtain ⟨⟨k, c, R⟩, rfl, -⟩ := ho
  obtain ⟨⟨k2, j2, t2, x2⟩, rfl, hok2⟩ := ho2
  obtain ⟨O, hrd, hok⟩ := hs
  have hrd0 := As.mk hrd
  have HO := As.mk hok
  have ht2 : 0 ≤ t2 := hok2.1
  obtain ⟨A, cap, rfl, hn1, hn2, -⟩ := hrd
  unfold maxLen at hn2
  change Calls Try.prog 17 #[.agg #[.int .i64 k, .int .i64 c, .int .i64 R], _, .agg #[.int .i64 k2, .int .i64 j2, .int .u64 t2, .int .u64 x2]] w _
  clear hok hok2
  go_enter Try.func17, Try.ntmps17
  go_wp2_with fail
  obtain ⟨m0, k1⟩ := box1 (w := w) #[.int .i64 k, .int .i64 c, .int .i64 R] 23
  generalize hW1 : w.alloc (.cells #[.int .i64 k, .int .i64 c, .int .i64 R] 23) = W1 at m0 k1 ⊢
  have e1 : W1.heap.size = w.heap.size + 1 := by rw [← hW1]; simp
  try rw [← e1]
  obtain ⟨m1, kk2⟩ := box1 (w := W1) #[.int .i64 k2, .int .i64 j2, .int .u64 t2, .int .u64 x2] 89
  replace m0 := bk_kp m0 kk2 (fun x => x)
  have hK := k1.trans kk2
  generalize W1.alloc (.cells #[.int .i64 k2, .int .i64 j2, .int .u64 t2, .int .u64 x2] 89) = W2 at m0 m1 hK ⊢
  generalize W1.heap.size = g5 at m1 ⊢
  generalize w.heap.size = g0 at m0 ⊢
  clear hW1 k1 kk2
  refine awake13.mono ?_
  rintro e w1 ⟨rfl, hk⟩
  replace m0 := bk_kp m0 hk (fun x => x)
  replace m1 := bk_kp m1 hk (fun x => x)
  replace hK := hK.trans hk
  clear hk
  by_cases hl : O.length ≤ 100
  · have hd : decide ((100 : Int) < (O.length : Int)) = false := decide_eq_false (by omega)
    have d0 := bk_cell m0 0
    have d1 := bk_cell m0 1
    have d2 := bk_cell m0 2
    clear hn1 hn2
    go_wp2_with fail
    refine (RMay_any k c R).mono ?_
    rintro e w2 ⟨rfl, hk⟩
    replace m0 := bk_kp m0 hk (fun x => x)
    replace m1 := bk_kp m1 hk (fun x => x)
    replace hK := hK.trans hk
    clear hk d0 d1 d2
    cases hm : rMay k c R with
    | false =>
      as_aux_lemma =>
        clear hrd0 m0 m1 hd hl
        go_wp2_with fail
        refine awake13.mono ?_
        rintro e w3 ⟨rfl, hk⟩
        replace hK := hK.trans hk
        clear hk
        go_wp2
        go_ret
        exact ⟨rfl, hK⟩
    | true =>
      obtain ⟨p, q, rfl, rfl, hp1, hp2, hq1, hq2⟩ := rMay_nat hm
      have d0 := bk_cell m0 0
      have d1 := bk_cell m0 1
      have d2 := bk_cell m0 2
      have hHm := As.mk hm
      have hP := As.mk (And.intro hp1 (And.intro hp2 (And.intro hq1 hq2)))
      clear hm hd
      replace hrd0 := As.mk (hrd0.out.kp hK (fun _ _ x => x))
      go_wp2_with fail
      refine (RNew_new k p q hHm.out (Kp.refl no w2)).mono ?_
      rintro e w3 ⟨B, rfl, hR, -, -⟩
      have HC : As (RgNew w2 w3 B ⟨0, List.replicate q 0, false, sNew p⟩ ∧ WInv p q 0 ⟨0, List.replicate q 0, false, sNew p⟩) := ⟨hR, WInv.new hp2⟩
      have HM := As.mk (And.intro m0 m1)
      clear hR d0 d1 d2 m0 m1 hp1 hp2 hq1 hq2
      go_wp2
      go_loopw [41] (fun v41 wr => ∃ (i : Nat) (r : Rg), i ≤ O.length ∧ v41 = .int .i64 i ∧ As (RgNew w2 wr B r ∧ WInv p q i r)) (fun v41 _ => O.length - (intOf v41).toNat)
      case atStart => exact ⟨0, _, Nat.zero_le _, rfl, HC⟩
      case round =>
        as_aux_lemma =>
          obtain ⟨i, r, hi, rfl, HI⟩ := hrel
          by_cases hlt : i < O.length
          · as_aux_lemma =>
              have hr := hrd0.out.kp HI.out.1.K (fun _ _ x => x)
              obtain ⟨ab, ao, c', he, -, -, hc⟩ := hr.form (by rw [oCells_len]; omega)
              injection he with e1 e2 e3
              subst e1; subst e3; clear e2
              obtain ⟨ok, oj, t, ov, hO, c0, c1, c2, c3⟩ := oCells_at hc hlt
              have ht : 0 ≤ t := by have := (HO.out _ (mem_getD hlt)).1; rw [hO] at this; exact this
              have HTT := As.mk (show 0 ≤ r.tail ∧ r.tail ≤ 200 from by have := HI.out.2.I.ti; omega)
              clear hr hc hO
              go_wp2_with fail
              obtain ⟨mo, hko⟩ := box1 (w := wr) #[.int .i64 ok, .int .i64 oj, .int .u64 t, .int .u64 ov] 89
              have HI2 := HI.out.1.kp hko
              refine (do_any HI2 (by have := HTT.out; omega) ok oj t ov ht).mono ?_
              have hS := HI.out.2.step (by have := hP.out; omega) (by have := hP.out; omega) (by have := hP.out; omega) (by have := hP.out; omega) (by omega) ⟨ok, oj, t, ov⟩ ht
              generalize (rDo r ⟨ok, oj, t, ov⟩).2.2 = r' at hS ⊢
              rintro e w5 ⟨rfl, hR5, -⟩
              have HH := As.mk (And.intro hR5 hS)
              clear hR5 hS HI2 mo hko c0 c1 c2 c3
              go_wp2
              exact ⟨⟨i + 1, r', by omega, by go_num, HH⟩, by simp [intOf]; omega⟩
          · have hil : i ≤ 200 := by omega
            clear HC hrd0
            have HW := As.mk HI.out.2
            have HT62 := As.mk (show r.tail < 4611686018427387904 from by have := HI.out.2.I.ti; omega)
            have HL := As.mk (HI.out.2.loads hHm.out (by omega))
            have HR := As.mk HI.out.1
            clear HI hil
            go_upto_region 11 with fail
            clear hlt hi hl
            have hR1 := HR.out.qd (QD.drew wr)
            have b1 := bk_kp HM.out.1 hR1.K (fun x => x)
            have hst : wr.drew.cell? ⟨g0, 0, none⟩ = some (.int .i64 k) ∧ wr.drew.cell? ⟨g0, 1, none⟩ = some (.int .i64 p) ∧ wr.drew.cell? ⟨g0, 2, none⟩ = some (.int .i64 q) := ⟨bk_cell b1 0, bk_cell b1 1, bk_cell b1 2⟩
            go_region_held3 (fun w' => w'.cell? ⟨g0, 0, none⟩ = some (.int .i64 k) ∧ w'.cell? ⟨g0, 1, none⟩ = some (.int .i64 p) ∧ w'.cell? ⟨g0, 2, none⟩ = some (.int .i64 q)) (first | exact hst | exact hst5 | exact hst6)
              (first
                | (go_at_call 49; refine (State_any hR1.i).mono ?_; rintro e w5 ⟨u1, u2, rfl, o1, o2, hk5⟩; have hR5 := hR1.kp hk5; have b5 := bk_kp HM.out.1 hR5.K (fun x => x); have hst5 : w5.cell? ⟨g0, 0, none⟩ = some (.int .i64 k) ∧ w5.cell? ⟨g0, 1, none⟩ = some (.int .i64 p) ∧ w5.cell? ⟨g0, 2, none⟩ = some (.int .i64 q) := ⟨bk_cell b5 0, bk_cell b5 1, bk_cell b5 2⟩)
                | (go_at_call 56; refine (RLoad_same hR5 k p q HL.out (Rd.of_own o1) (Rd.of_own o2)).mono ?_; rintro e w6 ⟨B2, rfl, hR6, hn6, hk6⟩; have hst6 : w6.cell? ⟨g0, 0, none⟩ = some (.int .i64 k) ∧ w6.cell? ⟨g0, 1, none⟩ = some (.int .i64 p) ∧ w6.cell? ⟨g0, 2, none⟩ = some (.int .i64 q) := (have b6 := bk_kp b5 hk6 (fun x => x); ⟨bk_cell b6 0, bk_cell b6 1, bk_cell b6 2⟩)))
            have hA := hR5.kp hk6
            have dis : ∀ i, B.own i → ¬ B2.own i := fun i a b => by have := hR5.i.glt i a; have := hn6 i b; omega
            clear hR1 hR5 hst hst5 hst6 b1 b5 o1 o2 hn6 hk5 hk6
            go_upto_region 14 with fail
            have m5 := bk_kp HM.out.2 hA.K (fun x => x)
            have c1 := bk_cell m5 1
            have c2 := bk_cell m5 2
            have hF := fun n => RFree_any (hA.qd (QD.n w6 n)).i ht2
            have hH := fun n => RHas_any (hA.qd (QD.n w6 n)).i ht2 j2
            have HPF := As.mk (rpub_free r t2 x2 HT62.out)
            have HRH := As.mk (rrel_has r j2 t2)
            generalize rFree r t2 = fb at hF HPF
            generalize rHas r j2 t2 = hb at hH HRH
            clear m5
            go_quiet ((first | (go_at_call 43; exact Calls.quiet_of (hF _)) | (go_at_call 44; exact Calls.quiet_of (hH _))))
            clear c1 c2 hF hH
            have hA7 := hA.qd (QD.n w6 nq)
            have hB7 := hR6.qd (QD.n w6 nq)
            generalize w6.drewN nq = w7 at hA7 hB7 ⊢
            clear hA hR6
            have m5 := bk_kp HM.out.2 hA7.K (fun x => x)
            have c2 := bk_cell m5 2
            have c3 := bk_cell m5 3
            go_wp2_with fail
            refine (Publish_new (t := t2) (v := x2) hB7 ht2).mono ?_
            rintro e w8 ⟨rfl, hB8, hk8⟩
            have hA8 := hA7.keep hk8 dis hB7.n
            have hpf := HPF.out
            generalize (rPublish r t2 x2).1 = er at hpf ⊢
            have hbb := bool_ne_self fb
            clear c2 c3 m5 hB7 hA7 hB8 hk8 dis
            go_upto_region 17 with fail
            clear hpf hbb
            have hR1 := hA8.qd (QD.drew w8)
            have b1 := bk_kp HM.out.1 hR1.K (fun x => x)
            have hst : w8.drew.cell? ⟨g0, 0, none⟩ = some (.int .i64 k) ∧ w8.drew.cell? ⟨g0, 1, none⟩ = some (.int .i64 p) ∧ w8.drew.cell? ⟨g0, 2, none⟩ = some (.int .i64 q) := ⟨bk_cell b1 0, bk_cell b1 1, bk_cell b1 2⟩
            clear hA8
            go_region_held3 (fun w' => w'.cell? ⟨g0, 0, none⟩ = some (.int .i64 k) ∧ w'.cell? ⟨g0, 1, none⟩ = some (.int .i64 p) ∧ w'.cell? ⟨g0, 2, none⟩ = some (.int .i64 q)) (first | exact hst | exact hst5 | exact hst6)
              (first
                | (go_at_call 49; refine (State_any hR1.i).mono ?_; rintro e w5 ⟨u1, u2, rfl, o1, o2, hk5⟩; have hR5 := hR1.kp hk5; have b5 := bk_kp HM.out.1 hR5.K (fun x => x); have hst5 : w5.cell? ⟨g0, 0, none⟩ = some (.int .i64 k) ∧ w5.cell? ⟨g0, 1, none⟩ = some (.int .i64 p) ∧ w5.cell? ⟨g0, 2, none⟩ = some (.int .i64 q) := ⟨bk_cell b5 0, bk_cell b5 1, bk_cell b5 2⟩)
                | (go_at_call 56; refine (RLoad_same hR5 k p q HL.out (Rd.of_own o1) (Rd.of_own o2)).mono ?_; rintro e w9 ⟨B3, rfl, hR6, hn6, hk6⟩; have hst6 : w9.cell? ⟨g0, 0, none⟩ = some (.int .i64 k) ∧ w9.cell? ⟨g0, 1, none⟩ = some (.int .i64 p) ∧ w9.cell? ⟨g0, 2, none⟩ = some (.int .i64 q) := (have b6 := bk_kp b5 hk6 (fun x => x); ⟨bk_cell b6 0, bk_cell b6 1, bk_cell b6 2⟩)))
            have hA := hR5.kp hk6
            have dis : ∀ i, B.own i → ¬ B3.own i := fun i a b => by have := hR5.i.glt i a; have := hn6 i b; omega
            clear hR1 hR5 hst hst5 hst6 b1 b5 o1 o2 hn6 hk5 hk6
            have m5 := bk_kp HM.out.2 hA.K (fun x => x)
            have c1 := bk_cell m5 1
            have c2 := bk_cell m5 2
            go_wp2_with fail
            refine (Release_new (t := t2) hR6 ht2 j2).mono ?_
            rintro e w10 ⟨rfl, hB10, hk10⟩
            have hA10 := hA.keep hk10 dis hR6.n
            clear c1 c2 m5 hA hR6 hk10
            have m5 := bk_kp HM.out.2 hA10.K (fun x => x)
            have c1 := bk_cell m5 1
            have c2 := bk_cell m5 2
            go_wp2_with fail
            refine (Release_new (t := t2) hA10 ht2 j2).mono ?_
            rintro e w11 ⟨rfl, hA11, hk11⟩
            have hB11 := hB10.keep hk11 (fun i a b => dis i b a) hA10.n
            clear c1 c2 m5 hA10 hB10 hk11
            have hrh := HRH.out
            have hlen : 0 < (rRelease r j2 t2).2.2.heads.length ∧ (rRelease r j2 t2).2.2.heads.length ≤ 8 ∧ 0 < (rRelease r j2 t2).2.2.L.length ∧ (rRelease r j2 t2).2.2.L.length ≤ 64 := ⟨hA11.i.s.hR0, hA11.i.s.hR, hA11.i.s.pos, hA11.i.s.le⟩
            generalize (rRelease r j2 t2).2.2 = r2 at hA11 hB11 hlen
            generalize (rRelease r j2 t2).2.1 = er2 at hrh ⊢
            generalize (rRelease r j2 t2).1 = xr2
            have hb1 := bool_eq_self hb
            have hb2 := int_eq_self xr2
            have hb3 := int_eq_self er2
            have HB11 := As.mk (And.intro hA11 (And.intro hB11 hlen))
            clear hA11 hB11 dis hlen
            go_wp2_with fail
            refine (State_any HB11.out.2.1.i).mono ?_
            rintro e w12 ⟨u1, u2, rfl, o1, o2, hk12⟩
            go_wp2_with fail
            refine (State_any (HB11.out.1.kp hk12).i).mono ?_
            rintro e w13 ⟨y1, y2, rfl, p1, p2, hk13⟩
            go_wp2_with fail
            obtain ⟨l1, l2, l3, l4⟩ := HB11.out.2.2
            refine (RSame13 ((Rd.of_own o1).kp hk13 (fun _ _ x => x)) ((Rd.of_own o2).kp hk13 (fun _ _ x => x)) (Rd.of_own p1) (Rd.of_own p2) l1 l2 l3 l4).mono ?_
            rintro e w14 ⟨rfl, hk14⟩
            have hKf := hK.trans ((((HB11.out.1.K.trans hk12).trans hk13)).trans hk14)
            clear o1 o2 p1 p2 l1 l2 l3 l4 hk12 hk13 hk14 hrh hb1 hb2 hb3
            go_wp2
            go_ret
            exact ⟨rfl, hKf⟩
  · as_aux_lemma =>
      have hd : decide ((100 : Int) < (O.length : Int)) = true := decide_eq_true (by omega)
      clear hl hn1 hn2 hrd0 m0 m1
      go_wp2_with fail
      refine awake13.mono ?_
      rintro e w3 ⟨rfl, hk⟩
      replace hK := hK.trans hk
      clear hk
      go_wp2
      go_ret
      exact ⟨rfl, hK⟩
end Go.Proofs.Ytmejnhfggmmefaa.H
