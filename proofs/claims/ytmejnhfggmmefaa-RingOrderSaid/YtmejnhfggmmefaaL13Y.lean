/- Layer 13: RingOrder, walked. No condition. -/
import Derived.Test.YtmejnhfggmmefaaL13X
namespace Go.Proofs.Ytmejnhfggmmefaa.H
open Go.RowKit
set_option linter.unusedVariables false
set_option linter.unusedSimpArgs false
variable {w : World}

structure Y13 (W wr : World) (B : RB) (r : Rg) (p q pb cb i : Nat) (pv : Int → Option Int) (ct : Int → Int → Int) : Prop where
  R : RgNew W wr B r
  I : RInv p q i r
  O : OInv r.L q pv ct
  P : PIn wr pb i pv
  C : CIn3 wr cb i ct
  pc : pb ≠ cb
  gp : ¬ B.own pb
  gc : ¬ B.own cb
  np : W.heap.size ≤ pb
  nc : W.heap.size ≤ cb
theorem Y13.kp {W w w' : World} {B : RB} {r : Rg} {p q pb cb i : Nat} {pv : Int → Option Int} {ct : Int → Int → Int} (h : Y13 W w B r p q pb cb i pv ct) (k : Kp no w w') : Y13 W w' B r p q pb cb i pv ct :=
  ⟨h.R.kp k, h.I, h.O, h.P.kp k (fun x => x), h.C.kp k (fun x => x), h.pc, h.gp, h.gc, h.np, h.nc⟩
set_option maxRecDepth 100000 in
set_option maxHeartbeats 6400000 in
theorem RingOrder_calls {v0 v1 : Value} (ho : ∃ o : Rc, v0 = .agg o.vals.toArray ∧ o.ok) (hs : ∃ O : List O12, Rd w v1 O.length (oCells O) ∧ ∀ o ∈ O, o.ok) : Calls Try.prog 15 #[v0, v1] w fun e w' => e = .returned (.bool true) ∧ Kp no w w' := by
  obtain ⟨⟨k, c, R⟩, rfl, -⟩ := ho
  obtain ⟨O, hrd, hok⟩ := hs
  have hrd0 := As.mk hrd
  have HO := As.mk hok
  obtain ⟨A, cap, rfl, hn1, hn2, -⟩ := hrd
  unfold maxLen at hn2
  change Calls Try.prog 15 #[.agg #[.int .i64 k, .int .i64 c, .int .i64 R], _] w _
  clear hok
  go_enter Try.func15, Try.ntmps15
  go_wp2_with fail
  obtain ⟨m0, hK⟩ := box1 (w := w) #[.int .i64 k, .int .i64 c, .int .i64 R] 23
  generalize w.alloc (.cells #[.int .i64 k, .int .i64 c, .int .i64 R] 23) = W at m0 hK ⊢
  generalize w.heap.size = g0 at m0 ⊢
  refine awake13.mono ?_
  rintro e w1 ⟨rfl, hk⟩
  replace m0 := bk_kp m0 hk (fun x => x)
  replace hK := hK.trans hk
  clear hk
  by_cases hl : O.length ≤ 200
  · have hd : decide ((200 : Int) < (O.length : Int)) = false := decide_eq_false (by omega)
    have d0 := bk_cell m0 0
    have d1 := bk_cell m0 1
    have d2 := bk_cell m0 2
    clear hn1 hn2
    go_wp2_with fail
    refine (RMay_any k c R).mono ?_
    rintro e w2 ⟨rfl, hk⟩
    replace m0 := bk_kp m0 hk (fun x => x)
    replace hK := hK.trans hk
    clear hk d0 d1 d2
    cases hm : rMay k c R with
    | false =>
      as_aux_lemma =>
        clear hrd0 m0 hd hl
        go_wp2_with fail
        refine awake13.mono ?_
        rintro e w3 ⟨rfl, hk⟩
        replace hK := hK.trans hk
        clear hk
        go_wp2
        go_ret
        exact ⟨rfl, hK⟩
    | true =>
      obtain ⟨p, q, rfl, rfl, hp1, hp2, hq1, hq2⟩ := rMay_nat hm
      have d0 := bk_cell m0 0
      have d1 := bk_cell m0 1
      have d2 := bk_cell m0 2
      have hHm := As.mk hm
      have hP := As.mk (And.intro hp1 (And.intro hp2 (And.intro hq1 hq2)))
      clear hm hd
      replace hrd0 := As.mk (hrd0.out.kp hK (fun _ _ x => x))
      go_wp2_with fail
      refine (RNew_new k p q hHm.out (Kp.refl no w2)).mono ?_
      rintro e w3 ⟨B, rfl, hR, -, -⟩
      have HR := As.mk hR
      have hmm := @run_makeMap Try.prog
      clear d0 d1 d2
      go_upto_region 8 with fail
      have hz : (w3.alloc (Obj.map #[] 0)).heap.size = w3.heap.size + 1 := Array.size_push _
      have hX : Y13 w2 ((w3.alloc (Obj.map #[] 0)).alloc (Obj.map #[] 0)) B ⟨0, List.replicate q 0, false, sNew p⟩ p q w3.heap.size (w3.heap.size + 1) 0 (fun _ => none) (fun _ _ => 0) := by
        have k1 := (Kp.refl no w3).alloc (Obj.map #[] 0)
        have k2 := (Kp.refl no (w3.alloc (Obj.map #[] 0))).alloc (Obj.map #[] 0)
        have k3 := hR.K.size
        have hC := CIn3.made (w3.alloc (Obj.map #[] 0))
        rw [hz] at hC
        exact ⟨hR.kp (k1.trans k2), RInv.new p q, OInv.new hP.out.1, (PIn.made w3).kp k2 (fun x => x), hC, by omega, fun h => by have := hR.i.glt _ h; omega, fun h => by have := hR.i.glt _ h; omega, k3, by omega⟩
      generalize (w3.alloc (Obj.map #[] 0)).alloc (Obj.map #[] 0) = W at hX ⊢
      generalize w3.heap.size + 1 = cb at hX ⊢
      generalize w3.heap.size = pb at hX ⊢
      have HX := As.mk hX
      clear hX hz hR HR hmm m0
      go_wp2_with fail
      go_loopw [41] (fun v41 wr => ∃ (i : Nat) (r : Rg) (pv : Int → Option Int) (ct : Int → Int → Int), i ≤ O.length ∧ v41 = .int .i64 i ∧ As (Y13 w2 wr B r p q pb cb i pv ct)) (fun v41 _ => O.length - (intOf v41).toNat)
      case atStart => exact ⟨0, _, _, _, Nat.zero_le _, rfl, HX⟩
      case round =>
        as_aux_lemma =>
          clear HX
          obtain ⟨i, r, pv, ct, hi, rfl, HI⟩ := hrel
          by_cases hlt : i < O.length
          · have hr := hrd0.out.kp HI.out.R.K (fun _ _ x => x)
            obtain ⟨ab, ao, c', he, -, -, hc⟩ := hr.form (by rw [oCells_len]; omega)
            injection he with e1 e2 e3
            subst e1; subst e3; clear e2
            obtain ⟨ok, oj, t, ov, hO, c0, c1, c2, c3⟩ := oCells_at hc hlt
            have hok := HO.out _ (mem_getD hlt)
            rw [hO] at hok
            unfold O12.ok at hok
            dsimp only at hok
            obtain ⟨o1, o2, o3, o4, o5, o6, o7, o8⟩ := hok
            have HWT := As.mk (show (Lit.int .u64 t).wf = true by simp [Lit.wf, IntKind.min, IntKind.max, IntKind.signed, IntKind.bits]; omega)
            have HWV := As.mk (show (Lit.int .u64 ov).wf = true by simp [Lit.wf, IntKind.min, IntKind.max, IntKind.signed, IntKind.bits]; omega)
            have HWJ := As.mk (show (Lit.int .i64 oj).wf = true by simp [Lit.wf, IntKind.min, IntKind.max, IntKind.signed, IntKind.bits]; omega)
            have ht : 0 ≤ t := o1
            have HTT := As.mk (show 0 ≤ r.tail ∧ r.tail ≤ 200 from by have := HI.out.I.ti; omega)
            clear hr hc hO o1 o2 o3 o4 o5 o6 o7 o8
            go_wp2_with fail
            obtain ⟨mo, hko⟩ := box1 (w := wr) #[.int .i64 ok, .int .i64 oj, .int .u64 t, .int .u64 ov] 89
            have hgo : ¬ B.own wr.heap.size := fun h => by have := HI.out.R.i.glt _ h; omega
            have HI2 := HI.out.kp hko
            clear HI
            generalize wr.alloc (.cells #[.int .i64 ok, .int .i64 oj, .int .u64 t, .int .u64 ov] 89) = W2 at mo HI2 ⊢
            generalize wr.heap.size = go at mo hgo ⊢
            clear hko c0 c1 c2 c3
            refine (do_any HI2.R (by have := HTT.out; omega) ok oj t ov ht).mono ?_
            have hT := rDo_order HI2.I.hl HI2.O HI2.R.i.s.pos (by have := HI2.R.i.s.hR; have := HI2.I.hl; omega) HI2.R.i.s.wf ⟨ok, oj, t, ov⟩ ht
            have hS := HI2.I.step ⟨ok, oj, t, ov⟩
            dsimp only at hT
            generalize (rDo r ⟨ok, oj, t, ov⟩).2.2 = r' at hT hS ⊢
            generalize (rDo r ⟨ok, oj, t, ov⟩).2.1 = er at hT ⊢
            generalize (rDo r ⟨ok, oj, t, ov⟩).1 = xr at hT ⊢
            rintro e w5 ⟨rfl, hR5, hk5⟩
            have m5 := bk_kp (S := B.own) mo hk5 hgo
            have d0 := bk_cell m5 0
            have d1 := bk_cell m5 1
            have d2 := bk_cell m5 2
            have d3 := bk_cell m5 3
            have hP5 := HI2.P.kp hk5 HI2.gp
            have hC5 := HI2.C.kp hk5 HI2.gc
            have hn : i < maxLen := by unfold maxLen; omega
            have hkm := kd_tmod ⟨ok, oj, t, ov⟩
            change Int.tmod (IntKind.u64.wrap ok) 5 = _ at hkm
            have hkl := kd_le ⟨ok, oj, t, ov⟩
            have hall : OInv r'.L q pv ct → As (Y13 w2 w5 B r' p q pb cb (i + 1) pv ct) := fun h => ⟨hR5, hS, h, hP5.mono (by omega), hC5.mono (by omega), HI2.pc, HI2.gp, HI2.gc, HI2.np, HI2.nc⟩
            have HM5 := As.mk m5
            have HI3 := As.mk HI2
            have HH := As.mk (And.intro hR5 hS)
            generalize kd ⟨ok, oj, t, ov⟩ = qd at hT hkm hkl
            clear HI2 mo m5 hk5 hgo hR5 hS ht
            by_cases her : er = 0
            · subst her
              rcases (show qd = 1 ∨ qd = 3 ∨ (qd = 0 ∨ qd = 2 ∨ qd = 4) by omega) with rfl | rfl | hq4
              · as_aux_lemma =>
                  obtain ⟨i1, i2⟩ := hT.p rfl rfl
                  have HN := As.mk (fun (w8 : World) (hP8 : PIn w8 pb (i + 1) (upd1 pv t ov)) (hk8 : Kp (· = pb) w5 w8) => show Y13 w2 w8 B r' p q pb cb (i + 1) (upd1 pv t ov) ct from by
                    have x := HI3.out
                    exact ⟨⟨HH.out.1.i.kp hk8 (fun k hk e => x.gp (by rw [← e]; exact hk)), HH.out.1.n, HH.out.1.K.new hk8 (fun k e => by have := x.np; omega)⟩, HH.out.2, i2, hP8, (hC5.kp hk8 (fun e => x.pc e.symm)).mono (by omega), x.pc, x.gp, x.gc, x.np, x.nc⟩)
                  clear hall hT hkl i2 hC5
                  go_wp2_with (first | (at_lookup; refine wp_look_no rfl _ _ rfl pb rfl hP5 t HWT.out rfl i1 ?_; intro cz) | (at_mapUpdate; refine wp_put rfl _ _ _ rfl pb rfl hn hP5 t ov HWT.out HWV.out rfl rfl ?_; intro w8 hP8 hk8) | fail)
                  have HR := As.mk (HN.out w8 hP8 hk8)
                  exact ⟨⟨i + 1, _, _, _, by omega, by go_num, HR⟩, by simp [intOf]; omega⟩
              · as_aux_lemma =>
                  obtain ⟨i1, i3, i2⟩ := hT.g rfl rfl
                  have HN := As.mk (fun (w8 : World) (hC8 : CIn3 w8 cb (i + 1) (upd2 ct oj t)) (hk8 : Kp (· = cb) w5 w8) => show Y13 w2 w8 B r' p q pb cb (i + 1) pv (upd2 ct oj t) from by
                    have x := HI3.out
                    exact ⟨⟨HH.out.1.i.kp hk8 (fun k hk e => x.gc (by rw [← e]; exact hk)), HH.out.1.n, HH.out.1.K.new hk8 (fun k e => by have := x.nc; omega)⟩, HH.out.2, i2, (hP5.kp hk8 x.pc).mono (by omega), hC8, x.pc, x.gp, x.gc, x.np, x.nc⟩)
                  clear hall hT hkl i2 d0 d3
                  have d0 := bk_cell HM5.out 0
                  go_upto_region 21 with (first | (at_lookup; refine wp_look_yes rfl _ _ rfl pb rfl hP5 t xr HWT.out rfl i1 ?_) | fail)
                  have p3d := hC5.kp ((Kp.refl no w5).drew) (fun x => x)
                  obtain ⟨st, w8, w9, l1, m1, l2, s1, hC9, kk8, kk9⟩ := p3d.count hn HWJ.out HWT.out i3
                  have mO7 := bk_qd HM5.out (QD.drew w5)
                  have mO8 := bk_kp mO7 kk8 (fun e => p3d.not_cells mO7 e.symm)
                  have mO9 := bk_kp mO7 kk9 (fun e => p3d.not_cells mO7 e.symm)
                  have f1 := bk_cell mO8 1
                  have f2 := bk_cell mO8 2
                  have f3 := bk_cell mO9 1
                  have f4 := bk_cell mO9 2
                  have HR := As.mk (HN.out w9 hC9 (((Kp.refl (· = cb) w5).drew).trans kk9))
                  clear HN mO7 mO8 mO9 kk8 kk9 HM5 hP5 hC5 i1 i3 p3d
                  have hu : upd2 ct oj t oj t = 1 := if_pos ⟨rfl, rfl⟩
                  have hne : (xr != xr) = false := by simp
                  have l3 := hC9.run HWJ.out HWT.out
                  rw [hu] at l3
                  clear hu hC9
                  go_region
                  all_goals
                    go_wp2
                    exact ⟨⟨i + 1, _, _, _, by omega, by go_num, HR⟩, by simp [intOf]; omega⟩
              · as_aux_lemma =>
                  have HR := hall (hT.s (.inl ⟨by omega, by omega⟩))
                  clear hT hall hP5 hC5 HI3 HM5 HH
                  rcases hq4 with rfl | rfl | rfl
                  all_goals
                    clear hkl
                    go_wp2
                    exact ⟨⟨i + 1, _, _, _, by omega, by go_num, HR⟩, by simp [intOf]; omega⟩
            · as_aux_lemma =>
                have HR := hall (hT.s (.inr her))
                have hf : (er != 0) = true := by simpa using her
                clear her hT hall hP5 hC5 HI3 HM5 HH hkm hkl
                go_wp2
                exact ⟨⟨i + 1, _, _, _, by omega, by go_num, HR⟩, by simp [intOf]; omega⟩
          · go_wp2
            go_ret
            exact ⟨rfl, hK.trans HI.out.R.K⟩
  · as_aux_lemma =>
      have hd : decide ((200 : Int) < (O.length : Int)) = true := decide_eq_true (by omega)
      clear hl hn1 hn2 hrd0 m0
      go_wp2_with fail
      refine awake13.mono ?_
      rintro e w3 ⟨rfl, hk⟩
      replace hK := hK.trans hk
      clear hk
      go_wp2
      go_ret
      exact ⟨rfl, hK⟩
end Go.Proofs.Ytmejnhfggmmefaa.H
