/- Layer 13: RingClosed, walked. No condition. -/
import Derived.Test.YtmejnhfggmmefaaL13B
namespace Go.Proofs.Ytmejnhfggmmefaa.H
open Go.RowKit
set_option linter.unusedVariables false
set_option linter.unusedSimpArgs false
variable {w : World}

theorem ne_self (x : Int) : (x != x) = false := by simp
set_option maxRecDepth 100000 in
set_option maxHeartbeats 6400000 in
theorem RingClosed_calls {v0 v1 : Value} (ho : ∃ o : Rc, v0 = .agg o.vals.toArray ∧ o.ok) (hs : ∃ O : List Int, Rd w v1 O.length (u64s O) ∧ ∀ o ∈ O, u64ok o) : Calls Try.prog 16 #[v0, v1] w fun e w' => e = .returned (.bool true) ∧ Kp no w w' := by
  obtain ⟨⟨k, c, R⟩, rfl, -⟩ := ho
  obtain ⟨vs, hrd, hok⟩ := hs
  have hrd0 := As.mk hrd
  obtain ⟨A, cap, rfl, hn1, hn2, -⟩ := hrd
  unfold maxLen at hn2
  change Calls Try.prog 16 #[.agg #[.int .i64 k, .int .i64 c, .int .i64 R], _] w _
  clear hok
  go_enter Try.func16, Try.ntmps16
  go_wp2_with fail
  obtain ⟨m0, hK⟩ := box1 (w := w) #[.int .i64 k, .int .i64 c, .int .i64 R] 23
  generalize w.alloc (.cells #[.int .i64 k, .int .i64 c, .int .i64 R] 23) = W at m0 hK ⊢
  generalize w.heap.size = g0 at m0 ⊢
  refine awake13.mono ?_
  rintro e w1 ⟨rfl, hk⟩
  replace m0 := bk_kp m0 hk (fun x => x)
  replace hK := hK.trans hk
  clear hk
  have d0 := bk_cell m0 0
  have d1 := bk_cell m0 1
  have d2 := bk_cell m0 2
  go_wp2_with fail
  refine (RMay_any k c R).mono ?_
  rintro e w2 ⟨rfl, hk⟩
  replace m0 := bk_kp m0 hk (fun x => x)
  replace hK := hK.trans hk
  clear hk d0 d1 d2
  cases hm : rMay k c R with
  | false =>
    as_aux_lemma =>
      clear hrd0 hn1 hn2 m0
      go_wp2_with fail
      refine awake13.mono ?_
      rintro e w3 ⟨rfl, hk⟩
      replace hK := hK.trans hk
      clear hk
      go_wp2
      go_ret
      exact ⟨rfl, hK⟩
  | true =>
    obtain ⟨p, q, rfl, rfl, hp1, hp2, hq1, hq2⟩ := rMay_nat hm
    have d0 := bk_cell m0 0
    have d1 := bk_cell m0 1
    have d2 := bk_cell m0 2
    by_cases hl : p < vs.length
    · as_aux_lemma =>
        have hd : decide (p < vs.length) = true := decide_eq_true hl
        clear hm hl hrd0 hn1 hn2 hp1 hp2 hq1 hq2
        go_wp2_with fail
        refine awake13.mono ?_
        rintro e w3 ⟨rfl, hk⟩
        replace hK := hK.trans hk
        clear hk
        go_wp2
        go_ret
        exact ⟨rfl, hK⟩
    · have hd : decide (p < vs.length) = false := decide_eq_false hl
      have hHm := As.mk hm
      have hP := As.mk (And.intro hp1 (And.intro hp2 (And.intro hq1 (And.intro hq2 (show vs.length ≤ p by omega)))))
      have hn64 : vs.length ≤ 64 := by omega
      have hq8 : q ≤ 8 := hq2
      clear hm hl hn1 hn2 hp1 hp2 hq1 hq2
      replace hrd0 := As.mk (hrd0.out.kp hK (fun _ _ x => x))
      go_wp2_with fail
      refine (RNew_new k p q hHm.out (Kp.refl no w2)).mono ?_
      rintro e w3 ⟨B, rfl, hR, -, -⟩
      have HR := As.mk hR
      have HM := As.mk m0
      clear hR d0 d1 d2 m0
      go_wp2
      go_loopw [46] (fun v46 wr => ∃ i : Nat, i ≤ vs.length ∧ v46 = .int .i64 i ∧ As (RgNew w2 wr B (cR1 p q vs i))) (fun v46 _ => vs.length - (intOf v46).toNat)
      case atStart => exact ⟨0, Nat.zero_le _, rfl, ⟨by have := HR.out; unfold cR1; rw [cA_zero]; exact this⟩⟩
      case round =>
        as_aux_lemma =>
          obtain ⟨i, hi, rfl, HI⟩ := hrel
          by_cases hlt : i < vs.length
          · as_aux_lemma =>
              have hr := hrd0.out.kp HI.out.K (fun _ _ x => x)
              obtain ⟨ab, ao, c', he, -, -, hc⟩ := hr.form (by rw [u64s_len]; omega)
              injection he with e1 e2 e3
              subst e1; subst e3; clear e2
              have hc0 := hc i _ (u64s_get vs i hlt)
              have hne := ne_self (i : Int)
              generalize hx : vs.getD i 0 = x at hc0
              have hX := As.mk hx
              clear hr hc hx
              go_wp2_with fail
              refine (Claim_new HI.out (by show (i : Int) + 1 < _; omega)).mono ?_
              rw [c_claim (by have := hP.out; omega) (by have := hP.out; omega)]
              rintro e w4 ⟨rfl, hR4, -⟩
              clear hc0
              go_wp2_with fail
              refine (Publish_new (t := (i : Int)) (v := x) hR4 (by omega)).mono ?_
              rw [← hX.out, c_pub (by have := hP.out; omega) (by have := hP.out; omega)]
              rintro e w5 ⟨rfl, hR5, -⟩
              have HR5 := As.mk hR5
              clear hR4 hR5
              go_wp2
              exact ⟨⟨i + 1, by omega, by go_num, HR5⟩, by simp [intOf]; omega⟩
          · have hin : i = vs.length := by omega
            subst hin
            clear hlt hi
            go_wp2_with fail
            refine (Close_new HI.out).mono ?_
            rintro e w4 ⟨rfl, hR4, -⟩
            rw [c_start (by have := hP.out; omega) (by have := hP.out; omega)] at hR4
            go_wp2_with fail
            refine (Close_new hR4).mono ?_
            rintro e w5 ⟨rfl, hR5, -⟩
            change RgNew w2 w5 B (cR2 p q vs 0 0) at hR5
            have m5 := bk_kp HM.out hR5.K (fun x => x)
            have d2 := bk_cell m5 2
            have HR5 := As.mk hR5
            clear hR4 hR5 HI m5
            go_wp2
            clear d2
            go_loopw [82] (fun v82 wr => ∃ j : Nat, j ≤ q ∧ v82 = .int .i64 j ∧ As (RgNew w2 wr B (cR2 p q vs j 0))) (fun v82 _ => q - (intOf v82).toNat)
            case atStart => exact ⟨0, Nat.zero_le _, rfl, HR5⟩
            case round =>
              as_aux_lemma =>
                obtain ⟨j, hj, rfl, HJ⟩ := hrel
                by_cases hlj : j < q
                · rename_i wo _ _
                  go_wp2
                  go_loopw [87] (fun v87 wr => ∃ i : Nat, i ≤ vs.length ∧ v87 = .int .i64 i ∧ As (RgNew w2 wr B (cR2 p q vs j i))) (fun v87 _ => vs.length - (intOf v87).toNat)
                  case atStart => exact ⟨0, Nat.zero_le _, rfl, HJ⟩
                  case round =>
                    as_aux_lemma =>
                      obtain ⟨i, hi, rfl, HI⟩ := hrel
                      by_cases hlt : i < vs.length
                      · have hr := hrd0.out.kp HI.out.K (fun _ _ x => x)
                        obtain ⟨ab, ao, c', he, -, -, hc⟩ := hr.form (by rw [u64s_len]; omega)
                        injection he with e1 e2 e3
                        subst e1; subst e3; clear e2
                        have hc0 := hc i _ (u64s_get vs i hlt)
                        have hne := ne_self (i : Int)
                        generalize hx : vs.getD i 0 = x at hc0
                        have hX := As.mk hx
                        have hne2 := ne_self x
                        clear hr hc hx
                        go_wp2_with fail
                        refine (Take_new HI.out (j : Int)).mono ?_
                        rw [c_take hlj hlt]
                        rintro e w6 ⟨rfl, hR6, -⟩
                        clear hc0
                        go_wp2_with fail
                        refine (Release_new (t := (i : Int)) hR6 (by omega) (j : Int)).mono ?_
                        rw [c_rel hlj (by have := hP.out; omega) hlt (by have := hP.out; omega) (by have := hP.out; omega), hX.out]
                        rintro e w7 ⟨rfl, hR7, -⟩
                        have HR7 := As.mk hR7
                        clear hR6 hR7
                        go_wp2
                        exact ⟨⟨i + 1, by omega, by go_num, HR7⟩, by simp [intOf]; omega⟩
                      · have hin : i = vs.length := by omega
                        subst hin
                        clear hlt hi
                        go_wp2_with fail
                        refine (Take_new HI.out (j : Int)).mono ?_
                        rw [(c_end hlj).1]
                        rintro e w6 ⟨rfl, hR6, -⟩
                        go_wp2_with fail
                        refine (Empty_any hR6.i (j : Int)).mono ?_
                        rw [(c_end hlj).2]
                        rintro e w7 ⟨rfl, hq⟩
                        replace hR6 := hR6.qd hq
                        rw [c_next] at hR6
                        have HR7 := As.mk hR6
                        clear hR6 hq
                        go_wp2
                        exact ⟨⟨j + 1, by omega, by go_num, HR7⟩, by simp [intOf]; omega⟩
                · have hjq : j = q := by omega
                  subst hjq
                  go_wp2_with fail
                  refine (Claim_new HJ.out (by show (vs.length : Int) + 1 < _; omega)).mono ?_
                  rw [c_clo]
                  rintro e w6 ⟨rfl, hR6, -⟩
                  have hKf := hK.trans hR6.K
                  clear hR6 HJ
                  go_wp2
                  go_ret
                  exact ⟨rfl, hKf⟩
end Go.Proofs.Ytmejnhfggmmefaa.H
