/- Layer 13: RingPlays: whatever is claimed, published, taken, released and closed, each answer, and how the ring stands, is the document's. No condition. -/
import Derived.Test.YtmejnhfggmmefaaL13Q
namespace Go.Proofs.Ytmejnhfggmmefaa.H
open Go.RowKit
set_option linter.unusedVariables false
set_option linter.unusedSimpArgs false
variable {w : World} {B : RB} {r : Rg}

set_option maxRecDepth 100000 in
set_option maxHeartbeats 6400000 in
theorem plays13_nil {bb S : Nat → Prop} {e0 : Value} (h : RG bb S w e0 r) (p : Value) (A : Option Addr) (c : Nat) : Calls Try.prog 58 #[p, e0, .slice A 0 c] w fun e w' => e = .returned (.bool true) ∧ Kp B.own w w' := by
  obtain ⟨A1, c1, A2, c2, rfl⟩ := h.form
  clear h
  go_enter Try.func58, Try.ntmps58
  go_wp2_with fail
  go_loopw [24] (fun v24 wr => v24 = .int .i64 0 ∧ wr = w.alloc (.cells #[.int .u64 r.L.length, .int .u64 r.tail, .slice A1 r.heads.length c1, .bool r.closed, .slice A2 r.L.length c2, .int .i64 r.heads.length] 104)) (fun _ _ => 0)
  case atStart => exact ⟨rfl, rfl⟩
  case round =>
    obtain ⟨rfl, rfl⟩ := hrel
    go_wp2
    go_ret
    exact ⟨rfl, (Kp.refl _ _).alloc _⟩
set_option maxRecDepth 100000 in
set_option maxHeartbeats 6400000 in
theorem RingPlays_calls {v0 v1 : Value} (ho : ∃ o : Rc, v0 = .agg o.vals.toArray ∧ o.ok) (hs : ∃ O : List O12, Rd w v1 O.length (oCells O) ∧ ∀ o ∈ O, o.ok) : Calls Try.prog 18 #[v0, v1] w fun e w' => e = .returned (.bool true) ∧ Kp no w w' := by
  obtain ⟨⟨k, c, R⟩, rfl, -⟩ := ho
  obtain ⟨O, hrd, hok⟩ := hs
  have hrd0 := As.mk hrd
  have HO := As.mk hok
  obtain ⟨A, cap, rfl, hn1, hn2, -⟩ := hrd
  unfold maxLen at hn2
  change Calls Try.prog 18 #[.agg #[.int .i64 k, .int .i64 c, .int .i64 R], _] w _
  clear hok
  go_enter Try.func18, Try.ntmps18
  go_wp2_with fail
  obtain ⟨m0, hK⟩ := box1 (w := w) #[.int .i64 k, .int .i64 c, .int .i64 R] 23
  generalize w.alloc (.cells #[.int .i64 k, .int .i64 c, .int .i64 R] 23) = W at m0 hK ⊢
  generalize w.heap.size = g0 at m0 ⊢
  refine awake13.mono ?_
  rintro e w1 ⟨rfl, hk⟩
  replace m0 := bk_kp m0 hk (fun x => x)
  replace hK := hK.trans hk
  clear hk
  by_cases hl : O.length ≤ 200
  · have hd : decide ((200 : Int) < (O.length : Int)) = false := decide_eq_false (by omega)
    have d0 := bk_cell m0 0
    have d1 := bk_cell m0 1
    have d2 := bk_cell m0 2
    clear hn1 hn2
    cases hm : rMay k c R with
    | false =>
      as_aux_lemma =>
        go_wp2_with fail
        refine (RNew_no k c R hm).mono ?_
        rintro e w2 ⟨rfl, hk⟩
        replace m0 := bk_kp m0 hk (fun x => x)
        replace hK := hK.trans hk
        have d0 := bk_cell m0 0
        have d1 := bk_cell m0 1
        have d2 := bk_cell m0 2
        clear hk
        go_wp2_with fail
        refine (RMay_any k c R).mono ?_
        rintro e w3 ⟨rfl, hk⟩
        rw [hm]
        replace hK := hK.trans hk
        clear hk hm m0 d0 d1 d2 hrd0
        go_wp2
        go_ret
        exact ⟨rfl, hK⟩
    | true =>
      as_aux_lemma =>
        obtain ⟨p, q, rfl, rfl, hp1, hp2, hq1, hq2⟩ := rMay_nat hm
        have hHm := As.mk hm
        have hP := As.mk (And.intro hp1 (And.intro hp2 (And.intro hq1 hq2)))
        replace hrd0 := As.mk (hrd0.out.kp hK (fun _ _ x => x))
        clear hm hp1 hp2 hq1 hq2
        go_wp2_with fail
        refine (RNew_new k p q hHm.out (Kp.refl no w1)).mono ?_
        rintro e w2 ⟨B, rfl, hR, -, -⟩
        replace m0 := bk_kp m0 hR.K (fun x => x)
        have d0 := bk_cell m0 0
        have d1 := bk_cell m0 1
        have d2 := bk_cell m0 2
        have HR := As.mk hR
        clear hR
        go_wp2_with fail
        refine (RMay_any k p q).mono ?_
        rintro e w3 ⟨rfl, hk⟩
        rw [hHm.out]
        replace m0 := bk_kp m0 hk (fun x => x)
        have d0 := bk_cell m0 0
        have d1 := bk_cell m0 1
        have d2 := bk_cell m0 2
        replace HR := As.mk (HR.out.kp hk)
        clear hk
        go_wp2_with fail
        refine (RNew13 (bb := B.own) (S := B.own) k p q hP.out.1 hP.out.2.1 hP.out.2.2.2 HR.out.i.glt HR.out.i.glt).mono ?_
        rintro e w4 ⟨vv, rfl, hrg, hk⟩
        replace HR := As.mk (HR.out.kp hk)
        have HT0 := As.mk (show (⟨0, List.replicate q 0, false, sNew p⟩ : Rg).tail ≤ 0 from Int.le_refl _)
        generalize (⟨0, List.replicate q 0, false, sNew p⟩ : Rg) = r0 at HR hrg HT0
        have HG := As.mk hrg
        obtain ⟨A1, c1, A2, c2, rfl⟩ := hrg.form
        clear hrg hk m0 d0 d1 d2
        go_wp2_with fail
        have hrd := hrd0.out.kp HR.out.K (fun _ _ x => x)
        by_cases hO : O.length = 0
        · rw [hO]
          refine (plays13_nil (B := B) HG.out _ A cap).mono ?_
          rintro e w5 ⟨rfl, hk⟩
          have hK5 := hK.trans (HR.out.K.new hk HR.out.n)
          clear hrd hk hK
          go_wp2
          go_ret
          exact ⟨rfl, hK5⟩
        · obtain ⟨ab, ao, c', he, -, -, hc⟩ := hrd.form (by rw [oCells_len]; omega)
          injection he with e1 e2 e3
          subst e1; subst e3; clear e2
          have hq0 := hc 0 _ (List.getElem?_eq_getElem (by rw [oCells_len]; omega))
          have hal := World.block_lt_of_cell? _ _ hq0
          have h0 := hrd0.out
          obtain ⟨ab2, ao2, c2', he2, -, -, hc2⟩ := h0.form (by rw [oCells_len]; omega)
          injection he2 with q1 q2 q3
          injection q1 with q1
          injection q1 with q1 _ _
          have hq1 := hc2 0 _ (List.getElem?_eq_getElem (by rw [oCells_len]; omega))
          have hal2 := World.block_lt_of_cell? _ _ hq1
          simp only at hal hal2
          refine (plays13 HR.out.i 0 (fun g4 hg => HG.out.more HR.out.i.s.pos HR.out.i.s.hR0 (fun i hi => by rcases hi with hi | rfl; exact .inl hi; exact .inr hg)) O (fun o ho => (HO.out o ho).1) ab ao cap hl (fun hh => by have := HR.out.n _ hh; omega) hal HT0.out (by decide) hc).mono ?_
          rintro e w5 ⟨rfl, hk⟩
          have hK5 := hK.trans (HR.out.K.new hk HR.out.n)
          clear hrd hk hK hc hc2 hq0 hq1
          go_wp2
          go_ret
          exact ⟨rfl, hK5⟩
  · as_aux_lemma =>
      have hd : decide ((200 : Int) < (O.length : Int)) = true := decide_eq_true (by omega)
      clear hl hn1 hn2 hrd0 m0
      go_wp2_with fail
      refine awake13.mono ?_
      rintro e w3 ⟨rfl, hk⟩
      replace hK := hK.trans hk
      clear hk
      go_wp2
      go_ret
      exact ⟨rfl, hK⟩
end Go.Proofs.Ytmejnhfggmmefaa.H
