/- Layer 11: CheckTouches: a thread touches no ring that the program hasn't; one without sends, receives and closes touches none. No condition. -/
import Derived.Test.YthoejimgdhfmiaaChkX
namespace Go.Proofs.Ythoejimgdhfmiaa.H
open Go.RowKit Go.Proofs.Ythoejimgdhfmiaa.PCheckTells Go.Proofs.YthoejimgdhfmiaaW.PrintWords Go.Proofs.YthoejimgdhfmiaaW.PrintLast Go.Proofs.YthoejimgdhfmiaaW.PrintMore
set_option linter.unusedVariables false
set_option linter.unusedSimpArgs false
variable {w : World}

set_option maxRecDepth 100000 in
set_option maxHeartbeats 6400000 in
theorem CheckTouches_calls {v0 : Value} (hp : PgIn w v0) (t : Int) (ht : (Lit.int .i64 t).wf = true) : Calls Try.prog 6 #[v0, .int .i64 t] w fun e w' => e = .returned (.bool true) ∧ Below w.heap.size w w' := by
  obtain ⟨R, T, A0, c0, A1, c1, rfl, hp, hT⟩ := hp
  obtain ⟨k1, b, hfew, hb⟩ := fewF R T 100 (by decide)
  have HPG := As.mk hp
  have HT := As.mk hT
  have HB := As.mk hb
  have HF := As.mk hfew
  clear hp hT hb hfew
  go_enter Try.func6, Try.ntmps6
  go_wp2_with fail
  have m0 := heap_alloc_new w (.cells #[.slice A0 R.length c0, .slice A1 T.length c1] 25)
  have hK := (Kp.refl no w).alloc (.cells #[.slice A0 R.length c0, .slice A1 T.length c1] 25)
  generalize w.alloc (.cells #[.slice A0 R.length c0, .slice A1 T.length c1] 25) = W at m0 hK ⊢
  have hg : w.heap.size = w.heap.size := rfl
  generalize w.heap.size = g0 at m0 ⊢
  refine awake11.mono ?_
  rintro e w1 ⟨rfl, hk⟩
  replace m0 := bk_kp m0 hk (fun x => x)
  replace hK := hK.trans hk
  clear hk hg
  have d0 := bk_cell m0 0
  have d1 := bk_cell m0 1
  go_wp2_with fail
  have hp1 := HPG.out.below hK.below
  refine (rondeauref09_Few.calls k1 A0 c0 R A1 c1 T 100 b _ hp1.r hp1.l0 hp1.t hp1.l1 HF.out).mono ?_
  rintro e w2 ⟨rfl, hbl⟩
  have hk := bk_b hbl
  replace m0 := bk_kp m0 hk (fun x => x)
  replace hK := hK.trans hk
  have d0 := bk_cell m0 0
  have d1 := bk_cell m0 1
  clear hk hbl hp1
  cases b with
  | false =>
    clear m0 d0 d1
    go_wp2_with fail
    refine awake11.mono ?_
    rintro e wz ⟨rfl, hk⟩
    replace hK := hK.trans hk
    clear hk
    go_wp2
    go_ret
    exact ⟨rfl, hK.below⟩
  | true =>
    obtain ⟨hR10, hT10, hl⟩ := HB.out rfl
    obtain ⟨k3, y, hchk⟩ := endF R T (by omega) (by omega)
    obtain ⟨ya, yb, yc⟩ := y
    have href := simF R T HT.out k3 _ hchk
    have HR := As.mk href
    have HC := As.mk hchk
    clear hchk href hl
    go_wp2_with fail
    refine (rRight_calls (HPG.out.below hK.below) HR.out).mono ?_
    rintro e w3 ⟨rfl, hk⟩
    replace m0 := bk_kp m0 hk (fun x => x)
    replace hK := hK.trans hk
    have d0 := bk_cell m0 0
    have d1 := bk_cell m0 1
    clear hk
    by_cases hyc : yc = 0
    · subst hyc
      have hb0 : ((0 : Int) == 0) = true := rfl
      by_cases ht0 : t < 0
      · have htd : decide (t < 0) = true := decide_eq_true ht0
        clear m0 d0 d1
        go_wp2_with fail
        refine awake11.mono ?_
        rintro e wz ⟨rfl, hk⟩
        replace hK := hK.trans hk
        clear hk
        go_wp2
        go_ret
        exact ⟨rfl, hK.below⟩
      · obtain ⟨tn, rfl⟩ := Int.eq_ofNat_of_zero_le (show 0 ≤ t by omega)
        by_cases ht1 : T.length ≤ tn
        · have htl : decide (T.length ≤ tn) = true := decide_eq_true (by omega)
          have htd : decide ((tn : Int) < 0) = false := decide_eq_false (by omega)
          clear m0 d0
          go_wp2_with fail
          refine awake11.mono ?_
          rintro e wz ⟨rfl, hk⟩
          replace hK := hK.trans hk
          clear hk
          go_wp2
          go_ret
          exact ⟨rfl, hK.below⟩
        · as_aux_lemma =>
            have htl : decide (T.length ≤ tn) = false := decide_eq_false (by omega)
            have htd : decide ((tn : Int) < 0) = false := decide_eq_false (by omega)
            have htt : (tn : Int) < (T.length : Int) := by omega
            have hnn : (0 : Int) ≤ (tn : Int) := by omega
            obtain ⟨ad, _, _, hA0, hcell0, -, -⟩ := at_L4 HPG.out.t 0 (Int.le_refl 0) (by omega)
            obtain ⟨ab, ao, rfl⟩ := ad_form (show w.cell? (ad.add 0) = _ from hcell0)
            subst hA0
            obtain ⟨ad, AL, cL, hA, hcell, hLc, hLC⟩ := at_L4 HPG.out.t (tn : Int) hnn htt
            obtain rfl := Option.some.inj hA
            clear hcell0 hA
            rw [Int.toNat_natCast, add_none] at hcell
            have hOK := (okF HC.out).2 (tn : Int) hnn htt
            have hR8 := (okF HC.out).1.2.2
            have hl256 : (rd_L4 T tn).length ≤ 256 := hOK.1
            obtain ⟨k2, out, hk2, hlen, hin⟩ := reachF (okJ_of hOK (HT.out _ (rd_memL hnn htt)))
            have hrun : ∀ i, i < (ownC (rd_L4 T tn) out 8).length → 0 ≤ (ownC (rd_L4 T tn) out 8).getD i 0 ∧ (ownC (rd_L4 T tn) out 8).getD i 0 < R.length := fun i hi => by
              have hm : (ownC (rd_L4 T tn) out 8).getD i 0 ∈ ownC (rd_L4 T tn) out 8 := by
                rw [List.getD_eq_getElem?_getD, List.getElem?_eq_getElem hi]; exact List.getElem_mem _
              obtain ⟨r, h1, h2, h3⟩ := mem_ownC.1 hm
              obtain ⟨j, h4, h5, h6⟩ := has_iff.1 h2
              unfold hit at h5
              rw [Bool.and_eq_true, Bool.and_eq_true, decide_eq_true_eq, decide_eq_true_eq] at h5
              have := okC hOK h4 h5.2.1 h5.2.2
              omega
            have hups : ∀ i, i + 1 < (ownC (rd_L4 T tn) out 8).length → (ownC (rd_L4 T tn) out 8).getD i 0 < (ownC (rd_L4 T tn) out 8).getD (i + 1) 0 := fun i hi => by
              have := List.pairwise_iff_getElem.1 (ownC_lt (rd_L4 T tn) out 8) i (i + 1) (by omega) hi (by omega)
              rw [List.getD_eq_getElem?_getD, List.getElem?_eq_getElem (by omega), List.getD_eq_getElem?_getD, List.getElem?_eq_getElem hi]
              exact this
            have hnone : (∀ j, j < (rd_L4 T tn).length → ¬ (18 ≤ ((rd_L4 T tn).getD j z48).f0 ∧ ((rd_L4 T tn).getD j z48).f0 ≤ 20)) → (ownC (rd_L4 T tn) out 8).length = 0 := fun h => by
              refine List.length_eq_zero_iff.2 (List.eq_nil_iff_forall_not_mem.2 fun x hx => ?_)
              obtain ⟨r, h1, h2, h3⟩ := mem_ownC.1 hx
              obtain ⟨j, h4, h5, h6⟩ := has_iff.1 h2
              unfold hit at h5
              rw [Bool.and_eq_true, Bool.and_eq_true, decide_eq_true_eq, decide_eq_true_eq] at h5
              exact h j h4 ⟨h5.2.1, h5.2.2⟩
            have hlen8 := ownC_len (rd_L4 T tn) out 8
            have HTA := As.mk (fun (W : World) (hp : PgAt W R T A0 c0 (some ⟨ab, ao, none⟩) c1) => Touches_any (tn := tn) hp HC.out HT.out (by omega) hlen hin)
            have HLC := As.mk hLC
            have HCL := As.mk hcell
            clear hOK hR8 hk2 hlen hin hcell hLC HR HB HF hR10 hT10 ht0 ht1
            generalize ownC (rd_L4 T (tn : Int)) out 8 = own at hrun hups hnone hlen8 HTA
            generalize rd_L4 T (tn : Int) = l at hl256 hLc HLC HCL hnone
            have HRU := As.mk hrun
            have HUP := As.mk hups
            have HNO := As.mk hnone
            clear hrun hups hnone
            go_wp2_with fail
            refine (HTA.out _ (HPG.out.below hK.below)).mono ?_
            rintro e w4 ⟨A, c, rfl, hcc, hin, hk⟩
            have HIN := As.mk hin
            replace m0 := bk_kp m0 hk (fun x => x)
            have d0 := bk_cell m0 0
            have d1 := bk_cell m0 1
            have HK4 := As.mk (hK.trans hk)
            have hcell : w4.cell? ⟨ab, ao + tn, none⟩ = some (.slice AL l.length cL) := (World.cell?_of_block (HK4.out.block ab (World.block_lt_of_cell? _ _ HCL.out) (fun x => x))).trans HCL.out
            have HM0 := As.mk m0
            have HL4 := As.mk (Kd.C_below HLC.out HK4.out.below)
            clear hk hin hK HTA m0
            go_wp2_with fail
            clear d0 d1 hcell
            go_loopw [7, 48] (fun v7 v48 wr => ∃ (k : Nat) (so : Bool), k ≤ l.length ∧ v48 = .int .i64 k ∧ v7 = .bool so ∧ As (so = false → ∀ j, j < k → ¬ (18 ≤ (l.getD j z48).f0 ∧ (l.getD j z48).f0 ≤ 20)) ∧ As (Kp no w4 wr)) (fun _ v48 _ => l.length - (intOf v48).toNat)
            case atStart => exact ⟨0, false, Nat.zero_le _, rfl, rfl, ⟨fun _ j h => absurd h (Nat.not_lt_zero j)⟩, ⟨Kp.refl _ _⟩⟩
            case round =>
              obtain ⟨k, so, hk, rfl, rfl, hno, hKr⟩ := hrel
              by_cases hlt : k < l.length
              · as_aux_lemma =>
                  obtain ⟨b, o, hA, hfs⟩ := C48_cells (Kd.C_below HL4.out hKr.out.below) (by omega)
                  subst hA
                  obtain ⟨f0, f1, f2, f3, f4, f5⟩ := hfs k hlt
                  have hlt2 : (k : Int) < (l.length : Int) := by omega
                  have hnn2 : (0 : Int) ≤ (k : Int) := by omega
                  have hk256 : k < 1000 := by omega
                  have HLT := As.mk hlt
                  have hnx : so = false → ¬ (18 ≤ (l.getD k z48).f0 ∧ (l.getD k z48).f0 ≤ 20) → ∀ j, j < k + 1 → ¬ (18 ≤ (l.getD j z48).f0 ∧ (l.getD j z48).f0 ≤ 20) := fun h1 h2 j hj => by
                    by_cases e : j = k
                    · subst e; exact h2
                    · exact hno.out h1 j (by omega)
                  generalize l.getD k z48 = x at f0 f1 f2 f3 f4 f5 hnx
                  have hKn := As.mk (hKr.out.alloc (.cells #[.int .i64 x.f0, .int .i64 x.f1, .int .i64 x.f2, .int .i64 x.f3, .int .i64 x.f4, .int .u64 x.f5] 48))
                  clear hno hk
                  cases so with
                  | true =>
                    clear hnx hfs hlt
                    go_wp2_with fail
                    exact ⟨⟨k + 1, true, by have := HLT.out; omega, by go_num, rfl, ⟨fun h => by cases h⟩, hKn⟩, by have := HLT.out; simp [intOf]; omega⟩
                  | false =>
                    by_cases h18 : x.f0 = 18
                    · rw [h18] at f0 hKn
                      clear hnx hfs hlt
                      go_wp2_with fail
                      exact ⟨⟨k + 1, true, by have := HLT.out; omega, by go_num, rfl, ⟨fun h => by cases h⟩, hKn⟩, by have := HLT.out; simp [intOf]; omega⟩
                    · by_cases h19 : x.f0 = 19
                      · rw [h19] at f0 hKn
                        clear h18
                        clear hnx hfs hlt
                        go_wp2_with fail
                        exact ⟨⟨k + 1, true, by have := HLT.out; omega, by go_num, rfl, ⟨fun h => by cases h⟩, hKn⟩, by have := HLT.out; simp [intOf]; omega⟩
                      · by_cases h20 : x.f0 = 20
                        · rw [h20] at f0 hKn
                          clear h18 h19
                          clear hnx hfs hlt
                          go_wp2_with fail
                          exact ⟨⟨k + 1, true, by have := HLT.out; omega, by go_num, rfl, ⟨fun h => by cases h⟩, hKn⟩, by have := HLT.out; simp [intOf]; omega⟩
                        · have g18 : (x.f0 == 18) = false := beq_eq_false_iff_ne.2 h18
                          have g19 : (x.f0 == 19) = false := beq_eq_false_iff_ne.2 h19
                          have g20 : (x.f0 == 20) = false := beq_eq_false_iff_ne.2 h20
                          have HNX := As.mk (hnx rfl (by omega))
                          clear h18 h19 h20
                          clear hnx hfs hlt
                          go_wp2_with fail
                          exact ⟨⟨k + 1, false, by have := HLT.out; omega, by go_num, rfl, ⟨fun _ => HNX.out⟩, hKn⟩, by have := HLT.out; simp [intOf]; omega⟩
              · obtain rfl : k = l.length := by omega
                have HSO := As.mk (fun h => HNO.out (hno.out h))
                have m0 := bk_kp HM0.out hKr.out (fun x => x)
                have d0 := bk_cell m0 0
                have HK5 := As.mk (HK4.out.trans hKr.out)
                have HI5 := As.mk (show InC wr A own from HIN.out.elim Or.inl (fun ⟨g, e, h⟩ => Or.inr ⟨g, e, fun j hj => (World.cell?_of_block (hKr.out.block g (World.block_lt_of_cell? _ _ (h j hj)) (fun x => x))).trans (h j hj)⟩))
                clear hlt hk hno HIN hKr m0
                go_wp2_with fail
                go_loopw [71] (fun v71 wq => ∃ (i : Nat), i ≤ own.length ∧ v71 = .int .i64 i ∧ wq = wr) (fun v71 _ => own.length - (intOf v71).toNat)
                case atStart => exact ⟨0, Nat.zero_le _, rfl, rfl⟩
                case round =>
                  obtain ⟨i, hi, rfl, rfl⟩ := hrel
                  by_cases hlt : i < own.length
                  · as_aux_lemma =>
                      obtain ⟨g, hA, hcs⟩ := HI5.out.resolve_left (by omega)
                      subst hA
                      have ci := hcs i hlt
                      obtain ⟨hr0, hr1⟩ := HRU.out i hlt
                      have hlt2 : (i : Int) < (own.length : Int) := by omega
                      have hnn2 : (0 : Int) ≤ (i : Int) := by omega
                      have HLT := As.mk hlt
                      have him : i < 1000 := by omega
                      cases i with
                      | zero =>
                        generalize own.getD 0 0 = r at ci hr0 hr1
                        have e1 : decide (r < 0) = false := decide_eq_false (by omega)
                        have e2 : decide ((R.length : Int) ≤ r) = false := decide_eq_false (by omega)
                        clear hcs hlt hi hr0 hr1 him
                        go_wp2_with fail
                        exact ⟨⟨0 + 1, by have := HLT.out; omega, by go_num, by trivial⟩, by have := HLT.out; simp [intOf]; omega⟩
                      | succ i' =>
                        have cj := hcs i' (by omega)
                        have hup := HUP.out i' hlt
                        generalize own.getD (i' + 1) 0 = r at ci hr0 hr1 hup
                        generalize own.getD i' 0 = q at cj hup
                        have e1 : decide (r < 0) = false := decide_eq_false (by omega)
                        have e2 : decide ((R.length : Int) ≤ r) = false := decide_eq_false (by omega)
                        have e3 : decide (r ≤ q) = false := decide_eq_false (by omega)
                        have e4 : decide ((0 : Int) < (i' : Int) + 1) = true := decide_eq_true (by omega)
                        have e5 : (i' : Int) < (own.length : Int) := by omega
                        have e6 : (0 : Int) ≤ (i' : Int) := by omega
                        clear hcs hlt hi hr0 hr1 hup
                        go_wp2_with fail
                        exact ⟨⟨i' + 1 + 1, by have := HLT.out; omega, by go_num, by trivial⟩, by have := HLT.out; simp [intOf]; omega⟩
                  · obtain rfl : i = own.length := by omega
                    cases so with
                    | true =>
                      clear hlt hi
                      go_wp2_with fail
                      go_ret
                      exact ⟨rfl, HK5.out.below⟩
                    | false =>
                      have h0 := HSO.out rfl
                      clear hlt hi
                      go_wp2_with fail
                      go_ret
                      exact ⟨rfl, HK5.out.below⟩
    · have hb0 : (yc == 0) = false := by simpa using hyc
      clear m0 d0 d1
      go_wp2_with fail
      refine awake11.mono ?_
      rintro e wz ⟨rfl, hk⟩
      replace hK := hK.trans hk
      clear hk
      go_wp2
      go_ret
      exact ⟨rfl, hK.below⟩
end Go.Proofs.Ythoejimgdhfmiaa.H
