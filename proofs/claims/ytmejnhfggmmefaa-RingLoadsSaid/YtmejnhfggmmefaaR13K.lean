/- Layer 13's reference: Loads. No condition. -/
import Derived.Test.YtmejnhfggmmefaaR13H
import Derived.Test.YtmejnhfggmmefaaR13J
namespace Go.Proofs.Ytmejnhfggmmefaa.H
open Go.RowKit
set_option linter.unusedVariables false
set_option linter.unusedSimpArgs false
variable {w : World}

def loads13 (p q : Nat) (T : Int) (H : List Int) (M : List Sl) : Bool := ((H.length : Int) == q) && (decide (T < 4611686018427387904) && (loadB p q M && (headsB T p H && placesB T p H M)))
set_option maxRecDepth 100000 in
set_option maxHeartbeats 6400000 in
theorem RLoads_no (k : Int) (p q : Nat) (h1 : 1 ≤ p) (h2 : p ≤ 64) (h3 : 1 ≤ q) (h4 : q ≤ 8) {v2 : Value} {A1 : Option Addr} {n1 c1 : Nat} (T : Int) (cl : Bool) (M : List Sl) (hT0 : 0 ≤ T) (hwf : ∀ x ∈ M, 0 ≤ x.st ∧ x.st < 18446744073709551616)
    (hM : Rd w v2 M.length (slCells M)) (hbad : n1 ≠ q ∨ 4611686018427387904 ≤ T ∨ loadB p q M = false) :
    Calls Try.prog 62 #[.agg #[.int .i64 k, .int .i64 p, .int .i64 q], .agg #[.int .u64 T, .slice A1 n1 c1, .bool cl, v2]] w fun e w' => e = .returned (.bool false) ∧ Kp no w w' := by
  obtain ⟨A2, c2, rfl⟩ := rd_form0 hM
  have HM := As.mk hM
  have HP := As.mk (And.intro h1 (And.intro h2 h4))
  have HW := As.mk hwf
  obtain ⟨m0, m1, hK, hsz⟩ := alloc2 (w := w) #[.int .i64 k, .int .i64 p, .int .i64 q] #[.int .u64 T, .slice A1 n1 c1, .bool cl, .slice A2 M.length c2] 23 92
  have d1 := bk_cell m0 1
  have d2 := bk_cell m0 2
  have e0 := bk_cell m1 0
  have e1 := bk_cell m1 1
  have e3 := bk_cell m1 3
  have HK := As.mk hK
  clear hM h1 h2 h3 h4 hwf m0 m1 hK hsz
  by_cases ha : n1 = q
  · subst ha
    have hb1 : ((n1 : Int) != (n1 : Int)) = false := by simp
    by_cases hT : 4611686018427387904 ≤ T
    · have hb2 : decide (4611686018427387904 ≤ T) = true := decide_eq_true hT
      clear hbad hT
      go_enter Try.func62, Try.ntmps62
      go_wp2_with fail
      go_ret
      exact ⟨rfl, HK.out⟩
    · have hb2 : decide (4611686018427387904 ≤ T) = false := decide_eq_false hT
      have hl := As.mk (show loadB p n1 M = false from by rcases hbad with h | h | h; exact absurd rfl h; exact absurd h hT; exact h)
      clear hbad hT
      go_enter Try.func62, Try.ntmps62
      go_wp2_with fail
      refine (RRight_any p n1 HP.out.1 HP.out.2.1 HP.out.2.2 M HW.out (HM.out.kp HK.out (fun _ _ x => x))).mono ?_
      rintro e w1 ⟨rfl, hk⟩
      rw [hl.out]
      have K := As.mk (HK.out.trans hk)
      clear d1 d2 e0 e1 e3 hk
      go_wp2_with fail
      go_ret
      exact ⟨rfl, K.out⟩
  · have hb1 : ((n1 : Int) != (q : Int)) = true := by simp; omega
    clear hbad ha
    go_enter Try.func62, Try.ntmps62
    go_wp2_with fail
    go_ret
    exact ⟨rfl, HK.out⟩
set_option maxRecDepth 100000 in
set_option maxHeartbeats 6400000 in
theorem RLoads_main (k : Int) (p q : Nat) (h1 : 1 ≤ p) (h2 : p ≤ 64) (h3 : 1 ≤ q) (h4 : q ≤ 8) (hb ho c1 ab ao c2 : Nat) (T : Int) (cl : Bool) (H : List Int) (M : List Sl) (hT0 : 0 ≤ T) (hT : T < 4611686018427387904) (hwf : ∀ x ∈ M, 0 ≤ x.st ∧ x.st < 18446744073709551616)
    (hHc : ∀ k, k < H.length → w.cell? ⟨hb, ho + k, none⟩ = some (.int .u64 (H.getD k 0))) (hHw : ∀ x ∈ H, 0 ≤ x ∧ x < 18446744073709551616)
    (hM : Rd w (.slice (some ⟨ab, ao, none⟩) M.length c2) M.length (slCells M)) (hMc : ∀ j u, (slCells M)[j]? = some u → w.cell? ⟨ab, ao + j, none⟩ = some u) (hl : loadB p q M = true) (hq : H.length = q) (hpM : M.length = p) :
    Calls Try.prog 62 #[.agg #[.int .i64 k, .int .i64 p, .int .i64 q], .agg #[.int .u64 T, .slice (some ⟨hb, ho, none⟩) H.length c1, .bool cl, .slice (some ⟨ab, ao, none⟩) M.length c2]] w fun e w' => e = .returned (.bool (headsB T p H && placesB T p H M)) ∧ Kp no w w' := by
  have HP := As.mk (And.intro h1 (And.intro h2 (And.intro h3 h4)))
  have HW := As.mk hwf
  have HM := As.mk hM
  have HMc := As.mk hMc
  have HHc := As.mk hHc
  have HHW := As.mk hHw
  have HL := As.mk hl
  have HQ := As.mk (And.intro hq hpM)
  have HT := As.mk (And.intro hT0 hT)
  have hH8 : H.length ≤ 8 := by omega
  have hM64 : M.length ≤ 64 := by omega
  have hqb : ((H.length : Int) != (q : Int)) = false := by rw [hq]; simp
  have hTd : decide (4611686018427387904 ≤ T) = false := decide_eq_false (by omega)
  have hwp : IntKind.u64.wrap (p : Int) = (p : Int) := by rw [IntKind.wrap_u64]; omega
  obtain ⟨m0, m1, hK, hsz⟩ := alloc2 (w := w) #[.int .i64 k, .int .i64 p, .int .i64 q] #[.int .u64 T, .slice (some ⟨hb, ho, none⟩) H.length c1, .bool cl, .slice (some ⟨ab, ao, none⟩) M.length c2] 23 92
  clear h1 h2 h3 h4 hwf hM hMc hHc hHw hl hq hpM hT0 hT hsz
  go_enter Try.func62, Try.ntmps62
  go_wp2_with fail
  generalize (w.alloc (.cells #[.int .i64 k, .int .i64 p, .int .i64 q] 23)).alloc (.cells #[.int .u64 T, .slice (some ⟨hb, ho, none⟩) H.length c1, .bool cl, .slice (some ⟨ab, ao, none⟩) M.length c2] 92) = W at m0 m1 hK ⊢
  have HK := As.mk hK
  have M0 := As.mk m0
  have M1 := As.mk m1
  have d1 := bk_cell m0 1
  have d2 := bk_cell m0 2
  have e0 := bk_cell m1 0
  have e1 := bk_cell m1 1
  have e3 := bk_cell m1 3
  clear m0 m1 hK
  go_wp2_with fail
  refine (RRight_any p q HP.out.1 HP.out.2.1 HP.out.2.2.2 M HW.out (HM.out.kp HK.out (fun _ _ x => x))).mono ?_
  rintro e w1 ⟨rfl, hk⟩
  rw [HL.out]
  replace HK := As.mk (HK.out.trans hk)
  replace M0 := As.mk (bk_kp M0.out hk (fun x => x))
  replace M1 := As.mk (bk_kp M1.out hk (fun x => x))
  clear hk d1 d2 e0 e1 e3 W
  go_wp2_with fail
  go_loopw [5] (fun v5 wr => ∃ j : Nat, j ≤ H.length ∧ v5 = .int .i64 j ∧ As (∀ i : Nat, i < j → H.getD i 0 ≤ T ∧ T - H.getD i 0 ≤ p) ∧ Kp no w1 wr) (fun v5 _ => H.length - (intOf v5).toNat)
  case atStart => exact ⟨0, Nat.zero_le _, rfl, ⟨fun i hi => by omega⟩, Kp.refl _ _⟩
  case round =>
    obtain ⟨j, hj, rfl, hJ, hkr⟩ := hrel
    have hKr := As.mk hkr
    clear hkr
    have m0 := bk_kp M0.out hKr.out (fun x => x)
    have m1 := bk_kp M1.out hKr.out (fun x => x)
    have d1 := bk_cell m0 1
    have e0 := bk_cell m1 0
    have e1 := bk_cell m1 1
    by_cases hlt : j < H.length
    · as_aux_lemma =>
        have hc := HHc.out j hlt
        have hc2 : wr.cell? ⟨hb, ho + j, none⟩ = _ := (World.cell?_of_block ((HK.out.trans hKr.out).block hb (World.block_lt_of_cell? _ _ hc) (fun x => x))).trans hc
        have hlt2 : (j : Int) < (H.length : Int) := by omega
        have hnn : (0 : Int) ≤ (j : Int) := by omega
        have hq0 := HHW.out (H.getD j 0) (by rw [List.getD_eq_getElem?_getD, List.getElem?_eq_getElem hlt]; exact List.getElem_mem _)
        have hEq : H[j] = H.getD j 0 := by simp [List.getD, hlt]
        have HEq := As.mk hEq
        clear hEq hc m0 m1
        generalize hqq : H.getD j 0 = x at hc2 hq0 HEq
        have HX := As.mk hqq
        clear hqq
        by_cases hx1 : x ≤ T
        · have hdx : decide (T < x) = false := decide_eq_false (by omega)
          have hw : IntKind.u64.wrap (T - x) = T - x := by have := HT.out; rw [IntKind.wrap_u64]; omega
          by_cases hx2 : T - x ≤ p
          · have hdx2 : decide ((p : Int) < T - x) = false := decide_eq_false (by omega)
            have hJ2 : As (∀ i : Nat, i < j + 1 → H.getD i 0 ≤ T ∧ T - H.getD i 0 ≤ p) := ⟨fun i hi => by
              by_cases e : i = j
              · rw [e, HX.out]; exact ⟨hx1, hx2⟩
              · exact hJ.out i (by omega)⟩
            clear hx1 hx2 hJ hq0
            go_wp2_with (first | (refine wpStill_op (by rfl) (by rfl) (fun K hK => ?_)) | (refine wpStill_nil ?_) | (refine wpStill_want (by rfl) (by rfl) (fun K hK => ?_)) | (refine wpStill_skip (by rfl) ?_; simp only [Act.put, List.setIfInBounds_toArray, List.set_cons_zero, List.set_cons_succ]) | (refine reg_still (id := 6) (by kernel_rfl) (by kernel_rfl) ?_))
            exact ⟨⟨j + 1, by omega, by go_num, hJ2, hKr.out.drew⟩, by simp [intOf]; omega⟩
          · have hdx2 : decide ((p : Int) < T - x) = true := decide_eq_true (by omega)
            have hF : As (headsB T p H = false) := ⟨by
              unfold headsB
              rw [List.all_eq_false]
              refine ⟨H[j], List.getElem_mem hlt, ?_⟩
              rw [HEq.out, decide_eq_true hx1, decide_eq_false hx2]; decide⟩
            clear hx1 hx2 hJ hq0
            go_wp2_with (first | (refine wpStill_op (by rfl) (by rfl) (fun K hK => ?_)) | (refine wpStill_nil ?_) | (refine wpStill_want (by rfl) (by rfl) (fun K hK => ?_)) | (refine wpStill_skip (by rfl) ?_; simp only [Act.put, List.setIfInBounds_toArray, List.set_cons_zero, List.set_cons_succ]) | (refine reg_still (id := 6) (by kernel_rfl) (by kernel_rfl) ?_))
            go_ret
            exact ⟨by rw [hF.out]; rfl, (HK.out.trans hKr.out).drew⟩
        · have hdx : decide (T < x) = true := decide_eq_true (by omega)
          have hF : As (headsB T p H = false) := ⟨by
            unfold headsB
            rw [List.all_eq_false]
            refine ⟨H[j], List.getElem_mem hlt, ?_⟩
            rw [HEq.out, decide_eq_false hx1]; simp⟩
          clear hx1 hJ hq0
          go_upto_region 6 with fail
          go_quiet (fail)
          go_wp2_with fail
          go_ret
          exact ⟨by rw [hF.out]; rfl, (HK.out.trans hKr.out).drewN _⟩
    · have hhd : As (headsB T p H = true) := ⟨by
        unfold headsB
        rw [List.all_eq_true]
        intro x hx
        obtain ⟨i, hi, rfl⟩ := List.mem_iff_getElem.1 hx
        have := hJ.out i (by omega)
        have e : H.getD i 0 = H[i] := by simp [List.getD, hi]
        rw [e] at this
        rw [decide_eq_true this.1, decide_eq_true this.2]; rfl⟩
      have hok := As.mk (loadB_ok (R := q) HP.out.2.2.2 HW.out HL.out)
      have hlt3 : ¬ ((j : Int) < (H.length : Int)) := by omega
      replace HK := As.mk (HK.out.trans hKr.out)
      replace M0 := As.mk m0
      replace M1 := As.mk m1
      clear hJ hlt hKr m0 m1
      go_wp2_with fail
      clear hlt3 d1 e0 e1 hj
      obtain ⟨wo, rfl⟩ : ∃ wo : World, wo = wr := ⟨_, rfl⟩
      go_loopw [6] (fun v6 wr => ∃ i : Nat, i ≤ M.length ∧ v6 = .int .i64 i ∧ As (∀ l : Nat, l < i → standB (M.getD l Sl.z) T p H = true) ∧ Kp no wo wr) (fun v6 _ => M.length - (intOf v6).toNat)
      case atStart => exact ⟨0, Nat.zero_le _, rfl, ⟨fun l hl => by omega⟩, Kp.refl _ _⟩
      case round =>
        as_aux_lemma =>
          obtain ⟨i, hi, rfl, hI, hkx⟩ := hrel
          have hKx := As.mk (HK.out.trans hkx)
          have m0 := bk_kp M0.out hkx (fun x => x)
          have m1 := bk_kp M1.out hkx (fun x => x)
          have hKX := As.mk hkx
          clear hkx
          by_cases hlt : i < M.length
          · have h5 := slCells_get M i hlt
            have kc : ∀ b o u, w.cell? ⟨b, o, none⟩ = some u → wr.cell? ⟨b, o, none⟩ = some u := fun b o u h => by
              rw [World.cell?_of_block (hKx.out.block b (World.block_lt_of_cell? _ _ h) (fun x => x))]; exact h
            have k0 := kc _ _ _ (HMc.out _ _ h5.1)
            have k1 := kc _ _ _ (HMc.out _ _ h5.2.1)
            have k2 := kc _ _ _ (HMc.out _ _ h5.2.2)
            rw [← Nat.add_assoc] at k1 k2
            have HHr := As.mk (show ∀ k, k < H.length → wr.cell? ⟨hb, ho + k, none⟩ = some (.int .u64 (H.getD k 0)) from fun k hk => kc _ _ _ (HHc.out k hk))
            have hxo := hok.out (M.getD i Sl.z) (by rw [List.getD_eq_getElem?_getD, List.getElem?_eq_getElem hlt]; exact List.getElem_mem _)
            have hlt2 : (i : Int) < (M.length : Int) := by omega
            have hnn : (0 : Int) ≤ (i : Int) := by omega
            have HEq := As.mk (show M[i] = M.getD i Sl.z from by simp [List.getD, hlt])
            generalize hxx : M.getD i Sl.z = x at k0 k1 k2 hxo HEq
            have HX := As.mk hxx
            have HO := As.mk hxo
            have y0 := cell_grow k0
            have y1 := cell_grow k1
            have y2 := cell_grow k2
            have f1 := cell_grow (bk_cell m0 1)
            have g0 := cell_grow (bk_cell m1 0)
            have g1 := cell_grow (bk_cell m1 1)
            have g3 := cell_grow (bk_cell m1 3)
            have e3 := bk_cell m1 3
            clear hxx hxo kc h5 k0 k1 k2 m0 m1
            cases hsb : standB x T p H with
            | true =>
              have hI2 : As (∀ l : Nat, l < i + 1 → standB (M.getD l Sl.z) T p H = true) := ⟨fun l hl => by
                by_cases e : l = i
                · rw [e, HX.out]; exact hsb
                · exact hI.out l (by omega)⟩
              have HSB := As.mk hsb
              clear hsb hI
              go_wp2_with (refine reg_kp (id := 11) (by kernel_rfl) (by kernel_rfl) ?_; (repeat (go_big_quiet_step (first | (go_at_call 89; exact HSB.out ▸ kq_of (RPlace_any x HO.out T p (by omega) (by have := HP.out; omega) H (by have := HP.out; have := HQ.out; omega) hb ho c1 (fun k hk => cell_grow (HHr.out k hk) _ _))) | fail))); refine wpQuiet_nil ?_; intro w6 k6; have K6 := As.mk (hKX.out.trans k6))
              exact ⟨⟨i + 1, by omega, by go_num, hI2, K6.out⟩, by simp [intOf]; omega⟩
            | false =>
              have hF : As (placesB T p H M = false) := ⟨by
                unfold placesB
                rw [List.all_eq_false]
                refine ⟨M[i], List.getElem_mem hlt, ?_⟩
                rw [HEq.out, hsb]; decide⟩
              have HSB := As.mk hsb
              clear hsb hI
              go_wp2_with (refine reg_kp (id := 11) (by kernel_rfl) (by kernel_rfl) ?_; (repeat (go_big_quiet_step (first | (go_at_call 89; exact HSB.out ▸ kq_of (RPlace_any x HO.out T p (by omega) (by have := HP.out; omega) H (by have := HP.out; have := HQ.out; omega) hb ho c1 (fun k hk => cell_grow (HHr.out k hk) _ _))) | fail))); refine wpQuiet_nil ?_; intro w6 k6; have K6 := As.mk (hKx.out.trans k6))
              go_ret
              exact ⟨by rw [hF.out, Bool.and_false]; rfl, K6.out⟩
          · have e3 := bk_cell m1 3
            have hpl : As (placesB T p H M = true) := ⟨by
              unfold placesB
              rw [List.all_eq_true]
              intro x hx
              obtain ⟨l, hl2, rfl⟩ := List.mem_iff_getElem.1 hx
              have := hI.out l (by omega)
              have e : M.getD l Sl.z = M[l] := by simp [List.getD, hl2]
              rwa [e] at this⟩
            have hlt4 : ¬ ((i : Int) < (M.length : Int)) := by omega
            clear hI hlt m0 m1
            go_wp2_with fail
            go_ret
            exact ⟨by rw [hpl.out, hhd.out]; rfl, hKx.out⟩
theorem RLoads_any (k : Int) (p q : Nat) (h1 : 1 ≤ p) (h2 : p ≤ 64) (h3 : 1 ≤ q) (h4 : q ≤ 8) {v1 v2 : Value} (T : Int) (cl : Bool) (H : List Int) (M : List Sl) (hT0 : 0 ≤ T) (hwf : ∀ x ∈ M, 0 ≤ x.st ∧ x.st < 18446744073709551616)
    (hH : Rd w v1 H.length (u64s H)) (hHw : ∀ x ∈ H, 0 ≤ x ∧ x < 18446744073709551616) (hM : Rd w v2 M.length (slCells M)) :
    Calls Try.prog 62 #[.agg #[.int .i64 k, .int .i64 p, .int .i64 q], .agg #[.int .u64 T, v1, .bool cl, v2]] w fun e w' => e = .returned (.bool (loads13 p q T H M)) ∧ Kp no w w' := by
  by_cases hbad : H.length ≠ q ∨ 4611686018427387904 ≤ T ∨ loadB p q M = false
  · obtain ⟨A1, c1, rfl⟩ := rd_form0 hH
    refine (RLoads_no k p q h1 h2 h3 h4 T cl M hT0 hwf hM hbad).mono ?_
    rintro e w' ⟨rfl, hK⟩
    refine ⟨?_, hK⟩
    unfold loads13
    rcases hbad with h | h | h
    · rw [show ((H.length : Int) == (q : Int)) = false from by simp; omega]; rfl
    · rw [decide_eq_false (by omega), Bool.false_and, Bool.and_false]
    · rw [h, Bool.false_and, Bool.and_false, Bool.and_false]
  · have hq : H.length = q := Classical.byContradiction fun h => hbad (.inl h)
    have hT : T < 4611686018427387904 := Classical.byContradiction fun h => hbad (.inr (.inl (by omega)))
    have hl : loadB p q M = true := by
      cases h : loadB p q M with
      | true => rfl
      | false => exact absurd (.inr (.inr h)) hbad
    have hML : M.length = p := by
      have h2 := hl
      unfold loadB at h2
      rw [Bool.and_eq_true] at h2
      have h5 := beq_iff_eq.1 h2.1
      omega
    have hM0 := hM
    obtain ⟨ab, ao, c2, rfl, _, _, hMc⟩ := hM.form (by rw [slCells_len]; omega)
    obtain ⟨hb, ho, c1, rfl, _, _, hHc⟩ := hH.form (by rw [show (u64s H).length = H.length from by simp [u64s]]; omega)
    refine (RLoads_main k p q h1 h2 h3 h4 hb ho c1 ab ao c2 T cl H M hT0 hT hwf (fun k hk => hHc k _ (u64s_get H k hk)) hHw hM0 hMc hl hq hML).mono ?_
    rintro e w' ⟨rfl, hK⟩
    refine ⟨?_, hK⟩
    unfold loads13
    rw [hq, hl, decide_eq_true hT]; simp
theorem loads13_eq {k : Int} {p q : Nat} (h : rMay k p q = true) (T : Int) (H : List Int) (M : List Sl) : rLoadsB k p q T H M = loads13 p q T H M := by
  unfold rLoadsB loads13
  rw [h, Bool.true_and]
  cases loadB p q M <;> cases ((H.length : Int) == (q : Int)) <;> cases decide (T < 4611686018427387904) <;> rfl
end Go.Proofs.Ytmejnhfggmmefaa.H
