/- Layer 12's reference: Get, that gives a value. No condition. -/
import Derived.Test.YtmejnhfggmmefaaR12E
import Derived.Test.YtmejnhfggmmefaaR12C
import Derived.Test.YtmejnhfggmmefaaR12D
namespace Go.Proofs.Ytmejnhfggmmefaa.H
open Go.RowKit
set_option linter.unusedVariables false
set_option linter.unusedSimpArgs false
variable {bb : Nat → Prop} {w : World} {L : List Sl} {R : Nat} {t v j : Int}

set_option maxRecDepth 100000 in
set_option maxHeartbeats 3200000 in
theorem RGet_more (hL : RArg L R) (ab ao c : Nat) (hr : Rd w (.slice (some ⟨ab, ao, none⟩) L.length c) L.length (slCells L)) (hf : ∀ k, (Value.slice (some ⟨ab, ao, none⟩) L.length c).ownBlock = some k → ¬ bb k) (hbb : ∀ k, bb k → k < w.heap.size) (ht : 0 ≤ t) (h1 : t < 4611686018427387904) (h3 : 0 ≤ j) (h5 : j < (R : Int)) (he : (slAt L t).st = 2 * t + 1) (hb : bitOf (slAt L t).left j = true) (hz : (slAt L t).left - 2 ^ j.toNat ≠ 0) :
    Calls Try.prog 72 #[.agg #[.slice (some ⟨ab, ao, none⟩) L.length c, .int .i64 R], .int .i64 j, .int .u64 t] w fun e w' => ∃ vv, e = .returned (.tuple #[.int .u64 (slAt L t).v, .int .i64 0, vv]) ∧ RS bb w' vv (L.set (pl L t) ⟨(slAt L t).st, (slAt L t).v, (slAt L t).left - 2 ^ j.toNat⟩) R ∧ Kp no w w' := by
  have H := As.mk hr
  have HF := As.mk (And.intro hf hbb)
  clear hf hbb
  have hpl := pl_lt hL.pos t
  have h2 : (decide (4611686018427387904 ≤ t)) = false := by rw [decide_eq_false_iff_not]; omega
  have h4 : (decide (j < 0)) = false := by rw [decide_eq_false_iff_not]; omega
  have h6 : (decide ((R : Int) ≤ j)) = false := by rw [decide_eq_false_iff_not]; omega
  have hm : IntKind.u64.wrap (2 * t) = 2 * t := by rw [IntKind.wrap_u64]; omega
  have hm1 : IntKind.u64.wrap (2 * t + 1) = 2 * t + 1 := by rw [IntKind.wrap_u64]; omega
  have hok := slOk hL t
  obtain ⟨hI, hW, hlw, hl0, hIw, hsrc, hc0, hc1, hc2⟩ := rfacts hL hr ht
  change w.cell? _ = some (.int .u64 (slAt L t).st) at hc0
  rw [← Nat.add_assoc] at hc1 hc2
  have hle := hL.le
  have hR := hL.hR
  generalize (slAt L t).st = s at hc0 he hok ⊢
  generalize (slAt L t).v = vl at hc1 ⊢
  obtain ⟨l, hl⟩ := Int.eq_ofNat_of_zero_le (slOkL hL t).1
  have hl8 : l < 256 := by have := (slOkL hL t).2; omega
  rw [hl] at hb hc2 hz ⊢
  obtain ⟨jn, rfl⟩ := Int.eq_ofNat_of_zero_le h3
  rw [Int.toNat_natCast] at hz ⊢
  have hj8 : jn < 8 := by omega
  have h6' : (decide (R ≤ jn)) = false := by rw [decide_eq_false_iff_not]; omega
  clear h6
  generalize pl L t = i at hpl hI hIw hc0 hc1 hc2 ⊢
  have hd : (decide (s < 2 * t + 1)) = false := by rw [decide_eq_false_iff_not]; omega
  have hd2 : (decide (2 * t + 1 < s)) = false := by rw [decide_eq_false_iff_not]; omega
  have HB := As.mk hb
  have HE := As.mk he
  have hq1 := pow_le8 (R := jn) (by omega)
  have hq0 := pow_pos' jn
  have HQ := As.mk (And.intro hq1 (And.intro hq0 hz))
  have hall := fun (w : World) => RAll (w := w) jn (by omega)
  have ht62 := As.mk h1
  clear hr hL h1 h3 h5 hok hW hlw hl0 hIw hb hl he hq1 hq0 hz
  go_enter Try.func72, Try.ntmps72
  go_wp2_with fail
  refine (RBit l jn hl8 hj8).mono ?_
  rintro e w1 ⟨rfl, rfl⟩
  rw [HB.out]
  go_wp2
  obtain ⟨m0, m1, m2, hK, hs⟩ := alloc3 (w := w) #[.slice (some ⟨ab, ao, none⟩) L.length c, .int .i64 R] #[.slice none 0 0, .int .i64 0] #[.int .u64 s, .int .u64 vl, .int .i64 (l : Int)] 60 60 119
  generalize ((w.alloc (Obj.cells #[.slice (some ⟨ab, ao, none⟩) L.length c, .int .i64 R] 60)).alloc (Obj.cells #[.slice none 0 0, .int .i64 0] 60)).alloc (Obj.cells #[.int .u64 s, .int .u64 vl, .int .i64 (l : Int)] 119) = W at m0 m1 m2 hK hs ⊢
  generalize hb0 : w.heap.size = b0 at m0 m1 m2 hs hsrc ⊢
  refine wp_region_still_tail 7 (by kernel_rfl) (by kernel_rfl) ?_
  generalize hq : ({ W with drawn := W.drawn + 1 } : World) = W2
  replace hq : QD W W2 := ⟨1, hq.symm⟩
  replace m0 := bk_qd m0 hq
  replace m1 := bk_qd m1 hq
  replace m2 := bk_qd m2 hq
  replace hK := hK.qd hq
  have f20 := bk_cell m2 0
  have f21 := bk_cell m2 1
  have f22 := bk_cell m2 2
  have e0 := bk_cell m0 0
  have e1 := bk_cell m0 1
  have y0 := bk_fz m2 0
  have y1 := bk_fz m2 1
  have y2 := bk_fz m2 2
  clear hq hs hc0 hc1 hc2 hd hd2 HB
  have hqf := HQ.out
  generalize hqq : (2 : Int) ^ jn = q at hqf hall ⊢
  obtain ⟨hq1, hq0, hz⟩ := hqf
  have HQQ := As.mk hqq
  have w1 : wrap64 (q - 1 + 1) = q := by unfold wrap64; omega
  have w2 : wrap64 ((l : Int) - q) = (l : Int) - q := by unfold wrap64; omega
  clear hqq
  simp only [List.take_succ_cons, List.take_zero, List.drop_succ_cons, List.drop_zero]
  repeat still_step
  still_call (hall _)
  repeat still_step
  refine wpStill_nil ?_
  have hz2 : ((l : Int) - q == 0) = false := by simpa using hz
  go_wp2_with fail
  have hK3 := hK.setNew ⟨b0 + 1 + 1, 2, none⟩ (by show w.heap.size ≤ b0 + 1 + 1; omega) (.int .i64 ((l : Int) - q))
  have m13 := bk_far m1 (p := ⟨b0 + 1 + 1, 2, none⟩) (by show b0 + 1 ≠ b0 + 1 + 1; omega) (.int .i64 ((l : Int) - q))
  have HSZ := As.mk hK3.size
  refine (RWith (L := L) (R := R) (H.out.kp hK3 (fun _ _ x => x)) hle i hpl ⟨s, vl, (l : Int) - q⟩).mono ?_
  rintro e w6 ⟨vv, rfl, hrd, hK6, hfr6⟩
  obtain ⟨ab2, ao2, c2, rfl, _, _, _⟩ := hrd.form (by rw [slCells_len, List.length_set]; omega)
  have M1 := bk_kp m13 hK6 (fun x => x)
  have d0 := bk_cell M1 0
  have d1 := bk_cell M1 1
  have z0 := bk_fz M1 0
  have z1 := bk_fz M1 1
  have hrdA := As.mk hrd
  have hKA := As.mk (hK3.trans hK6)
  clear hK3 hK6 hrd m13 m0 m1 m2 f20 f21 f22 e0 e1 y0 y1 y2
  go_wp2
  obtain ⟨f1, hKf⟩ := tell2 (.slice (some ⟨ab2, ao2, none⟩) L.length c2) (.int .i64 R) rfl M1 hKA.out hb0
  refine bodyPost_ret (results_ttc rfl _ _ (b0 + 1) 60 #[.slice (some ⟨ab2, ao2, none⟩) L.length c2, .int .i64 R] (0, 0) _ (.int .u64 vl) (.int .i64 0) rfl rfl rfl f1 Try.underlying60 rfl (by kernel_rfl)) rfl ?_
  refine ⟨_, rfl, ⟨_, rfl, ?_, fun k hk e => by have h1 := hfr6 k hk; have h2 := HF.out.2 k e; have h3 := HSZ.out; omega⟩, hKf⟩
  have hKs := ((Kp.refl (· = b0 + 1) w6).setCell ⟨b0 + 1, 0, none⟩ rfl (.slice (some ⟨ab2, ao2, none⟩) L.length c2)).setCell ⟨b0 + 1, 1, none⟩ rfl (.int .i64 R)
  have hrd := hrdA.out
  rw [List.length_set, HQQ.out]
  exact hrd.kp hKs (fun b hb e => rd_ne hrd (by rw [List.length_set]; omega) M1 ((Option.some.inj hb).trans e))
set_option maxRecDepth 100000 in
set_option maxHeartbeats 3200000 in
theorem RGet_last (hL : RArg L R) (ab ao c : Nat) (hr : Rd w (.slice (some ⟨ab, ao, none⟩) L.length c) L.length (slCells L)) (hf : ∀ k, (Value.slice (some ⟨ab, ao, none⟩) L.length c).ownBlock = some k → ¬ bb k) (hbb : ∀ k, bb k → k < w.heap.size) (ht : 0 ≤ t) (h1 : t < 4611686018427387904) (h3 : 0 ≤ j) (h5 : j < (R : Int)) (he : (slAt L t).st = 2 * t + 1) (hb : bitOf (slAt L t).left j = true) (hz : (slAt L t).left - 2 ^ j.toNat = 0) :
    Calls Try.prog 72 #[.agg #[.slice (some ⟨ab, ao, none⟩) L.length c, .int .i64 R], .int .i64 j, .int .u64 t] w fun e w' => ∃ vv, e = .returned (.tuple #[.int .u64 (slAt L t).v, .int .i64 0, vv]) ∧ RS bb w' vv (L.set (pl L t) ⟨2 * (t + L.length), 0, 0⟩) R ∧ Kp no w w' := by
  have H := As.mk hr
  have HF := As.mk (And.intro hf hbb)
  clear hf hbb
  have hpl := pl_lt hL.pos t
  have h2 : (decide (4611686018427387904 ≤ t)) = false := by rw [decide_eq_false_iff_not]; omega
  have h4 : (decide (j < 0)) = false := by rw [decide_eq_false_iff_not]; omega
  have h6 : (decide ((R : Int) ≤ j)) = false := by rw [decide_eq_false_iff_not]; omega
  have hm : IntKind.u64.wrap (2 * t) = 2 * t := by rw [IntKind.wrap_u64]; omega
  have hm1 : IntKind.u64.wrap (2 * t + 1) = 2 * t + 1 := by rw [IntKind.wrap_u64]; omega
  have hok := slOk hL t
  obtain ⟨hI, hW, hlw, hl0, hIw, hsrc, hc0, hc1, hc2⟩ := rfacts hL hr ht
  change w.cell? _ = some (.int .u64 (slAt L t).st) at hc0
  rw [← Nat.add_assoc] at hc1 hc2
  have hle := hL.le
  have hR := hL.hR
  generalize (slAt L t).st = s at hc0 he hok ⊢
  generalize (slAt L t).v = vl at hc1 ⊢
  obtain ⟨l, hl⟩ := Int.eq_ofNat_of_zero_le (slOkL hL t).1
  have hl8 : l < 256 := by have := (slOkL hL t).2; omega
  rw [hl] at hb hc2 hz
  obtain ⟨jn, rfl⟩ := Int.eq_ofNat_of_zero_le h3
  rw [Int.toNat_natCast] at hz
  have hj8 : jn < 8 := by omega
  have h6' : (decide (R ≤ jn)) = false := by rw [decide_eq_false_iff_not]; omega
  clear h6
  generalize pl L t = i at hpl hI hIw hc0 hc1 hc2 ⊢
  have hd : (decide (s < 2 * t + 1)) = false := by rw [decide_eq_false_iff_not]; omega
  have hd2 : (decide (2 * t + 1 < s)) = false := by rw [decide_eq_false_iff_not]; omega
  have HB := As.mk hb
  have HE := As.mk he
  have hq1 := pow_le8 (R := jn) (by omega)
  have hq0 := pow_pos' jn
  have HQ := As.mk (And.intro hq1 (And.intro hq0 hz))
  have hall := fun (w : World) => RAll (w := w) jn (by omega)
  have ht62 := As.mk h1
  clear hr hL h1 h3 h5 hok hW hlw hl0 hIw hb hl he hq1 hq0 hz
  go_enter Try.func72, Try.ntmps72
  go_wp2_with fail
  refine (RBit l jn hl8 hj8).mono ?_
  rintro e w1 ⟨rfl, rfl⟩
  rw [HB.out]
  go_wp2
  obtain ⟨m0, m1, m2, hK, hs⟩ := alloc3 (w := w) #[.slice (some ⟨ab, ao, none⟩) L.length c, .int .i64 R] #[.slice none 0 0, .int .i64 0] #[.int .u64 s, .int .u64 vl, .int .i64 (l : Int)] 60 60 119
  generalize ((w.alloc (Obj.cells #[.slice (some ⟨ab, ao, none⟩) L.length c, .int .i64 R] 60)).alloc (Obj.cells #[.slice none 0 0, .int .i64 0] 60)).alloc (Obj.cells #[.int .u64 s, .int .u64 vl, .int .i64 (l : Int)] 119) = W at m0 m1 m2 hK hs ⊢
  generalize hb0 : w.heap.size = b0 at m0 m1 m2 hs hsrc ⊢
  refine wp_region_still_tail 7 (by kernel_rfl) (by kernel_rfl) ?_
  generalize hq : ({ W with drawn := W.drawn + 1 } : World) = W2
  replace hq : QD W W2 := ⟨1, hq.symm⟩
  replace m0 := bk_qd m0 hq
  replace m1 := bk_qd m1 hq
  replace m2 := bk_qd m2 hq
  replace hK := hK.qd hq
  have f20 := bk_cell m2 0
  have f21 := bk_cell m2 1
  have f22 := bk_cell m2 2
  have e0 := bk_cell m0 0
  have e1 := bk_cell m0 1
  have y0 := bk_fz m2 0
  have y1 := bk_fz m2 1
  have y2 := bk_fz m2 2
  clear hq hs hc0 hc1 hc2 hd hd2 HB
  have hqf := HQ.out
  generalize hqq : (2 : Int) ^ jn = q at hqf hall ⊢
  obtain ⟨hq1, hq0, hz⟩ := hqf
  have HQQ := As.mk hqq
  have w1 : wrap64 (q - 1 + 1) = q := by unfold wrap64; omega
  have w2 : wrap64 ((l : Int) - q) = (l : Int) - q := by unfold wrap64; omega
  clear hqq
  simp only [List.take_succ_cons, List.take_zero, List.drop_succ_cons, List.drop_zero]
  repeat still_step
  still_call (hall _)
  repeat still_step
  refine wpStill_nil ?_
  have hz2 : ((l : Int) - q == 0) = true := by simpa using hz
  have h62 := ht62.out
  have w3 : IntKind.u64.wrap (t + (L.length : Int)) = t + (L.length : Int) := by rw [IntKind.wrap_u64]; omega
  have w4 : IntKind.u64.wrap (2 * (t + (L.length : Int))) = 2 * (t + (L.length : Int)) := by rw [IntKind.wrap_u64]; omega
  clear h62
  go_wp2_with fail
  have hK3 := (((hK.setNew ⟨b0 + 1 + 1, 2, none⟩ (by show w.heap.size ≤ b0 + 1 + 1; omega) (.int .i64 0)).setNew ⟨b0 + 1 + 1, 0, none⟩ (by show w.heap.size ≤ b0 + 1 + 1; omega) (.int .u64 (2 * (t + (L.length : Int))))).setNew ⟨b0 + 1 + 1, 1, none⟩ (by show w.heap.size ≤ b0 + 1 + 1; omega) (.int .u64 0)).setNew ⟨b0 + 1 + 1, 2, none⟩ (by show w.heap.size ≤ b0 + 1 + 1; omega) (.int .i64 0)
  have m13 := bk_far (bk_far (bk_far (bk_far m1 (p := ⟨b0 + 1 + 1, 2, none⟩) (by show b0 + 1 ≠ b0 + 1 + 1; omega) (.int .i64 0)) (p := ⟨b0 + 1 + 1, 0, none⟩) (by show b0 + 1 ≠ b0 + 1 + 1; omega) (.int .u64 (2 * (t + (L.length : Int))))) (p := ⟨b0 + 1 + 1, 1, none⟩) (by show b0 + 1 ≠ b0 + 1 + 1; omega) (.int .u64 0)) (p := ⟨b0 + 1 + 1, 2, none⟩) (by show b0 + 1 ≠ b0 + 1 + 1; omega) (.int .i64 0)
  have HSZ := As.mk hK3.size
  refine (RWith (L := L) (R := R) (H.out.kp hK3 (fun _ _ x => x)) hle i hpl ⟨2 * (t + (L.length : Int)), 0, 0⟩).mono ?_
  rintro e w6 ⟨vv, rfl, hrd, hK6, hfr6⟩
  obtain ⟨ab2, ao2, c2, rfl, _, _, _⟩ := hrd.form (by rw [slCells_len, List.length_set]; omega)
  have M1 := bk_kp m13 hK6 (fun x => x)
  have d0 := bk_cell M1 0
  have d1 := bk_cell M1 1
  have z0 := bk_fz M1 0
  have z1 := bk_fz M1 1
  have hrdA := As.mk hrd
  have hKA := As.mk (hK3.trans hK6)
  clear hK3 hK6 hrd m13 m0 m1 m2 f20 f21 f22 e0 e1 y0 y1 y2
  go_wp2
  obtain ⟨f1, hKf⟩ := tell2 (.slice (some ⟨ab2, ao2, none⟩) L.length c2) (.int .i64 R) rfl M1 hKA.out hb0
  refine bodyPost_ret (results_ttc rfl _ _ (b0 + 1) 60 #[.slice (some ⟨ab2, ao2, none⟩) L.length c2, .int .i64 R] (0, 0) _ (.int .u64 vl) (.int .i64 0) rfl rfl rfl f1 Try.underlying60 rfl (by kernel_rfl)) rfl ?_
  refine ⟨_, rfl, ⟨_, rfl, ?_, fun k hk e => by have h1 := hfr6 k hk; have h2 := HF.out.2 k e; have h3 := HSZ.out; omega⟩, hKf⟩
  have hKs := ((Kp.refl (· = b0 + 1) w6).setCell ⟨b0 + 1, 0, none⟩ rfl (.slice (some ⟨ab2, ao2, none⟩) L.length c2)).setCell ⟨b0 + 1, 1, none⟩ rfl (.int .i64 R)
  have hrd := hrdA.out
  rw [List.length_set]
  exact hrd.kp hKs (fun b hb e => rd_ne hrd (by rw [List.length_set]; omega) M1 ((Option.some.inj hb).trans e))

theorem RGet_any (hL : RArg L R) {e0 : Value} (h : RS bb w e0 L R) (hbb : ∀ k, bb k → k < w.heap.size) (ht : 0 ≤ t) :
    Calls Try.prog 72 #[e0, .int .i64 j, .int .u64 t] w fun e w' => ∃ vv, e = .returned (.tuple #[.int .u64 (sGet L R j t).1, .int .i64 (sGet L R j t).2.1, vv]) ∧ RS bb w' vv (sGet L R j t).2.2 R ∧ Kp no w w' := by
  obtain ⟨v0, rfl, hr, hf⟩ := h
  have hx0 : 0 < (slCells L).length := by rw [slCells_len]; have := hL.pos; omega
  obtain ⟨ab, ao, c, rfl, _, _, _⟩ := hr.form hx0
  by_cases h1 : t < 4611686018427387904
  · by_cases h2 : j < 0
    · have e : sGot L R j t = 1 := by unfold sGot; rw [if_neg (by omega)]
      unfold sGet; rw [e, if_neg (by decide)]; exact RGet_arg2 _ _ _ hr hf hbb h1 h2
    · by_cases h3 : j < (R : Int)
      · by_cases h4 : (slAt L t).st < 2 * t + 1
        · have e : sGot L R j t = 9 := by unfold sGot; rw [if_pos ⟨h1, by omega, h3⟩, if_pos h4]
          unfold sGet; rw [e, if_neg (by decide)]; exact RGet_empty hL ab ao c hr hf hbb ht h1 (by omega) h3 h4
        · by_cases h5 : 2 * t + 1 < (slAt L t).st
          · have e : sGot L R j t = 11 := by unfold sGot; rw [if_pos ⟨h1, by omega, h3⟩, if_neg h4, if_pos h5]
            unfold sGet; rw [e, if_neg (by decide)]; exact RGet_order hL ab ao c hr hf hbb ht h1 (by omega) h3 h5
          · cases hb : bitOf (slAt L t).left j with
            | false =>
              have e : sGot L R j t = 11 := by unfold sGot; rw [if_pos ⟨h1, by omega, h3⟩, if_neg h4, if_neg h5, hb]; rfl
              unfold sGet; rw [e, if_neg (by decide)]; exact RGet_bit hL ab ao c hr hf hbb ht h1 (by omega) h3 (by omega) hb
            | true =>
              have e : sGot L R j t = 0 := by unfold sGot; rw [if_pos ⟨h1, by omega, h3⟩, if_neg h4, if_neg h5, hb]; rfl
              unfold sGet; rw [e, if_pos rfl]
              by_cases hz : (slAt L t).left - 2 ^ j.toNat = 0
              · rw [if_pos hz]; exact RGet_last hL ab ao c hr hf hbb ht h1 (by omega) h3 (by omega) hb hz
              · rw [if_neg hz]; exact RGet_more hL ab ao c hr hf hbb ht h1 (by omega) h3 (by omega) hb hz
      · have e : sGot L R j t = 1 := by unfold sGot; rw [if_neg (by omega)]
        unfold sGet; rw [e, if_neg (by decide)]; exact RGet_arg3 _ _ _ hr hf hbb h1 h2 h3
  · have e : sGot L R j t = 1 := by unfold sGot; rw [if_neg (by omega)]
    unfold sGet; rw [e, if_neg (by decide)]; exact RGet_arg1 _ _ _ hr hf hbb h1
end Go.Proofs.Ytmejnhfggmmefaa.H
