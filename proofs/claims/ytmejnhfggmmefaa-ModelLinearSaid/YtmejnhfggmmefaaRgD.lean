/- Layer 13: what ring's Claim, Publish, Take, Release and Close do. No condition. Layer 13: what ring's may, New and State do. No condition. -/
import Derived.Test.YtmejnhfggmmefaaRgB
namespace Go.Proofs.Ytmejnhfggmmefaa.H
open Go.RowKit
set_option linter.unusedVariables false
set_option linter.unusedSimpArgs false
variable {w : World} {B : RB} {r : Rg} {t j v : Int}

set_option maxRecDepth 100000 in
set_option maxHeartbeats 1600000 in
theorem Claim_any (h : RingIn w B r) (hb : r.tail + 1 < 9223372036854775808) : Calls Try.prog 50 #[.pointer (some ⟨B.g, 0, none⟩)] w fun e w' =>
    e = .returned (.tuple #[.int .u64 (rClaim r).1, .int .i64 (rClaim r).2.1]) ∧ RingIn w' B (rClaim r).2.2 ∧ Kp B.own w w' := by
  have c4 := h.c4
  have hs := h
  unfold rClaim
  cases hc : r.closed with
  | true =>
    rw [hc] at c4
    clear hc hb
    go_enter Try.func50, Try.ntmps50
    go_wp2
    go_ret2
    exact ⟨rfl, hs, Kp.refl _ _⟩
  | false =>
    rw [hc] at c4
    have HC0 := As.mk hc
    clear hc
    have c0 := h.c0
    have ht0 := h.t0
    cases hf : rFull r with
    | true =>
      have hH := As.mk hf
      clear hf hb
      go_enter Try.func50, Try.ntmps50
      go_wp2_with fail
      refine (Full_any hs).mono ?_
      rintro e w1 ⟨rfl, hq⟩
      rw [hH.out]
      go_wp2
      go_ret2
      exact ⟨rfl, hs.qd hq, Kp.of_qd hq⟩
    | false =>
      have hH := As.mk hf
      have hB := As.mk hb
      have hw : IntKind.u64.wrap (r.tail + 1) = r.tail + 1 := by rw [IntKind.wrap_u64]; omega
      have hw2 : IntKind.u64.wrap r.tail = r.tail := by rw [IntKind.wrap_u64]; omega
      have HC : As (r.closed = false) := HC0
      have f0 := h.fz 0
      clear hf hb c0 f0
      go_enter Try.func50, Try.ntmps50
      go_wp2_with fail
      refine (Full_any hs).mono ?_
      rintro e w1 ⟨rfl, hq⟩
      rw [hH.out]
      have hs2 := hs.qd hq
      have c0 := hs2.c0
      have f0 := hs2.fz 0
      go_wp2
      go_ret2
      have hf := hs2.setTail (t := r.tail + 1) (by omega) hB.out
      rw [HC.out] at hf
      exact ⟨rfl, hf, (Kp.of_qd hq).setCell _ (.inl rfl) _⟩
theorem Claim_nil : Calls Try.prog 50 #[.pointer none] w fun e w' => e = .returned (.tuple #[.int .u64 0, .int .i64 15]) ∧ QD w w' := by
  go_enter Try.func50, Try.ntmps50
  go_wp2
  go_ret2
  exact ⟨rfl, QD.refl _⟩
set_option maxRecDepth 100000 in
set_option maxHeartbeats 1600000 in
theorem Publish_any (h : RingIn w B r) (ht : 0 ≤ t) : Calls Try.prog 51 #[.pointer (some ⟨B.g, 0, none⟩), .int .u64 t, .int .u64 v] w fun e w' =>
    e = .returned (.int .i64 (rPublish r t v).1) ∧ RingIn w' B (rPublish r t v).2 ∧ Kp B.own w w' := by
  have c0 := h.c0
  have c2 := h.c2
  have hs := h
  unfold rPublish
  by_cases h1 : r.tail ≤ t
  · rw [if_pos h1]
    go_enter Try.func51, Try.ntmps51
    go_wp2
    go_ret
    exact ⟨rfl, hs, Kp.refl _ _⟩
  · rw [if_neg h1]
    go_enter Try.func51, Try.ntmps51
    go_wp2_with fail
    refine (Put_any hs.s ht).mono ?_
    rintro e w1 ⟨rfl, hS, hK⟩
    have hf := hs.setSlots hK hS (sPut_len _ _ _ _)
    go_wp2
    go_ret
    exact ⟨rfl, hf, hK.mono (fun k hk => .inr (.inr (.inr hk)))⟩
theorem Publish_nil : Calls Try.prog 51 #[.pointer none, .int .u64 t, .int .u64 v] w fun e w' => e = .returned (.int .i64 15) ∧ QD w w' := by
  go_enter Try.func51, Try.ntmps51
  go_wp2
  go_ret
  exact ⟨rfl, QD.refl _⟩
set_option maxRecDepth 100000 in
set_option maxHeartbeats 3200000 in
theorem Take_any (h : RingIn w B r) (j : Int) : Calls Try.prog 53 #[.pointer (some ⟨B.g, 0, none⟩), .int .i64 j] w fun e w' =>
    e = .returned (.tuple #[.int .u64 (rTake r j).1, .int .i64 (rTake r j).2.1]) ∧ RingIn w' B (rTake r j).2.2 ∧ Kp B.own w w' := by
  have hs := h
  unfold rTake
  cases hj : rIs r j with
  | false =>
    have hH := As.mk hj
    clear hj
    rw [if_neg (by decide)]
    go_enter Try.func53, Try.ntmps53
    go_wp2_with fail
    refine (reader_any hs j).mono ?_
    rintro e w1 ⟨rfl, rfl⟩
    rw [hH.out]
    go_wp2
    go_ret2
    exact ⟨rfl, hs, Kp.refl _ _⟩
  | true =>
    rw [if_pos rfl]
    have hH := As.mk hj
    have hle := As.mk (hs.head_le hj)
    have hb : (0 : Int) ≤ j ∧ j < (r.heads.length : Int) := by simp [rIs] at hj; exact hj
    obtain ⟨hb0, hb1⟩ := hb
    by_cases h1 : rHead r j = r.tail
    · rw [if_pos h1]
      have hE := As.mk (show rEmpty r j = true from by unfold rEmpty; rw [hj, h1]; simp)
      clear h1 hj
      cases hc : r.closed with
      | true =>
        have HC := As.mk hc
        clear hc
        go_enter Try.func53, Try.ntmps53
        go_wp2_with fail
        refine (reader_any hs j).mono ?_
        rintro e w1 ⟨rfl, rfl⟩
        rw [hH.out]
        go_wp2_with fail
        refine (Empty_any hs j).mono ?_
        rintro e w2 ⟨rfl, hq⟩
        rw [hE.out]
        have hs2 := hs.qd hq
        have c4 := hs2.c4
        rw [HC.out] at c4
        go_wp2
        go_ret2
        exact ⟨rfl, hs2, Kp.of_qd hq⟩
      | false =>
        have HC := As.mk hc
        clear hc
        go_enter Try.func53, Try.ntmps53
        go_wp2_with fail
        refine (reader_any hs j).mono ?_
        rintro e w1 ⟨rfl, rfl⟩
        rw [hH.out]
        go_wp2_with fail
        refine (Empty_any hs j).mono ?_
        rintro e w2 ⟨rfl, hq⟩
        rw [hE.out]
        have hs2 := hs.qd hq
        have c4 := hs2.c4
        rw [HC.out] at c4
        go_wp2_with fail
        refine (Empty_any hs2 j).mono ?_
        rintro e w3 ⟨rfl, hq2⟩
        rw [hE.out]
        go_wp2
        go_ret2
        exact ⟨rfl, hs2.qd hq2, Kp.of_qd (hq.trans hq2)⟩
    · rw [if_neg h1]
      have hE := As.mk (show rEmpty r j = false from by unfold rEmpty; rw [hj]; simpa using h1)
      have hlt := As.mk (show rHead r j + 1 ≤ r.tail from by have := hle.out; omega)
      have ht1 := As.mk h.t1
      have hw : IntKind.u64.wrap (rHead r j + 1) = rHead r j + 1 := by have q1 := hle.out; have q2 := ht1.out; rw [IntKind.wrap_u64]; omega
      have hw2 : IntKind.u64.wrap (rHead r j) = rHead r j := by have q1 := hle.out; have q2 := ht1.out; rw [IntKind.wrap_u64]; omega
      clear h1 hj
      go_enter Try.func53, Try.ntmps53
      go_wp2_with fail
      refine (reader_any hs j).mono ?_
      rintro e w1 ⟨rfl, rfl⟩
      rw [hH.out]
      go_wp2_with fail
      refine (Empty_any hs j).mono ?_
      rintro e w2 ⟨rfl, hq⟩
      rw [hE.out]
      have hs2 := hs.qd hq
      go_wp2_with fail
      refine (Empty_any hs2 j).mono ?_
      rintro e w3 ⟨rfl, hq2⟩
      rw [hE.out]
      have hs3 := hs2.qd hq2
      have c1 := hs3.c1
      have hc := hs3.ch (i := j.toNat) (by omega)
      change w3.cell? _ = some (.int .u64 (rHead r j)) at hc
      have hfz := hs3.hfz j.toNat
      have hne : ¬ (⟨B.g, 1, none⟩ : Addr) = ⟨B.hb, j.toNat, none⟩ := fun e => hs3.g_hb (by injection e)
      have hc1' : (w3.setCell ⟨B.hb, j.toNat, none⟩ (.int .u64 (rHead r j + 1))).cell? ⟨B.g, 1, none⟩ = some (.slice (some ⟨B.hb, 0, none⟩) r.heads.length B.hcap) := by
        have hf := hs3.setHead (i := j.toNat) (by omega) (t := rHead r j + 1) (by have := hle.out; omega) hlt.out
        have := hf.c1
        simpa using this
      go_wp2
      go_ret2
      have hf := hs3.setHead (i := j.toNat) (by omega) (t := rHead r j + 1) (by have := hle.out; omega) hlt.out
      exact ⟨rfl, hf, (Kp.of_qd (hq.trans hq2)).setCell _ (.inr (.inl rfl)) _⟩
theorem Take_nil : Calls Try.prog 53 #[.pointer none, .int .i64 j] w fun e w' => e = .returned (.tuple #[.int .u64 0, .int .i64 15]) ∧ QD w w' := by
  go_enter Try.func53, Try.ntmps53
  go_wp2
  go_ret2
  exact ⟨rfl, QD.refl _⟩
set_option maxRecDepth 100000 in
set_option maxHeartbeats 3200000 in
theorem Release_any (h : RingIn w B r) (ht : 0 ≤ t) (j : Int) : Calls Try.prog 54 #[.pointer (some ⟨B.g, 0, none⟩), .int .i64 j, .int .u64 t] w fun e w' =>
    e = .returned (.tuple #[.int .u64 (rRelease r j t).1, .int .i64 (rRelease r j t).2.1]) ∧ RingIn w' B (rRelease r j t).2.2 ∧ Kp B.own w w' := by
  have hs := h
  have c1 := h.c1
  have c2 := h.c2
  unfold rRelease
  cases hj : rIs r j with
  | false =>
    have hH := As.mk hj
    clear hj
    rw [if_neg (by decide)]
    go_enter Try.func54, Try.ntmps54
    go_wp2_with fail
    refine (reader_any hs j).mono ?_
    rintro e w1 ⟨rfl, rfl⟩
    rw [hH.out]
    go_wp2
    go_ret2
    exact ⟨rfl, hs, Kp.refl _ _⟩
  | true =>
    rw [if_pos rfl]
    have hH := As.mk hj
    have hb : (0 : Int) ≤ j ∧ j < (r.heads.length : Int) := by simp [rIs] at hj; exact hj
    obtain ⟨hb0, hb1⟩ := hb
    have hc := h.ch (i := j.toNat) (by omega)
    change w.cell? _ = some (.int .u64 (rHead r j)) at hc
    clear hj
    by_cases h1 : rHead r j ≤ t
    · rw [if_pos h1]
      go_enter Try.func54, Try.ntmps54
      go_wp2_with fail
      refine (reader_any hs j).mono ?_
      rintro e w1 ⟨rfl, rfl⟩
      rw [hH.out]
      go_wp2
      go_ret2
      exact ⟨rfl, hs, Kp.refl _ _⟩
    · rw [if_neg h1]
      go_enter Try.func54, Try.ntmps54
      go_wp2_with fail
      refine (reader_any hs j).mono ?_
      rintro e w1 ⟨rfl, rfl⟩
      rw [hH.out]
      go_wp2_with fail
      refine (Get_any hs.s ht).mono ?_
      rintro e w1 ⟨rfl, hS, hK⟩
      have hf := hs.setSlots hK hS (sGet_len _ _ _ _)
      go_wp2
      go_ret2
      exact ⟨rfl, hf, hK.mono (fun k hk => .inr (.inr (.inr hk)))⟩
theorem Release_nil : Calls Try.prog 54 #[.pointer none, .int .i64 j, .int .u64 t] w fun e w' => e = .returned (.tuple #[.int .u64 0, .int .i64 15]) ∧ QD w w' := by
  go_enter Try.func54, Try.ntmps54
  go_wp2
  go_ret2
  exact ⟨rfl, QD.refl _⟩
set_option maxRecDepth 100000 in
set_option maxHeartbeats 1600000 in
theorem Close_any (h : RingIn w B r) : Calls Try.prog 52 #[.pointer (some ⟨B.g, 0, none⟩)] w fun e w' => e = .returned (.int .i64 0) ∧ RingIn w' B { r with closed := true } ∧ Kp B.own w w' := by
  have c4 := h.c4
  have f4 := h.fz 4
  have hs := h
  go_enter Try.func52, Try.ntmps52
  go_wp2
  go_ret
  exact ⟨rfl, hs.setClosed true, (Kp.refl _ _).setCell _ (.inl rfl) _⟩
theorem Close_nil : Calls Try.prog 52 #[.pointer none] w fun e w' => e = .returned (.int .i64 15) ∧ QD w w' := by
  go_enter Try.func52, Try.ntmps52
  go_wp2
  go_ret
  exact ⟨rfl, QD.refl _⟩
end Go.Proofs.Ytmejnhfggmmefaa.H
namespace Go.Proofs.Ytmejnhfggmmefaa.H
open Go.RowKit
set_option linter.unusedVariables false
set_option linter.unusedSimpArgs false
variable {w : World} {B : RB} {r : Rg} {t j v : Int}

def rmayB (k R : Int) : Bool := (decide (k = 1) && decide (R = 1)) || decide (k = 2)
set_option maxRecDepth 100000 in
set_option maxHeartbeats 1600000 in
theorem rmay_any (k c R : Int) : Calls Try.prog 81 #[.agg #[.int .i64 k, .int .i64 c, .int .i64 R]] w fun e w' => e = .returned (.bool (rmayB k R)) ∧ Kp no w w' := by
  unfold rmayB
  by_cases h1 : k = 1
  · subst h1
    have e : (decide ((1 : Int) = 1) && decide (R = 1) || decide ((1 : Int) = 2)) = (R == 1) := by simp; rfl
    rw [e]
    go_enter Try.func81, Try.ntmps81
    go_wp2
    go_ret
    exact ⟨rfl, (Kp.refl _ _).alloc _⟩
  · have d1 : (k == 1) = false := by simpa using h1
    by_cases h2 : k = 2
    · subst h2
      have e : (decide ((2 : Int) = 1) && decide (R = 1) || decide ((2 : Int) = 2)) = true := by simp
      rw [e]
      go_enter Try.func81, Try.ntmps81
      go_wp2
      go_ret
      exact ⟨rfl, (Kp.refl _ _).alloc _⟩
    · have d2 : (k == 2) = false := by simpa using h2
      have e : (decide (k = 1) && decide (R = 1) || decide (k = 2)) = false := by simp [h1, h2]
      rw [e]
      clear h1 h2
      go_enter Try.func81, Try.ntmps81
      go_wp2
      go_ret
      exact ⟨rfl, (Kp.refl _ _).alloc _⟩
/-- May there be a ring? -/
def rMay (k c R : Int) : Bool := mayB c R && rmayB k R
set_option maxRecDepth 100000 in
set_option maxHeartbeats 1600000 in
theorem RNew_no (k c R : Int) (h : rMay k c R = false) : Calls Try.prog 47 #[.agg #[.int .i64 k, .int .i64 c, .int .i64 R]] w fun e w' => e = .returned (.tuple #[.pointer none, .int .i64 1]) ∧ Kp no w w' := by
  cases h1 : mayB c R with
  | false =>
    have H := As.mk h1
    clear h1 h
    go_enter Try.func47, Try.ntmps47
    go_wp2_with fail
    refine (SNew_no c R H.out).mono ?_
    rintro e w1 ⟨rfl, hq⟩
    go_wp2
    go_ret2
    exact ⟨rfl, ((Kp.refl _ _).alloc _).qd hq⟩
  | true =>
    have h2 : rmayB k R = false := by unfold rMay at h; rw [h1] at h; simpa using h
    have h3 : 1 ≤ c ∧ c ≤ 64 ∧ 1 ≤ R ∧ R ≤ 8 := of_decide_eq_true h1
    obtain ⟨p, rfl⟩ := Int.eq_ofNat_of_zero_le (show 0 ≤ c by omega)
    obtain ⟨q, rfl⟩ := Int.eq_ofNat_of_zero_le (show 0 ≤ R by omega)
    have H := As.mk h2
    have H3 := As.mk h3
    clear h h1 h2 h3
    go_enter Try.func47, Try.ntmps47
    go_wp2_with fail
    refine (SNew_ok p q (by have := H3.out; omega) (by have := H3.out; omega) (by have := H3.out; omega) (by have := H3.out; omega)).mono ?_
    rintro e w1 ⟨g, b, rfl, hS, hg, hb, hK⟩
    have hK2 := ((Kp.refl no w).alloc _).trans hK
    have hbk : w1.heap[w.heap.size]? = some (.cells #[.int .i64 k, .int .i64 p, .int .i64 q] 23 (0, 0)) := bk_kp (heap_alloc_new _ _) hK (fun x => x)
    have c0 := bk_cell hbk 0
    have c1 := bk_cell hbk 1
    have c2 := bk_cell hbk 2
    change w1.cell? _ = some (.int .i64 k) at c0
    change w1.cell? _ = some (.int .i64 p) at c1
    change w1.cell? _ = some (.int .i64 q) at c2
    clear hbk
    go_wp2_with fail
    refine (rmay_any k p q).mono ?_
    rintro e w2 ⟨rfl, hK3⟩
    rw [H.out]
    go_wp2
    go_ret2
    exact ⟨rfl, hK2.trans hK3⟩
set_option maxRecDepth 100000 in
set_option maxHeartbeats 3200000 in
theorem RNew_ok (k : Int) (p q : Nat) (h : rMay k p q = true) : Calls Try.prog 47 #[.agg #[.int .i64 k, .int .i64 p, .int .i64 q]] w fun e w' => ∃ B, e = .returned (.tuple #[.pointer (some ⟨B.g, 0, none⟩), .int .i64 0]) ∧
    RingIn w' B ⟨0, List.replicate q 0, false, sNew p⟩ ∧ (∀ i, B.own i → w.heap.size ≤ i) ∧ Kp no w w' := by
  have h1 : mayB p q = true := by unfold rMay at h; rw [Bool.and_eq_true] at h; exact h.1
  have h2 : rmayB k q = true := by unfold rMay at h; rw [Bool.and_eq_true] at h; exact h.2
  have h3 : 1 ≤ (p : Int) ∧ (p : Int) ≤ 64 ∧ 1 ≤ (q : Int) ∧ (q : Int) ≤ 8 := of_decide_eq_true h1
  obtain ⟨i0, hi, hz0, hz1, hz2⟩ := info_parts Try.infoU64
  have H := As.mk h2
  have H3 := As.mk h3
  have hmk := fun (w : World) => run_makeSlice_full (P := Try.prog) w w.heap.size 31 36 i0 _ 1 Try.underlying31 hi hz0 hz1 .i64 .i64 q (by omega) (by rw [hz2]; omega) (by unfold maxLen; omega) (Nat.le_refl _)
  have HM := As.mk hmk
  clear h h1 h2 h3 hmk hi hz0 hz1 hz2
  go_enter Try.func47, Try.ntmps47
  go_wp2_with fail
  refine (SNew_ok p q (by have := H3.out; omega) (by have := H3.out; omega) (by have := H3.out; omega) (by have := H3.out; omega)).mono ?_
  rintro e w1 ⟨g, b, rfl, hS, hg, hb, hK⟩
  have hK2 := ((Kp.refl no w).alloc _).trans hK
  have hbk : w1.heap[w.heap.size]? = some (.cells #[.int .i64 k, .int .i64 p, .int .i64 q] 23 (0, 0)) := bk_kp (heap_alloc_new _ _) hK (fun x => x)
  have c0 := bk_cell hbk 0
  have c1 := bk_cell hbk 1
  have c2 := bk_cell hbk 2
  change w1.cell? _ = some (.int .i64 k) at c0
  change w1.cell? _ = some (.int .i64 p) at c1
  change w1.cell? _ = some (.int .i64 q) at c2
  go_wp2_with fail
  refine (rmay_any k p q).mono ?_
  rintro e w2 ⟨rfl, hK3⟩
  rw [H.out]
  have hbk2 := bk_kp hbk hK3 (fun x => x)
  have hS2 := hS.kp hK3 (fun x => x) (fun x => x)
  have hK4 := hK2.trans hK3
  clear c0 c1 c2 hbk hK hK2 hK3 hS
  have c1 := bk_cell hbk2 1
  have c2 := bk_cell hbk2 2
  change w2.cell? _ = some (.int .i64 p) at c1
  change w2.cell? _ = some (.int .i64 q) at c2
  go_wp2
  have hw : IntKind.u64.wrap (p : Int) = (p : Int) := by have := H3.out; rw [IntKind.wrap_u64]; omega
  obtain ⟨w3, hmk, hown, hgr⟩ := HM.out w2.drew
  have hbk3 : w3.heap[w.heap.size]? = some (.cells #[.int .i64 k, .int .i64 p, .int .i64 q] 23 (0, 0)) := (hgr.block _ (bk_lt hbk2) (by simp)).trans hbk2
  have e1 := bk_cell hbk3 1
  have e2 := bk_cell hbk3 2
  change w3.cell? _ = some (.int .i64 p) at e1
  change w3.cell? _ = some (.int .i64 q) at e2
  have hK5 : Kp no w2 w3 := ((Kp.refl no w2).drew).grown hgr (fun k hk => by cases hk)
  have hO := As.mk hown
  have HP := As.mk (show w.heap.size ≤ w2.heap.size from hK4.size)
  clear hown hgr hbk3 hbk2
  change (Instr.makeSlice 31 (.int .i64 (q : Int)) (.int .i64 (q : Int))).run Try.prog w2.drew = .ok (.slice (some ⟨w2.heap.size, 0, none⟩) q q) w3 at hmk
  generalize hpb : w.heap.size = pb at c1 c2 e1 e2 ⊢
  go_region_held3 (fun w' => w'.cell? ⟨pb, 1, none⟩ = some (.int .i64 p) ∧ w'.cell? ⟨pb, 2, none⟩ = some (.int .i64 q)) (first | go_keep | exact ⟨e1, e2⟩) (fail)
  clear hmk c1 c2 e1 e2 hw
  have h4 := H3.out
  have hS3 := (hS2.kp hK5 (fun x => x) (fun x => x))
  have hsz := hK5.size
  have hlen : (sNew p).length = p := by simp [sNew]
  have hrow : u64s (List.replicate q 0) = (madeCells (Value.int .u64 0).cells (q * 1)).toList := by
    rw [Nat.mul_one]
    exact ((toList_madeCells_one (Value.int .u64 0) q).trans (by simp [u64s])).symm
  have hR : RingIn (w3.alloc (.cells #[.int .u64 0, .slice (some ⟨w2.heap.size, 0, none⟩) q q, .pointer (some ⟨g, 0, none⟩), .int .u64 p, .bool false] 140)) ⟨w3.heap.size, w2.heap.size, q, g, b, p⟩ ⟨0, List.replicate q 0, false, sNew p⟩ := by
    refine ⟨?_, ?_, ?_, Int.le_refl 0, by show (0 : Int) < 9223372036854775808; decide, ?_⟩
    · have := heap_alloc_new w3 (.cells #[.int .u64 0, .slice (some ⟨w2.heap.size, 0, none⟩) q q, .pointer (some ⟨g, 0, none⟩), .int .u64 p, .bool false] 140)
      simpa [Rg.cells, hlen] using this
    · show (w3.alloc _).ownsRow 0 36 1 (.slice (some ⟨w2.heap.size, 0, none⟩) (List.replicate q (0 : Int)).length q) (List.replicate q (0 : Int)).length (u64s (List.replicate q 0))
      rw [List.length_replicate, hrow]
      exact or_base (hO.out.alloc _) (Nat.zero_le _)
    · show SlotsIn (w3.alloc _) g b p (sNew p) (List.replicate q (0 : Int)).length
      rw [List.length_replicate]
      exact hS3.kp ((Kp.refl no w3).alloc _) (fun x => x) (fun x => x)
    · intro x hx
      obtain ⟨_, rfl⟩ := List.mem_replicate.1 hx
      exact ⟨Int.le_refl 0, Int.le_refl 0⟩
  have hown : ∀ i, (⟨w3.heap.size, w2.heap.size, q, g, b, p⟩ : RB).own i → w.heap.size ≤ i := by
    have q1 := HP.out
    have q2 : w.heap.size + 1 ≤ g := by simpa using hg
    have q3 : w.heap.size + 1 ≤ b := by simpa using hb
    rintro i (h | h | h | h)
    · change i = w3.heap.size at h; omega
    · change i = w2.heap.size at h; omega
    · change i = g at h; omega
    · change i = b at h; omega
  have hK6 := (hK4.trans hK5).alloc (.cells #[.int .u64 0, .slice (some ⟨w2.heap.size, 0, none⟩) q q, .pointer (some ⟨g, 0, none⟩), .int .u64 p, .bool false] 140)
  clear hS2 hS3 hO hK4 hK5 hrow hlen hg hb hsz
  go_wp2
  go_ret2
  exact ⟨⟨w3.heap.size, w2.heap.size, q, g, b, p⟩, rfl, hR, hown, hK6⟩

/-- A ring's state in memory of its own: the value, from a block on. -/
def stVal (v1 v2 : Value) (r : Rg) : Value := .agg #[.int .u64 r.tail, v1, .bool r.closed, v2]
theorem stS {w' : World} (h : RingIn w' B r) : w'.cell? ⟨B.g, 0, none⟩ = some (.int .u64 r.tail) ∧ w'.cell? ⟨B.g, 1, none⟩ = some (.slice (some ⟨B.hb, 0, none⟩) r.heads.length B.hcap) ∧ w'.cell? ⟨B.g, 2, none⟩ = some (.pointer (some ⟨B.sg, 0, none⟩)) ∧ w'.cell? ⟨B.g, 4, none⟩ = some (.bool r.closed) := ⟨h.c0, h.c1, h.c2, h.c4⟩
theorem stN {w' : World} {n0 : Nat} (hn : w'.heap[n0]? = some (.cells #[.int .u64 0, .slice none 0 0, .bool false, .slice none 0 0] 92 (0, 0))) :
    w'.cell? ⟨n0, 0, none⟩ = some (.int .u64 0) ∧ w'.cell? ⟨n0, 1, none⟩ = some (.slice none 0 0) ∧ w'.cell? ⟨n0, 2, none⟩ = some (.bool false) ∧ w'.cell? ⟨n0, 3, none⟩ = some (.slice none 0 0) ∧ w'.frozen? ⟨n0, 0, none⟩ = false ∧ w'.frozen? ⟨n0, 1, none⟩ = false ∧ w'.frozen? ⟨n0, 2, none⟩ = false ∧ w'.frozen? ⟨n0, 3, none⟩ = false :=
  ⟨bk_cell hn 0, bk_cell hn 1, bk_cell hn 2, bk_cell hn 3, bk_fz hn 0, bk_fz hn 1, bk_fz hn 2, bk_fz hn 3⟩
set_option maxRecDepth 100000 in
set_option maxHeartbeats 6400000 in
theorem State_any (h : RingIn w B r) : Calls Try.prog 49 #[.pointer (some ⟨B.g, 0, none⟩)] w fun e w' => ∃ v1 v2, e = .returned (stVal v1 v2 r) ∧
    w'.ownsRow w.heap.size 36 1 v1 r.heads.length (u64s r.heads) ∧ w'.ownsRow w.heap.size 119 3 v2 r.L.length (slCells r.L) ∧ Kp no w w' := by
  have hs := h
  go_enter Try.func49, Try.ntmps49
  go_wp2
  have hn : (w.alloc (.cells #[.int .u64 0, .slice none 0 0, .bool false, .slice none 0 0] 92)).heap[w.heap.size]? = some (.cells #[.int .u64 0, .slice none 0 0, .bool false, .slice none 0 0] 92 (0, 0)) := heap_alloc_new _ _
  have hK0 : Kp no w (w.alloc (.cells #[.int .u64 0, .slice none 0 0, .bool false, .slice none 0 0] 92)) := (Kp.refl no w).alloc _
  have hs0 := hs.kp hK0 (fun _ _ x => x)
  have hne : w.heap.size ≠ B.g := by have := hs.glt B.g (.inl rfl); omega
  generalize w.alloc (.cells #[.int .u64 0, .slice none 0 0, .bool false, .slice none 0 0] 92) = W at hn hK0 hs0 ⊢
  have hs1 := hs0.qd (QD.drew W)
  have hn1 := bk_qd hn (QD.drew W)
  have h8 : r.heads.length ≤ 8 := hs1.s.hR
  generalize hn0 : w.heap.size = n0 at hn hn1 hne ⊢
  have hle : w.heap.size ≤ n0 := by omega
  clear hn0 hs0
  have hst := stS hs1
  go_region_held3 (fun w' => w'.cell? ⟨B.g, 0, none⟩ = some (.int .u64 r.tail) ∧ w'.cell? ⟨B.g, 1, none⟩ = some (.slice (some ⟨B.hb, 0, none⟩) r.heads.length B.hcap) ∧ w'.cell? ⟨B.g, 2, none⟩ = some (.pointer (some ⟨B.sg, 0, none⟩)) ∧ w'.cell? ⟨B.g, 4, none⟩ = some (.bool r.closed)) (first | go_keep | exact hst | exact stS hR1 | exact stS hR2)
    (first
      | (go_at_call 68; refine (CloneU_any (Rd.of_own (by first | exact hR2.hr | exact hs1.hr)) (u64s_len _) (u64s_one _) (by omega)).mono ?_; rintro e w5 ⟨v1, rfl, ho1, hK1⟩; obtain ⟨A1, k1, rfl⟩ := or_form ho1; have hR1 := RingIn.kp (by first | exact hR2 | exact hs1) hK1 (fun _ _ x => x); have hN1 := bk_kp (by first | exact hN2 | exact hn1) hK1 (fun x => x); obtain ⟨s0, s1, s2, s3, z0, z1, z2, z3⟩ := stN hN1)
      | (go_at_call 41; refine (All_any (by first | exact hR1.s | exact hs1.s)).mono ?_; rintro e w6 ⟨v2, rfl, ho2, hK2⟩; obtain ⟨A2, k2, rfl⟩ := or_form ho2; have hR2 := RingIn.kp (by first | exact hR1 | exact hs1) hK2 (fun _ _ x => x); have hN2 := bk_kp (by first | exact hN1 | exact hn1) hK2 (fun x => x); obtain ⟨s0', s1', s2', s3', z0', z1', z2', z3'⟩ := stN hN2))
  have hn0lt : n0 < W.heap.size := bk_lt hn
  have hK6 : Kp no w w6 := ((hK0.drew).trans hK1).trans hK2
  have hb1 := bk_set (cs' := #[.int .u64 r.tail, .slice none 0 0, .bool false, .slice none 0 0]) hN2 0 (.int .u64 r.tail) rfl
  have hb2 := bk_set (cs' := #[.int .u64 r.tail, .slice A1 r.heads.length k1, .bool false, .slice none 0 0]) hb1 1 (.slice A1 r.heads.length k1) rfl
  have hb3 := bk_set (cs' := #[.int .u64 r.tail, .slice A1 r.heads.length k1, .bool r.closed, .slice none 0 0]) hb2 2 (.bool r.closed) rfl
  have hb4 := bk_set (cs' := #[.int .u64 r.tail, .slice A1 r.heads.length k1, .bool r.closed, .slice A2 r.L.length k2]) hb3 3 (.slice A2 r.L.length k2) rfl
  have hKs := ((((Kp.refl (· = n0) w6).setCell ⟨n0, 0, none⟩ rfl (.int .u64 r.tail)).setCell ⟨n0, 1, none⟩ rfl (.slice A1 r.heads.length k1)).setCell ⟨n0, 2, none⟩ rfl (.bool r.closed)).setCell ⟨n0, 3, none⟩ rfl (.slice A2 r.L.length k2)
  have hs5 := hK1.size
  have ho1' := or_kp (or_kp ho1 hK2 (fun _ _ x => x)) hKs (fun b hb e => by
    have := (ho1.lt b hb).1
    have e2 : W.drew.heap.size = W.heap.size := rfl
    omega)
  have ho2' := or_kp ho2 hKs (fun b hb e => by
    have := (ho2.lt b hb).1
    have e2 : W.drew.heap.size = W.heap.size := rfl
    omega)
  have hKf := hK6.new hKs (fun i hi => by omega)
  have hwn : w.heap.size ≤ W.drew.heap.size := hK0.size
  replace ho1' := or_base (base' := w.heap.size) ho1' hwn
  replace ho2' := or_base (base' := w.heap.size) ho2' (by omega)
  generalize (((w6.setCell ⟨n0, 0, none⟩ (.int .u64 r.tail)).setCell ⟨n0, 1, none⟩ (.slice A1 r.heads.length k1)).setCell ⟨n0, 2, none⟩ (.bool r.closed)).setCell ⟨n0, 3, none⟩ (.slice A2 r.L.length k2) = W4 at hb4 ho1' ho2' hKf ⊢
  have HB := As.mk hb4
  clear hb1 hb2 hb3 hb4 hKs hs5 hK6 hK1 hK2 hR1 hR2 hN1 hN2 ho1 ho2 s0 s1 s2 s3 z0 z1 z2 z3 s0' s1' s2' s3' z0' z1' z2' z3' hst hn hn1
  go_wp2
  refine bodyPost_ret (results_cell_row rfl _ _ n0 92 #[.int .u64 r.tail, .slice A1 r.heads.length k1, .bool r.closed, .slice A2 r.L.length k2] (0, 0) _ rfl HB.out Try.underlying92 rfl (by kernel_rfl)) rfl ?_
  exact ⟨_, _, rfl, ho1', ho2', hKf⟩
theorem State_nil : Calls Try.prog 49 #[.pointer none] w fun e w' => e = .returned (.agg #[.int .u64 0, .slice none 0 0, .bool false, .slice none 0 0]) ∧ Kp no w w' := by
  go_enter Try.func49, Try.ntmps49
  go_wp2
  refine bodyPost_ret (v := .agg #[.int .u64 0, .slice none 0 0, .bool false, .slice none 0 0]) (by simp [results, Try.results49, go_sem]) rfl ?_
  exact ⟨rfl, by repeat (first | exact Kp.refl _ _ | refine Kp.alloc ?_ _ | refine Kp.setNew ?_ _ (by simp) _)⟩
end Go.Proofs.Ytmejnhfggmmefaa.H
