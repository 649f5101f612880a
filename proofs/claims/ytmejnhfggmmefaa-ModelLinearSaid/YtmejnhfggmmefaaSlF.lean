/- Layer 12: what slots' right and Load do. No condition. Layer 12: what slots' Load does. No condition. -/
import Derived.Test.YtmejnhfggmmefaaSlD
namespace Go.Proofs.Ytmejnhfggmmefaa.H
open Go.RowKit
set_option linter.unusedVariables false
set_option linter.unusedSimpArgs false
variable {w : World} {g b cap : Nat} {L : List Sl} {R : Nat} {t j : Int}

def rightB (i p r : Int) (x : Sl) : Bool :=
  decide (x.st < 9223372036854775808) && (x.st / 2 % p == i) && (if x.st % 2 = 0 then (x.v == 0) && (x.left == 0) else decide (1 ≤ x.left) && decide (x.left < 2 ^ r.toNat))

set_option maxRecDepth 100000 in
set_option maxHeartbeats 3200000 in
theorem right_any (i p r : Int) (x : Sl) (hi0 : 0 ≤ i) (hi1 : i ≤ 64) (hp0 : 1 ≤ p) (hp1 : p ≤ 64) (hr0 : 0 ≤ r) (hr1 : r ≤ 8) (h0 : 0 ≤ x.st) (h1 : x.st < 18446744073709551616) :
    Calls Try.prog 91 #[.int .i64 i, .int .i64 p, .int .i64 r, .agg #[.int .u64 x.st, .int .u64 x.v, .int .i64 x.left]] w fun e w' => e = .returned (.bool (rightB i p r x)) ∧ Kp no w w' := by
  obtain ⟨s, v, l⟩ := x
  change 0 ≤ s at h0
  change s < _ at h1
  show Calls Try.prog 91 #[.int .i64 i, .int .i64 p, .int .i64 r, .agg #[.int .u64 s, .int .u64 v, .int .i64 l]] w _
  have hwi : IntKind.u64.wrap i = i := by rw [IntKind.wrap_u64]; omega
  have hwp : IntKind.u64.wrap p = p := by rw [IntKind.wrap_u64]; omega
  have hpn : ¬ p = 0 := by omega
  have ht1 : Int.tdiv s 2 = s / 2 := Int.tdiv_eq_ediv_of_nonneg h0
  have ht2 : Int.tmod (s / 2) p = s / 2 % p := Int.tmod_eq_emod_of_nonneg (by omega)
  have ht3 : Int.tmod s 2 = s % 2 := Int.tmod_eq_emod_of_nonneg h0
  have hw2 : IntKind.u64.wrap (s / 2) = s / 2 := by rw [IntKind.wrap_u64]; omega
  by_cases c1 : s < 9223372036854775808
  · have d1 : decide (9223372036854775808 ≤ s) = false := decide_eq_false (by omega)
    by_cases c2 : s / 2 % p = i
    · have d2 : (s / 2 % p != i) = false := by simpa using c2
      by_cases c3 : s % 2 = 0
      · have d3 : (s % 2 == 0) = true := by simpa using c3
        have e : rightB i p r ⟨s, v, l⟩ = ((v == 0) && (l == 0)) := by simp [rightB, c1, c2, c3]
        rw [e]
        clear e c1 c2 c3 h1 hi0 hi1 hp0 hp1
        by_cases c4 : v = 0
        · subst c4
          go_enter Try.func91, Try.ntmps91
          go_wp2
          go_ret
          exact ⟨by simp, by repeat (first | exact Kp.refl _ _ | refine Kp.alloc ?_ _ | refine Kp.drew ?_ | refine Kp.drewN ?_ _)⟩
        · have d4 : (v == 0) = false := by simpa using c4
          clear c4
          go_enter Try.func91, Try.ntmps91
          go_wp2
          go_ret
          exact ⟨by simp [d4], by repeat (first | exact Kp.refl _ _ | refine Kp.alloc ?_ _ | refine Kp.drew ?_ | refine Kp.drewN ?_ _)⟩
      · have d3 : (s % 2 == 0) = false := by simpa using c3
        have e : rightB i p r ⟨s, v, l⟩ = (decide (1 ≤ l) && decide (l < 2 ^ r.toNat)) := by simp [rightB, c1, c2, c3]
        rw [e]
        have hmin : min r.toNat 64 = r.toNat := by omega
        have hwr : IntKind.i64.wrap (2 ^ r.toNat) = 2 ^ r.toNat := by
          have q1 := pow_le8 (R := r.toNat) (by omega); have q2 := pow_pos' r.toNat; rw [IntKind.wrap_i64]; omega
        clear e c1 c2 c3 h1 hi0 hi1 hp0 hp1
        by_cases c4 : 1 ≤ l
        · have d4 : decide (1 ≤ l) = true := decide_eq_true c4
          clear c4
          go_enter Try.func91, Try.ntmps91
          go_wp2
          go_quiet (fail)
          go_wp2
          go_ret
          exact ⟨by simp [d4], by repeat (first | exact Kp.refl _ _ | refine Kp.alloc ?_ _ | refine Kp.drew ?_ | refine Kp.drewN ?_ _)⟩
        · have d4 : decide (1 ≤ l) = false := decide_eq_false c4
          clear c4
          go_enter Try.func91, Try.ntmps91
          go_wp2
          go_quiet (fail)
          go_wp2
          go_ret
          exact ⟨by simp [d4], by repeat (first | exact Kp.refl _ _ | refine Kp.alloc ?_ _ | refine Kp.drew ?_ | refine Kp.drewN ?_ _)⟩
    · have d2 : (s / 2 % p != i) = true := by simpa using c2
      have e : rightB i p r ⟨s, v, l⟩ = false := by simp [rightB, c2]
      rw [e]
      clear e c1 c2 h1 hi0 hi1 hp0 hp1
      go_enter Try.func91, Try.ntmps91
      go_wp2
      go_ret
      exact ⟨rfl, by repeat (first | exact Kp.refl _ _ | refine Kp.alloc ?_ _ | refine Kp.drew ?_ | refine Kp.drewN ?_ _)⟩
  · have d1 : decide (9223372036854775808 ≤ s) = true := decide_eq_true (by omega)
    have e : rightB i p r ⟨s, v, l⟩ = false := by simp [rightB, c1]
    rw [e]
    clear e c1 h1 hi0 hi1 hp0 hp1
    go_enter Try.func91, Try.ntmps91
    go_wp2
    go_ret
    exact ⟨rfl, by repeat (first | exact Kp.refl _ _ | refine Kp.alloc ?_ _ | refine Kp.drew ?_ | refine Kp.drewN ?_ _)⟩
end Go.Proofs.Ytmejnhfggmmefaa.H
namespace Go.Proofs.Ytmejnhfggmmefaa.H
open Go.RowKit
set_option linter.unusedVariables false
set_option linter.unusedSimpArgs false
variable {w : World} {g b cap : Nat} {L : List Sl} {R : Nat} {t j : Int}

/-- May places be? -/
def loadB (p R : Int) (M : List Sl) : Bool := ((M.length : Int) == p) && (List.range M.length).all fun (i : Nat) => rightB (i : Int) p R (M.getD i Sl.z)
theorem loadB_ok {p : Int} {R : Nat} {M : List Sl} (hR : R ≤ 8) (hb : ∀ x ∈ M, 0 ≤ x.st ∧ x.st < 18446744073709551616) (h : loadB p R M = true) : ∀ x ∈ M, x.ok := by
  intro x hx
  obtain ⟨i, hi, rfl⟩ := List.mem_iff_getElem.1 hx
  unfold loadB at h
  rw [Bool.and_eq_true] at h
  have h2 := List.all_eq_true.1 h.2 i (List.mem_range.2 hi)
  have e : M.getD i Sl.z = M[i] := by simp [List.getD, hi]
  rw [e] at h2
  have h3 := hb _ (List.getElem_mem hi)
  refine ⟨h3.1, h3.2, ?_⟩
  unfold rightB at h2
  rw [Bool.and_eq_true, Bool.and_eq_true] at h2
  have h4 := h2.2
  have q1 := pow_le8 hR
  split at h4
  · simp at h4; omega
  · simp at h4; omega
def LoadPost (w : World) (M : List Sl) (p : Int) (R : Nat) (e : Ending) (w' : World) : Prop :=
  (loadB p R M = true ∧ ∃ g b cap, e = .returned (.tuple #[.pointer (some ⟨g, 0, none⟩), .int .i64 0]) ∧ SlotsIn w' g b cap M R ∧ w.heap.size ≤ g ∧ w.heap.size ≤ b ∧ Kp no w w') ∨
  (loadB p R M = false ∧ e = .returned (.tuple #[.pointer none, .int .i64 3]) ∧ Kp no w w')

set_option maxRecDepth 100000 in
set_option maxHeartbeats 1600000 in
theorem SLoad_arg (p r : Int) (v : Value) (h : mayB p r = false) : Calls Try.prog 69 #[.int .i64 p, .int .i64 r, v] w fun e w' => e = .returned (.tuple #[.pointer none, .int .i64 1]) ∧ QD w w' := by
  have H := As.mk h
  clear h
  go_enter Try.func69, Try.ntmps69
  go_wp2_with fail
  refine (may_any p r).mono ?_
  rintro e w1 ⟨rfl, rfl⟩
  rw [H.out]
  go_wp2
  go_ret2
  exact ⟨rfl, QD.refl _⟩
set_option maxRecDepth 100000 in
set_option maxHeartbeats 1600000 in
theorem SLoad_len (p r : Int) (A : Option Addr) (n c : Nat) (h : mayB p r = true) (hn : (n : Int) ≠ p) : Calls Try.prog 69 #[.int .i64 p, .int .i64 r, .slice A n c] w fun e w' => e = .returned (.tuple #[.pointer none, .int .i64 3]) ∧ QD w w' := by
  have H := As.mk h
  have hb : ((n : Int) != p) = true := by simpa using hn
  clear h hn
  go_enter Try.func69, Try.ntmps69
  go_wp2_with fail
  refine (may_any p r).mono ?_
  rintro e w1 ⟨rfl, rfl⟩
  rw [H.out]
  go_wp2
  go_ret2
  exact ⟨rfl, QD.refl _⟩
set_option maxRecDepth 100000 in
set_option maxHeartbeats 3200000 in
theorem SLoad_eq (p R : Nat) (h1 : 1 ≤ p) (h2 : p ≤ 64) (h3 : 1 ≤ R) (h4 : R ≤ 8) (ab ao c : Nat) (M : List Sl) (hM : M.length = p) (hwf : ∀ x ∈ M, 0 ≤ x.st ∧ x.st < 18446744073709551616) (hpc : p ≤ c) (hcm : c ≤ maxLen)
    (hx : ∀ j u, (slCells M)[j]? = some u → w.cell? ⟨ab, ao + j, none⟩ = some u) :
    Calls Try.prog 69 #[.int .i64 p, .int .i64 R, .slice (some ⟨ab, ao, none⟩) p c] w (LoadPost w M p R) := by
  have H := As.mk (show mayB p R = true from decide_eq_true (by omega))
  have hX := As.mk hx
  have hb : ((p : Int) != p) = false := by simp
  have hW := As.mk hwf
  have hL := As.mk hM
  clear hx hwf hM
  go_enter Try.func69, Try.ntmps69
  go_wp2_with fail
  refine (may_any p R).mono ?_
  rintro e w1 ⟨rfl, rfl⟩
  rw [H.out]
  go_wp2
  go_loopw [20] (fun v20 wr => ∃ k : Nat, k ≤ p ∧ v20 = .int .i64 k ∧ As (∀ i : Nat, i < k → rightB i p R (M.getD i Sl.z) = true) ∧ Kp no w1 wr) (fun v20 _ => p - (intOf v20).toNat)
  case atStart => exact ⟨0, Nat.zero_le _, rfl, ⟨fun i hi => by omega⟩, Kp.refl _ _⟩
  case round =>
    obtain ⟨k, hk, rfl, hA, hK⟩ := hrel
    by_cases hlt : k < p
    · have h5 := slCells_get M k (by rw [hL.out]; exact hlt)
      have kc : ∀ o u, w1.cell? ⟨ab, o, none⟩ = some u → wr.cell? ⟨ab, o, none⟩ = some u := fun o u h => by
        rw [World.cell?_of_block (hK.block ab (World.block_lt_of_cell? _ _ h) (fun x => x))]; exact h
      have c0 := kc _ _ (hX.out _ _ h5.1)
      have c1 := kc _ _ (hX.out _ _ h5.2.1)
      have c2 := kc _ _ (hX.out _ _ h5.2.2)
      rw [← Nat.add_assoc] at c1 c2
      have hbd := hW.out (M.getD k Sl.z) (by rw [List.getD_eq_getElem?_getD, List.getElem?_eq_getElem (by rw [hL.out]; exact hlt)]; exact List.getElem_mem _)
      clear kc h5
      go_wp2_with fail
      refine (right_any (k : Int) p R (M.getD k Sl.z) (by omega) (by omega) (by omega) (by omega) (by omega) (by omega) hbd.1 hbd.2).mono ?_
      rintro e w2 ⟨rfl, hK2⟩
      have hK3 : Kp no w1 w2 := (hK.alloc _).trans hK2
      clear hK hK2 c0 c1 c2 hbd
      cases hr : rightB (k : Int) p R (M.getD k Sl.z) with
      | true =>
        have hA2 : As (∀ i : Nat, i < k + 1 → rightB i p R (M.getD i Sl.z) = true) := ⟨fun i hi => by
          by_cases e : i = k
          · rw [e]; exact hr
          · exact hA.out i (by omega)⟩
        clear hr hA
        go_wp2
        exact ⟨⟨k + 1, by omega, by go_num, hA2, hK3⟩, by simp [intOf]; omega⟩
      | false =>
        have hf : loadB p R M = false := by
          unfold loadB
          have : ((List.range M.length).all fun (i : Nat) => rightB (i : Int) p R (M.getD i Sl.z)) = false := by
            rw [List.all_eq_false]
            exact ⟨k, List.mem_range.2 (by rw [hL.out]; exact hlt), by rw [hr]; decide⟩
          rw [this, Bool.and_false]
        clear hr hA
        go_wp2
        go_ret2
        exact .inr ⟨hf, rfl, hK3⟩
    · have hkp : k = p := by omega
      subst hkp
      have hlen := hL.out
      have hrd : Rd wr (.slice (some ⟨ab, ao, none⟩) k c) k (slCells M) := by
        refine ⟨_, _, rfl, hpc, hcm, (fun h => by cases h), fun ad h j u hj => ?_⟩
        cases h
        have hadd : (⟨ab, ao, none⟩ : Addr).add j = ⟨ab, ao + j, none⟩ := by unfold Addr.add; split <;> simp_all
        have := hX.out j u hj
        rw [hadd, World.cell?_of_block (hK.block ab (World.block_lt_of_cell? _ _ this) (fun x => x))]; exact this
      have ht : loadB k R M = true := by
        unfold loadB
        rw [hlen, beq_self_eq_true, Bool.true_and, List.all_eq_true]
        intro i hi
        exact hA.out i (List.mem_range.1 hi)
      have hok := loadB_ok h4 hW.out ht
      have hl3 : (slCells M).length = k * 3 := by rw [slCells_len, hlen]
      have hF := As.mk (And.intro ht (And.intro hlen hok))
      clear hlen ht hok hA
      go_wp2_with fail
      refine (CloneSlot_any hrd hl3 (slCells_one M) (by omega)).mono ?_
      rintro e w2 ⟨v, rfl, hown, hK2⟩
      obtain ⟨ht, hlen, hok⟩ := hF.out
      rcases hown.2 with ⟨_, h0⟩ | ⟨g2, cap2, cur, rfl, hb2, hg2, hrest⟩
      · omega
      · have hK3 := hK.trans hK2
        have hsz := hK3.size
        have hS : SlotsIn (w2.alloc (.cells #[.slice (some ⟨g2, 0, none⟩) k cap2, .int .i64 R] 122)) w2.heap.size g2 cap2 M R :=
          ⟨by rw [hlen]; exact heap_alloc_new _ _, by rw [hlen]; exact or_base (hown.alloc _) (Nat.zero_le _), by omega, by omega, h4, h3, hok⟩
        have hP : LoadPost w1 M k R (.returned (.tuple #[.pointer (some ⟨w2.heap.size, 0, none⟩), .int .i64 0])) (w2.alloc (.cells #[.slice (some ⟨g2, 0, none⟩) k cap2, .int .i64 R] 122)) :=
          .inl ⟨ht, _, _, _, rfl, hS, hsz, by have := hK.size; omega, hK3.alloc _⟩
        have hPP := As.mk hP
        clear hP hS ht hlen hok hF hg2 hrest
        go_wp2
        go_ret2
        exact hPP.out
/-- Load, whatever it is asked. -/
theorem SLoad_any (p R : Nat) (h1 : mayB p R = true) {v : Value} (M : List Sl) (hwf : ∀ x ∈ M, 0 ≤ x.st ∧ x.st < 18446744073709551616) (hr : Rd w v M.length (slCells M)) :
    Calls Try.prog 69 #[.int .i64 p, .int .i64 R, v] w (LoadPost w M p R) := by
  have h2 : 1 ≤ (p : Int) ∧ (p : Int) ≤ 64 ∧ 1 ≤ (R : Int) ∧ (R : Int) ≤ 8 := of_decide_eq_true h1
  obtain ⟨A, c, rfl, hc, hm, h3, h4⟩ := hr
  by_cases hn : M.length = p
  · cases A with
    | none => have := (h3 rfl).1; omega
    | some ad =>
      obtain ⟨ab, ao, spot⟩ := ad
      have h5 := h4 _ rfl
      have h6 := h5 0 _ ((slCells_get M 0 (by omega)).1)
      have hsp : spot = none := by
        have := World.cell?_spot h6
        unfold Addr.add at this
        split at this <;> simp_all
      subst hsp
      rw [hn] at hc ⊢
      refine SLoad_eq p R (by omega) (by omega) (by omega) (by omega) ab ao c M hn hwf hc hm (fun j u hj => ?_)
      have hadd : (⟨ab, ao, none⟩ : Addr).add j = ⟨ab, ao + j, none⟩ := by unfold Addr.add; split <;> simp_all
      rw [← hadd]; exact h5 j u hj
  · refine (SLoad_len p R A M.length c h1 (by omega)).mono ?_
    rintro e w' ⟨rfl, hq⟩
    refine .inr ⟨?_, rfl, Kp.of_qd hq⟩
    unfold loadB
    rw [show ((M.length : Int) == (p : Int)) = false from by simp; omega, Bool.false_and]
end Go.Proofs.Ytmejnhfggmmefaa.H
