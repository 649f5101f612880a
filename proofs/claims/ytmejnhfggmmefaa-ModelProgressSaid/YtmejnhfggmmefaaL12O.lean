/- Layer 12: SlotsOnce: of a ticket that was put, and not got by all, neither it nor another ticket of that place can be put. No condition. -/
import Derived.Test.YtmejnhfggmmefaaL12A
namespace Go.Proofs.Ytmejnhfggmmefaa.H
open Go.RowKit
set_option linter.unusedVariables false
set_option linter.unusedSimpArgs false
variable {w : World}

theorem wf_i64 {n : Int} (h : (Lit.int .i64 n).wf = true) : -9223372036854775808 ≤ n ∧ n ≤ 9223372036854775807 := by
  simp [Lit.wf, IntKind.min, IntKind.max, IntKind.signed, IntKind.bits] at h; omega
theorem wf_u64 {n : Int} (h : (Lit.int .u64 n).wf = true) : 0 ≤ n ∧ n ≤ 18446744073709551615 := by
  simp [Lit.wf, IntKind.min, IntKind.max, IntKind.signed, IntKind.bits] at h; omega
theorem u64_id {n : Int} (h0 : 0 ≤ n) (h1 : n < 18446744073709551616) : IntKind.u64.wrap n = n := by rw [IntKind.wrap_u64]; omega

set_option maxRecDepth 100000 in
set_option maxHeartbeats 6400000 in
theorem SlotsOnce_calls (a : Int) (wa : (Lit.int .i64 a).wf = true) (t : Int) (wt : (Lit.int .u64 t).wf = true) (m : Int) (wm : (Lit.int .u64 m).wf = true) (v : Int) (wv : (Lit.int .u64 v).wf = true) :
    Calls Try.prog 10 #[.int .i64 a, .int .u64 t, .int .u64 m, .int .u64 v] w fun e w' => e = .returned (.bool true) ∧ Kp no w w' := by
  obtain ⟨ht0, ht1⟩ := wf_u64 wt
  obtain ⟨hm0, hm1⟩ := wf_u64 wm
  have ha : 0 ≤ IntKind.u64.wrap a := by rw [IntKind.wrap_u64]; omega
  obtain ⟨q, hq⟩ := Int.eq_ofNat_of_zero_le (show 0 ≤ IntKind.u64.wrap a % 64 by omega)
  have hq64 : q < 64 := by omega
  have e1 : Int.tmod (IntKind.u64.wrap a) 64 = (q : Int) := by rw [Int.tmod_eq_emod_of_nonneg ha, hq]
  have e2 : Int.tmod t ((q : Int) + 1) = t % ((q : Int) + 1) := Int.tmod_eq_emod_of_nonneg ht0
  have e3 : Int.tmod m 1000 = m % 1000 := Int.tmod_eq_emod_of_nonneg hm0
  have e4 : IntKind.u64.wrap ((q : Int) + 1) = (q : Int) + 1 := u64_id (by omega) (by omega)
  clear ha wa wt wm wv
  go_enter Try.func10, Try.ntmps10
  go_wp2_with fail
  obtain ⟨P, hP⟩ : ∃ P : Nat, 1 + (q : Int) = (P : Int) := ⟨q + 1, by omega⟩
  rw [hP]
  have hP1 : 1 ≤ P := by omega
  have hP64 : P ≤ 64 := by omega
  obtain ⟨T, hT⟩ := Int.eq_ofNat_of_zero_le (show 0 ≤ t % (P : Int) from Int.emod_nonneg _ (by omega))
  have hTP : T < P := by
    have : t % (P : Int) < (P : Int) := Int.emod_lt_of_pos _ (by omega)
    omega
  rw [hT]
  have eP : IntKind.u64.wrap (P : Int) = (P : Int) := u64_id (by omega) (by omega)
  clear hP e1 e2 e4 hT hq
  refine (SNew_ok P 2 hP1 hP64 (by decide) (by decide)).mono ?_
  rintro e w1 ⟨g, b, rfl, hS, hg, hb, hK⟩
  go_wp2_with fail
  refine awake12.mono ?_
  rintro e w2 ⟨rfl, hK'⟩
  replace hS := hS.kp hK' (fun x => x) (fun x => x)
  replace hK := hK.trans hK'
  clear hK'
  go_wp2_with fail
  have hlen : (sNew P).length = P := by simp [sNew]
  have hpl : pl (sNew P) (T : Int) = T := by unfold pl; rw [hlen]; have : (T : Int) % (P : Int) = T := Int.emod_eq_of_lt (by omega) (by omega); rw [this]; rfl
  have hat : slAt (sNew P) (T : Int) = ⟨2 * (T : Int), 0, 0⟩ := by unfold slAt; rw [hpl]; simp [sNew, List.getD, hTP]
  have hput : sPut (sNew P) 2 (T : Int) v = (0, (sNew P).set T ⟨2 * (T : Int) + 1, v, 3⟩) := by
    unfold sPut
    rw [if_pos (by omega), hat, if_neg (by show ¬ 2 * (T : Int) < 2 * T; omega), if_neg (by show ¬ 2 * (T : Int) < 2 * T; omega), hpl]; rfl
  refine (Put_any hS (t := (T : Int)) (v := v) (by omega)).mono ?_
  rintro e w3 ⟨rfl, hS3, hK'⟩
  rw [hput] at hS3
  rw [hput]
  replace hK := hK.new hK' (fun i hi => by omega)
  clear hS hK' hput
  obtain ⟨L1, hL1⟩ : ∃ L, L = (sNew P).set T ⟨2 * (T : Int) + 1, v, 3⟩ := ⟨_, rfl⟩
  have hl1 : L1.length = P := by rw [hL1, List.length_set, hlen]
  have hp1 : ∀ x : Int, pl L1 x = (x % (P : Int)).toNat := fun x => by unfold pl; rw [hl1]
  have ha1 : slAt L1 (T : Int) = ⟨2 * (T : Int) + 1, v, 3⟩ := by
    unfold slAt
    rw [hp1, show (T : Int) % (P : Int) = T from Int.emod_eq_of_lt (by omega) (by omega), hL1]
    have : T < (sNew P).length := by omega
    simp [List.getD, this]
  change SlotsIn w3 g b P ((sNew P).set T ⟨2 * (T : Int) + 1, v, 3⟩) 2 at hS3
  rw [← hL1] at hS3
  have hget : sGet L1 2 1 (T : Int) = (v, 0, L1.set T ⟨2 * (T : Int) + 1, v, 1⟩) := by
    have hg0 : sGot L1 2 1 (T : Int) = 0 := by
      unfold sGot
      rw [if_pos ⟨by omega, by decide, by decide⟩, ha1, if_neg (by show ¬ 2 * (T : Int) + 1 < 2 * T + 1; omega), if_neg (by show ¬ 2 * (T : Int) + 1 < 2 * T + 1; omega)]; rfl
    unfold sGet
    rw [if_pos hg0, ha1, hp1, show (T : Int) % (P : Int) = T from Int.emod_eq_of_lt (by omega) (by omega)]; rfl
  clear hat hpl hlen
  have HG := As.mk hget
  have HL := As.mk (And.intro hL1 (And.intro hl1 (And.intro hp1 ha1)))
  clear hget hL1 hl1 hp1 ha1
  go_wp2_with fail
  refine (Get_any hS3 (t := (T : Int)) (j := 1) (by omega)).mono ?_
  rintro e w4 ⟨rfl, hS4, hK'⟩
  rw [HG.out] at hS4
  rw [HG.out]
  replace hK := hK.new hK' (fun i hi => by omega)
  clear hS3 hK'
  change SlotsIn w4 g b P (L1.set T ⟨2 * (T : Int) + 1, v, 1⟩) 2 at hS4
  obtain ⟨M, hM⟩ := Int.eq_ofNat_of_zero_le (show 0 ≤ m % 1000 by omega)
  have hM1 : M < 1000 := by omega
  have hPM : (P : Int) * (M : Int) ≤ 64 * 1000 := by
    have h1 : P * M ≤ 64 * 1000 := Nat.mul_le_mul hP64 (by omega)
    exact_mod_cast h1
  have hPM0 : 0 ≤ (P : Int) * (M : Int) := Int.mul_nonneg (by omega) (by omega)
  rw [hM] at e3
  have e5 : IntKind.u64.wrap ((P : Int) * (M : Int)) = (P : Int) * (M : Int) := u64_id hPM0 (by omega)
  have e6 : IntKind.u64.wrap ((T : Int) + (P : Int) * (M : Int)) = (T : Int) + (P : Int) * (M : Int) := u64_id (by omega) (by omega)
  have HE := As.mk (And.intro hPM hPM0)
  clear hPM hPM0 hM
  go_wp2_with fail
  obtain ⟨hL1, hl1, hp1, ha1⟩ := HL.out
  obtain ⟨hPM, hPM0⟩ := HE.out
  have hmod : ((T : Int) + (P : Int) * (M : Int)) % (P : Int) = T := by
    rw [Int.add_mul_emod_self_left]; exact Int.emod_eq_of_lt (by omega) (by omega)
  have ha2 : slAt (L1.set T ⟨2 * (T : Int) + 1, v, 1⟩) ((T : Int) + (P : Int) * (M : Int)) = ⟨2 * (T : Int) + 1, v, 1⟩ := by
    unfold slAt pl
    rw [List.length_set, hl1, hmod]
    have : T < L1.length := by omega
    simp [List.getD, this]
  by_cases hz : M = 0
  · have hO : (T : Int) + (P : Int) * (M : Int) = T := by rw [hz]; simp
    rw [hO] at ha2 ⊢
    have hput2 : sPut (L1.set T ⟨2 * (T : Int) + 1, v, 1⟩) 2 (T : Int) v = (11, L1.set T ⟨2 * (T : Int) + 1, v, 1⟩) := by
      unfold sPut
      rw [if_pos (by omega), ha2, if_neg (by show ¬ 2 * (T : Int) + 1 < 2 * T; omega), if_pos (by show 2 * (T : Int) < 2 * T + 1; omega)]
    have HP := As.mk hput2
    clear ha2 hput2 hmod hPM hPM0 hL1 hl1 hp1 ha1 e3 e5 e6 hO hz
    refine (Put_any hS4 (t := (T : Int)) (v := v) (by omega)).mono ?_
    rintro e w5 ⟨rfl, hS5, hK'⟩
    rw [HP.out]
    replace hK := hK.new hK' (fun i hi => by omega)
    clear hS4 hK' hS5
    go_wp2
    go_ret
    exact ⟨rfl, hK⟩
  · have hM2 : 1 ≤ M := by omega
    have hPM2 : (1 : Int) ≤ (P : Int) * (M : Int) := by
      have h1 : 1 * 1 ≤ P * M := Nat.mul_le_mul hP1 hM2
      exact_mod_cast h1
    generalize hO : (T : Int) + (P : Int) * (M : Int) = O at ha2 ⊢
    have hO1 : (T : Int) < O := by omega
    have hO2 : O < 4611686018427387904 := by omega
    have hput2 : sPut (L1.set T ⟨2 * (T : Int) + 1, v, 1⟩) 2 O v = (8, L1.set T ⟨2 * (T : Int) + 1, v, 1⟩) := by
      unfold sPut
      rw [if_pos hO2, ha2, if_pos (by show 2 * (T : Int) + 1 < 2 * O; omega)]
    have HP := As.mk hput2
    have hd : (O == (T : Int)) = false := by simp; omega
    clear ha2 hput2 hmod hPM hPM0 hL1 hl1 hp1 ha1 e3 e5 e6 hO hz hPM2
    refine (Put_any hS4 (t := O) (v := v) (by omega)).mono ?_
    rintro e w5 ⟨rfl, hS5, hK'⟩
    rw [HP.out]
    replace hK := hK.new hK' (fun i hi => by omega)
    clear hS4 hK' hS5
    go_wp2
    go_ret
    exact ⟨rfl, hK⟩
end Go.Proofs.Ytmejnhfggmmefaa.H
