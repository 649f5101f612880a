/- Layer 12's reference: Right. No condition. -/
import Derived.Test.YtmejnhfggmmefaaL13E
import Derived.Test.YtmejnhfggmmefaaSeqQ
namespace Go.Proofs.Ytmejnhfggmmefaa.H
open Go.RowKit
set_option linter.unusedVariables false
set_option linter.unusedSimpArgs false
variable {w : World}

set_option maxRecDepth 100000 in
set_option maxHeartbeats 6400000 in
theorem RRight_len (p r : Int) (A : Option Addr) (n c : Nat) (hn : (n : Int) ≠ p) : Calls Try.prog 88 #[.int .i64 p, .int .i64 r, .slice A n c] w fun e w' => e = .returned (.bool false) ∧ QD w w' := by
  have hb : ((n : Int) != p) = true := by simpa using hn
  clear hn
  go_enter Try.func88, Try.ntmps88
  go_wp2
  go_ret
  exact ⟨rfl, QD.refl _⟩
set_option maxRecDepth 100000 in
set_option maxHeartbeats 6400000 in
theorem RRight_eq (p q : Nat) (h1 : 1 ≤ p) (h2 : p ≤ 64) (h4 : q ≤ 8) (ab ao c : Nat) (M : List Sl) (hM : M.length = p) (hwf : ∀ x ∈ M, 0 ≤ x.st ∧ x.st < 18446744073709551616)
    (hx : ∀ j u, (slCells M)[j]? = some u → w.cell? ⟨ab, ao + j, none⟩ = some u) :
    Calls Try.prog 88 #[.int .i64 p, .int .i64 q, .slice (some ⟨ab, ao, none⟩) p c] w fun e w' => e = .returned (.bool (loadB p q M)) ∧ Kp no w w' := by
  have hX := As.mk hx
  have hb : ((p : Int) != p) = false := by simp
  have hW := As.mk hwf
  have hL := As.mk hM
  have HQ := As.mk h4
  have HP := As.mk (And.intro h1 h2)
  have hwp : IntKind.u64.wrap (p : Int) = (p : Int) := by rw [IntKind.wrap_u64]; omega
  have hpn : ¬ (p : Int) = 0 := by omega
  clear hx hwf hM h4
  go_enter Try.func88, Try.ntmps88
  go_wp2
  go_loopw [7] (fun v7 wr => ∃ k : Nat, k ≤ p ∧ v7 = .int .i64 k ∧ As (∀ i : Nat, i < k → rightB i p q (M.getD i Sl.z) = true) ∧ Kp no w wr) (fun v7 _ => p - (intOf v7).toNat)
  case atStart => exact ⟨0, Nat.zero_le _, rfl, ⟨fun i hi => by omega⟩, Kp.refl _ _⟩
  case round =>
    obtain ⟨k, hk, rfl, hA, hK⟩ := hrel
    by_cases hlt : k < p
    · have h5 := slCells_get M k (by rw [hL.out]; exact hlt)
      have kc : ∀ o u, w.cell? ⟨ab, o, none⟩ = some u → wr.cell? ⟨ab, o, none⟩ = some u := fun o u h => by
        rw [World.cell?_of_block (hK.block ab (World.block_lt_of_cell? _ _ h) (fun x => x))]; exact h
      have c0 := kc _ _ (hX.out _ _ h5.1)
      have c1 := kc _ _ (hX.out _ _ h5.2.1)
      have c2 := kc _ _ (hX.out _ _ h5.2.2)
      rw [← Nat.add_assoc] at c1 c2
      have hbd := hW.out (M.getD k Sl.z) (by rw [List.getD_eq_getElem?_getD, List.getElem?_eq_getElem (by rw [hL.out]; exact hlt)]; exact List.getElem_mem _)
      have hno : rightB (k : Int) p q (M.getD k Sl.z) = false → loadB p q M = false := fun hr => by
        unfold loadB
        have : ((List.range M.length).all fun (i : Nat) => rightB (i : Int) p q (M.getD i Sl.z)) = false := by
          rw [List.all_eq_false]
          exact ⟨k, List.mem_range.2 (by rw [hL.out]; exact hlt), by rw [hr]; decide⟩
        rw [this, Bool.and_false]
      have hyes : rightB (k : Int) p q (M.getD k Sl.z) = true → As (∀ i : Nat, i < k + 1 → rightB i p q (M.getD i Sl.z) = true) := fun hr => ⟨fun i hi => by
        by_cases e : i = k
        · rw [e]; exact hr
        · exact hA.out i (by omega)⟩
      have hwk : IntKind.u64.wrap (k : Int) = (k : Int) := by rw [IntKind.wrap_u64]; omega
      have hlt2 : (k : Int) < (p : Int) := by omega
      have hnn : (0 : Int) ≤ (k : Int) := by omega
      clear kc h5
      generalize hxx : M.getD k Sl.z = x at c0 c1 c2 hbd hno hyes
      clear hxx
      obtain ⟨s, v, l⟩ := x
      dsimp only at c0 c1 c2 hbd
      obtain ⟨h0, h63⟩ := hbd
      have hm := heap_alloc_new wr (.cells #[.int .u64 s, .int .u64 v, .int .i64 l] 119)
      have y0 := cell_grow (bk_cell hm 0)
      have y1 := cell_grow (bk_cell hm 1)
      have y2 := cell_grow (bk_cell hm 2)
      have hKa := As.mk (hK.alloc (.cells #[.int .u64 s, .int .u64 v, .int .i64 l] 119))
      have ht1 : Int.tdiv s 2 = s / 2 := Int.tdiv_eq_ediv_of_nonneg h0
      have ht2 : Int.tmod (s / 2) p = s / 2 % p := Int.tmod_eq_emod_of_nonneg (by omega)
      have ht3 : Int.tmod s 2 = s % 2 := Int.tmod_eq_emod_of_nonneg h0
      have hw2 : IntKind.u64.wrap (s / 2) = s / 2 := by rw [IntKind.wrap_u64]; omega
      clear hm hK hk
      by_cases c1' : s < 9223372036854775808
      · have d1 : decide (9223372036854775808 ≤ s) = false := decide_eq_false (by omega)
        by_cases c2' : s / 2 % p = k
        · have d2 : (s / 2 % (p : Int) != (k : Int)) = false := by simpa using c2'
          by_cases c3 : s % 2 = 0
          · have R0 : rightB (k : Int) p q ⟨s, v, l⟩ = ((v == 0) && (l == 0)) := by simp [rightB, c1', c2', c3]
            clear c1' c2' h63
            by_cases cv : v = 0
            · subst cv
              by_cases cl : l = 0
              · subst cl
                have hB : rightB (k : Int) p q ⟨s, 0, 0⟩ = true := by rw [R0]; rfl
                have hA2 := hyes hB
                clear hno hyes hA hB
                go_wp2_with (refine reg_kp (id := 10) (by kernel_rfl) (by kernel_rfl) ?_; (repeat (go_big_quiet_step (first | (go_at_call 93; exact kq_same (RAll q HQ.out)) | fail))); refine wpQuiet_nil ?_; intro w6 k6; have K6 := As.mk (hKa.out.trans k6))
                exact ⟨⟨k + 1, by omega, by go_num, hA2, K6.out⟩, by simp [intOf]; omega⟩
              · have dl : (l != 0) = true := by simpa using cl
                have hB : rightB (k : Int) p q ⟨s, 0, l⟩ = false := by rw [R0]; simp [cl]
                have hf := As.mk (hno hB)
                clear hno hyes hA hB
                go_wp2_with (refine reg_kp (id := 10) (by kernel_rfl) (by kernel_rfl) ?_; (repeat (go_big_quiet_step (first | (go_at_call 93; exact kq_same (RAll q HQ.out)) | fail))); refine wpQuiet_nil ?_; intro w6 k6; have K6 := As.mk (hKa.out.trans k6))
                go_ret
                exact ⟨by rw [hf.out]; rfl, K6.out⟩
            · have dv : (v != 0) = true := by simpa using cv
              have hB : rightB (k : Int) p q ⟨s, v, l⟩ = false := by rw [R0]; simp [cv]
              have hf := As.mk (hno hB)
              clear hno hyes hA hB
              go_wp2_with (refine reg_kp (id := 10) (by kernel_rfl) (by kernel_rfl) ?_; (repeat (go_big_quiet_step (first | (go_at_call 93; exact kq_same (RAll q HQ.out)) | fail))); refine wpQuiet_nil ?_; intro w6 k6; have K6 := As.mk (hKa.out.trans k6))
              go_ret
              exact ⟨by rw [hf.out]; rfl, K6.out⟩
          · have c3' : s % 2 = 1 := by omega
            have R0 : rightB (k : Int) p q ⟨s, v, l⟩ = (decide (1 ≤ l) && decide (l < 2 ^ q)) := by simp [rightB, c1', c2', c3']
            clear c1' c2' h63 c3
            by_cases cl : l < 1
            · have dl : decide (l < 1) = true := decide_eq_true cl
              have hB : rightB (k : Int) p q ⟨s, v, l⟩ = false := by rw [R0, decide_eq_false (by omega), Bool.false_and]
              have hf := As.mk (hno hB)
              clear hno hyes hA hB
              go_wp2_with (refine reg_kp (id := 10) (by kernel_rfl) (by kernel_rfl) ?_; (repeat (go_big_quiet_step (first | (go_at_call 93; exact kq_same (RAll q HQ.out)) | fail))); refine wpQuiet_nil ?_; intro w6 k6; have K6 := As.mk (hKa.out.trans k6))
              go_ret
              exact ⟨by rw [hf.out]; rfl, K6.out⟩
            · have dl : decide (l < 1) = false := decide_eq_false cl
              by_cases cu : 2 ^ q - 1 < l
              · have du : decide ((2 : Int) ^ q - 1 < l) = true := decide_eq_true cu
                have hB : rightB (k : Int) p q ⟨s, v, l⟩ = false := by rw [R0, decide_eq_false (show ¬ l < 2 ^ q from by omega), Bool.and_false]
                have hf := As.mk (hno hB)
                clear hno hyes hA hB
                go_wp2_with (refine reg_kp (id := 10) (by kernel_rfl) (by kernel_rfl) ?_; (repeat (go_big_quiet_step (first | (go_at_call 93; exact kq_same (RAll q HQ.out)) | fail))); refine wpQuiet_nil ?_; intro w6 k6; have K6 := As.mk (hKa.out.trans k6))
                go_ret
                exact ⟨by rw [hf.out]; rfl, K6.out⟩
              · have du : decide ((2 : Int) ^ q - 1 < l) = false := decide_eq_false cu
                have hB : rightB (k : Int) p q ⟨s, v, l⟩ = true := by rw [R0, decide_eq_true (show 1 ≤ l from by omega), decide_eq_true (show l < 2 ^ q from by omega)]; rfl
                have hA2 := hyes hB
                clear hno hyes hA hB
                go_wp2_with (refine reg_kp (id := 10) (by kernel_rfl) (by kernel_rfl) ?_; (repeat (go_big_quiet_step (first | (go_at_call 93; exact kq_same (RAll q HQ.out)) | fail))); refine wpQuiet_nil ?_; intro w6 k6; have K6 := As.mk (hKa.out.trans k6))
                exact ⟨⟨k + 1, by omega, by go_num, hA2, K6.out⟩, by simp [intOf]; omega⟩
        · have d2 : (s / 2 % (p : Int) != (k : Int)) = true := by simpa using c2'
          have hB : rightB (k : Int) p q ⟨s, v, l⟩ = false := by simp [rightB, c2']
          have hf := As.mk (hno hB)
          clear hno hyes hA hB
          go_wp2_with fail
          go_ret
          exact ⟨by rw [hf.out]; rfl, hKa.out⟩
      · have d1 : decide (9223372036854775808 ≤ s) = true := decide_eq_true (by omega)
        have hB : rightB (k : Int) p q ⟨s, v, l⟩ = false := by simp [rightB, c1']
        have hf := As.mk (hno hB)
        clear hno hyes hA hB
        go_wp2_with fail
        go_ret
        exact ⟨by rw [hf.out]; rfl, hKa.out⟩
    · have hkp : k = p := by omega
      subst hkp
      have hlen := hL.out
      have ht : As (loadB k q M = true) := ⟨by
        unfold loadB
        rw [hlen, beq_self_eq_true, Bool.true_and, List.all_eq_true]
        intro i hi
        exact hA.out i (List.mem_range.1 hi)⟩
      clear hlen hA
      go_wp2
      go_ret
      exact ⟨by rw [ht.out]; rfl, hK⟩
theorem RRight_any (p q : Nat) (h1 : 1 ≤ p) (h2 : p ≤ 64) (h4 : q ≤ 8) {v : Value} (M : List Sl) (hwf : ∀ x ∈ M, 0 ≤ x.st ∧ x.st < 18446744073709551616) (hr : Rd w v M.length (slCells M)) :
    Calls Try.prog 88 #[.int .i64 p, .int .i64 q, v] w fun e w' => e = .returned (.bool (loadB p q M)) ∧ Kp no w w' := by
  by_cases hn : M.length = p
  · obtain ⟨ab, ao, c, rfl, hc1, hc2, hc⟩ := hr.form (by rw [slCells_len]; omega)
    rw [hn]
    exact RRight_eq p q h1 h2 h4 ab ao c M hn hwf hc
  · obtain ⟨A, c, rfl, -⟩ := hr
    refine (RRight_len p q A M.length c (by omega)).mono ?_
    rintro e w' ⟨rfl, hq⟩
    refine ⟨?_, Kp.of_qd hq⟩
    unfold loadB
    rw [show ((M.length : Int) == (p : Int)) = false from by simp; omega, Bool.false_and]
end Go.Proofs.Ytmejnhfggmmefaa.H
