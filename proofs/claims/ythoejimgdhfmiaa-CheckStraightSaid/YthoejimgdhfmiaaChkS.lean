/- Layer 11: CheckStraight: of a thread without jumps and halts all places are reached, and it ends. No condition. -/
import Derived.Test.YthoejimgdhfmiaaChkN
import Derived.Test.YthoejimgdhfmiaaChkR
namespace Go.Proofs.Ythoejimgdhfmiaa.H
open Go.RowKit Go.Proofs.Ythoejimgdhfmiaa.PCheckTells Go.Proofs.YthoejimgdhfmiaaW.PrintWords Go.Proofs.YthoejimgdhfmiaaW.PrintLast Go.Proofs.YthoejimgdhfmiaaW.PrintMore
set_option linter.unusedVariables false
set_option linter.unusedSimpArgs false
variable {w : World}

def plainAt (M : List S48) (k : Nat) : Prop := ¬ (15 ≤ (M.getD k z48).f0 ∧ (M.getD k z48).f0 ≤ 17) ∧ ¬ (M.getD k z48).f0 = 25
theorem straight {M : List S48} (h : ∀ k, k < M.length → plainAt M k) : ∀ k, k ≤ M.length → Rch M k
  | 0, _ => .zero
  | k + 1, hk => by
    refine (straight h k (by omega)).step ?_
    obtain ⟨h1, h2⟩ := h k (by omega)
    unfold nx
    rw [if_neg (fun e => e.elim (fun e => by omega) h2), if_neg (by omega), if_neg h1]
    exact List.mem_singleton.2 rfl
set_option maxRecDepth 100000 in
set_option maxHeartbeats 6400000 in
theorem CheckStraight_calls {v0 : Value} (hm : IsIn w v0) : Calls Try.prog 8 #[v0] w fun e w' => e = .returned (.bool true) ∧ Below w.heap.size w w' := by
  obtain ⟨AM, cM, M, rfl, hMc, hMC, hMw⟩ := hm
  have HM := As.mk (And.intro hMc hMC)
  have hMmax : M.length ≤ 9223372036854775807 := hMC.2.1
  have HT := As.mk (show wfT [M] from fun l hl => by rw [List.mem_singleton.1 hl]; exact hMw)
  obtain ⟨k1, ⟨a, b, c⟩, hk1⟩ := endF [] [M] (by simp) (by simp)
  have HC := As.mk hk1
  have HR := As.mk (simF [] [M] HT.out k1 _ hk1)
  clear hMc hMC hMw hk1
  go_enter Try.func8, Try.ntmps8
  go_wp2_with fail
  have HPG := As.mk (show PgAt ((w.alloc (.cells #[.slice AM M.length cM] 44)).alloc (.cells #[.slice none 0 0, .slice (some ⟨w.heap.size, 0, none⟩) 1 1] 25)) [] [M] none 0 (some ⟨w.heap.size, 0, none⟩) 1 from ⟨⟨rfl, by decide, fun h => absurd h (by decide)⟩, Nat.le_refl _, Kd.C_below (one_C HM.out.2 HM.out.1) ((Kp.refl no (w.alloc (.cells #[.slice AM M.length cM] 44))).alloc _).below, Nat.le_refl _⟩)
  have m1 := heap_alloc_new (w.alloc (.cells #[.slice AM M.length cM] 44)) (.cells #[.slice none 0 0, .slice (some ⟨w.heap.size, 0, none⟩) 1 1] 25)
  rw [sz_alloc] at m1
  have hK := ((Kp.refl no w).alloc (.cells #[.slice AM M.length cM] 44)).alloc (.cells #[.slice none 0 0, .slice (some ⟨w.heap.size, 0, none⟩) 1 1] 25)
  have hP := Kp.refl no ((w.alloc (.cells #[.slice AM M.length cM] 44)).alloc (.cells #[.slice none 0 0, .slice (some ⟨w.heap.size, 0, none⟩) 1 1] 25))
  generalize (w.alloc (.cells #[.slice AM M.length cM] 44)).alloc (.cells #[.slice none 0 0, .slice (some ⟨w.heap.size, 0, none⟩) 1 1] 25) = W at m1 hK hP HPG ⊢
  generalize w.heap.size + 1 = g1 at m1 ⊢
  generalize w.heap.size = g0 at m1 HPG ⊢
  refine awake11.mono ?_
  rintro e w1 ⟨rfl, hk⟩
  replace m1 := bk_kp m1 hk (fun x => x)
  replace hK := hK.trans hk
  replace hP := hP.trans hk
  clear hk
  have d0 := bk_cell m1 0
  have d1 := bk_cell m1 1
  by_cases hM : M.length ≤ 100
  · have hd : decide ((100 : Int) < (M.length : Int)) = false := decide_eq_false (by omega)
    go_wp2_with fail
    refine (rRight_calls (HPG.out.below hP.below) HR.out).mono ?_
    rintro e w2 ⟨rfl, hk⟩
    replace m1 := bk_kp m1 hk (fun x => x)
    replace hK := hK.trans hk
    replace hP := hP.trans hk
    clear hk hd d0 d1
    have d0 := bk_cell m1 0
    have d1 := bk_cell m1 1
    by_cases hc0 : c = 0
    · subst hc0
      have HL := As.mk (okF HC.out)
      have HM1 := As.mk m1
      have HK := As.mk hK
      have HP := As.mk hP
      clear m1 hK hP d0 d1
      go_wp2_with fail
      go_loopw [30] (fun v30 wr => ∃ k : Nat, k ≤ M.length ∧ v30 = .int .i64 k ∧ As (∀ j, j < k → plainAt M j) ∧ As (Kp no w2 wr)) (fun v30 _ => M.length - (intOf v30).toNat)
      case atStart => exact ⟨0, Nat.zero_le _, rfl, ⟨fun j h => absurd h (Nat.not_lt_zero j)⟩, ⟨Kp.refl _ _⟩⟩
      case round =>
        obtain ⟨k, hk, rfl, hpl, hKr⟩ := hrel
        by_cases hlt : k < M.length
        · as_aux_lemma =>
            obtain ⟨b, o, hA, hfs⟩ := C48_cells (Kd.C_below (Kd.C_below HM.out.2 HK.out.below) hKr.out.below) (by omega)
            subst hA
            obtain ⟨f0, f1, f2, f3, f4, f5⟩ := hfs k hlt
            have hlt2 : (k : Int) < (M.length : Int) := by omega
            have hnn : (0 : Int) ≤ (k : Int) := by omega
            have HLT := As.mk hlt
            have hnext : plainAt M k → As (∀ j, j < k + 1 → plainAt M j) := fun h => ⟨fun j hj => by
              by_cases e : j = k
              · subst e; exact h
              · exact hpl.out j (by omega)⟩
            unfold plainAt at hnext
            generalize M.getD k z48 = x at f0 f1 f2 f3 f4 f5 hnext
            have HN := As.mk hnext
            have hKn := fun cs => As.mk (hKr.out.alloc (.cells cs 48))
            clear hfs hnext hlt hpl
            have hm100 : M.length ≤ 100 := hM
            have HW := As.mk (show wrap64 ((k : Int) + 1) = ((k + 1 : Nat) : Int) from by unfold wrap64; omega)
            by_cases h1 : 15 ≤ x.f0
            · have h1d : decide (15 ≤ x.f0) = true := decide_eq_true h1
              by_cases h2 : x.f0 ≤ 17
              · have h2d : decide (x.f0 ≤ 17) = true := decide_eq_true h2
                clear h1 h2 HN
                go_wp2_with fail
                go_ret
                exact ⟨rfl, (HK.out.trans (hKn #[.int .i64 x.f0, .int .i64 x.f1, .int .i64 x.f2, .int .i64 x.f3, .int .i64 x.f4, .int .u64 x.f5]).out).below⟩
              · have h2d : decide (x.f0 ≤ 17) = false := decide_eq_false h2
                by_cases h3 : x.f0 = 25
                · have h3d : (x.f0 == 25) = true := by simpa using h3
                  clear HN h1 h2 h3
                  go_wp2_with fail
                  go_ret
                  exact ⟨rfl, (HK.out.trans (hKn #[.int .i64 x.f0, .int .i64 x.f1, .int .i64 x.f2, .int .i64 x.f3, .int .i64 x.f4, .int .u64 x.f5]).out).below⟩
                · have h3d : (x.f0 == 25) = false := by simpa using h3
                  have hcont := HN.out ⟨fun h => by omega, h3⟩
                  clear HN h1 h2 h3
                  go_wp2_with fail
                  exact ⟨⟨k + 1, by have := HLT.out; omega, by go_num, hcont, hKn _⟩, by have := HLT.out; simp [intOf]; omega⟩
            · have h1d : decide (15 ≤ x.f0) = false := decide_eq_false h1
              have h2 : True := trivial
              by_cases h3 : x.f0 = 25
              · have h3d : (x.f0 == 25) = true := by simpa using h3
                clear HN h1 h2 h3
                go_wp2_with fail
                go_ret
                exact ⟨rfl, (HK.out.trans (hKn #[.int .i64 x.f0, .int .i64 x.f1, .int .i64 x.f2, .int .i64 x.f3, .int .i64 x.f4, .int .u64 x.f5]).out).below⟩
              · have h3d : (x.f0 == 25) = false := by simpa using h3
                have hcont := HN.out ⟨fun h => by omega, h3⟩
                clear HN h1 h2 h3
                go_wp2_with fail
                exact ⟨⟨k + 1, by have := HLT.out; omega, by go_num, hcont, hKn _⟩, by have := HLT.out; simp [intOf]; omega⟩
        · have hkn : k = M.length := by omega
          subst hkn
          have hlt2 : ¬ (M.length : Int) < (M.length : Int) := Int.lt_irrefl _
          obtain ⟨k2, out, en, hre, hen, hlen, hin, hov⟩ := tellF HC.out HT.out (t := 0) (by decide) (by simp)
          have e0 : rd_L4 [M] 0 = M := rfl
          rw [e0] at hlen hin hov
          have hst := straight hpl.out
          have hen1 : en = true := hov.2 ⟨M.length, Nat.le_refl _, hst _ (Nat.le_refl _), Or.inl rfl⟩
          subst hen1
          have hall : ∀ i, i < out.length → out.getD i false = true := fun i hi => (hin i).2 (hst i (by omega))
          have HE := As.mk hen
          have HA := As.mk hall
          have m1 := bk_kp HM1.out hKr.out (fun x => x)
          have d0 := bk_cell m1 0
          have d1 := bk_cell m1 1
          have HRE := As.mk hre
          have HLN := As.mk hlen
          clear hst hov hin hall hen hre hpl hlt hk hlen
          go_wp2_with fail
          have hp3 := HPG.out.below (HP.out.trans hKr.out).below
          refine (check_Reach.calls k2 none 0 [] (some ⟨g0, 0, none⟩) 1 [M] 0 out 0 _ hp3.r hp3.l0 hp3.t hp3.l1 HRE.out).mono ?_
          rintro e w4 ⟨v0, rfl, hv, hbl⟩
          have hk := bk_b hbl
          obtain ⟨A3, c3, rfl, hc3, hC3⟩ := Kd.R_reads hv
          have HC3 := As.mk hC3
          replace m1 := bk_kp m1 hk (fun x => x)
          have hK4 := As.mk (HK.out.trans (hKr.out.trans hk))
          have hP4 := As.mk (HP.out.trans (hKr.out.trans hk))
          clear hk hbl hp3 hC3 hv d0 d1
          have d0 := bk_cell m1 0
          have d1 := bk_cell m1 1
          go_wp2_with fail
          have hp3 := HPG.out.below hP4.out.below
          refine (check_Ends.calls k2 none 0 [] (some ⟨g0, 0, none⟩) 1 [M] 0 true 0 _ hp3.r hp3.l0 hp3.t hp3.l1 HE.out).mono ?_
          rintro e w5 ⟨rfl, hbl⟩
          have hk := bk_b hbl
          have hK5 := As.mk (hK4.out.trans hk)
          have hC5 := As.mk (Kd.C_below HC3.out hbl)
          clear hk hbl hp3 d0 d1 m1
          go_wp2_with fail
          go_loopw [60] (fun v60 wr => ∃ k : Nat, k ≤ out.length ∧ v60 = .int .i64 k ∧ wr = w5) (fun v60 _ => out.length - (intOf v60).toNat)
          case atStart => exact ⟨0, Nat.zero_le _, rfl, rfl⟩
          case round =>
            obtain ⟨k, hk, rfl, rfl⟩ := hrel
            have HO : out.length ≤ 101 := by have := HLN.out; omega
            by_cases hlt : k < out.length
            · as_aux_lemma =>
                obtain ⟨b, o, hA, hfs⟩ := Cb_cells hC5.out (by omega)
                subst hA
                have f0 := hfs k hlt
                rw [HA.out k hlt] at f0
                have hlt2 : (k : Int) < (out.length : Int) := by omega
                have hnn : (0 : Int) ≤ (k : Int) := by omega
                have HW := As.mk (show wrap64 ((k : Int) + 1) = ((k + 1 : Nat) : Int) from by unfold wrap64; omega)
                clear hfs
                go_wp2_with fail
                exact ⟨⟨k + 1, by omega, by go_num, by trivial⟩, by simp [intOf]; omega⟩
            · have hkn : k = out.length := by omega
              subst hkn
              have hlt2 : ¬ (out.length : Int) < (out.length : Int) := Int.lt_irrefl _
              have hq : (out.length : Int) = (M.length : Int) + 1 := by have := HLN.out; omega
              clear hlt hk HO
              go_wp2_with fail
              go_ret
              exact ⟨rfl, hK5.out.below⟩
    · have hb0 : (c == 0) = false := by simpa using hc0
      clear m1 d0 d1
      go_wp2_with fail
      refine awake11.mono ?_
      rintro e wz ⟨rfl, hk⟩
      replace hK := hK.trans hk
      clear hk
      go_wp2
      go_ret
      exact ⟨rfl, hK.below⟩
  · have hd : decide ((100 : Int) < (M.length : Int)) = true := decide_eq_true (by omega)
    clear m1 d0 d1
    go_wp2_with fail
    refine awake11.mono ?_
    rintro e wz ⟨rfl, hk⟩
    replace hK := hK.trans hk
    clear hk
    go_wp2
    go_ret
    exact ⟨rfl, hK.below⟩
end Go.Proofs.Ythoejimgdhfmiaa.H
