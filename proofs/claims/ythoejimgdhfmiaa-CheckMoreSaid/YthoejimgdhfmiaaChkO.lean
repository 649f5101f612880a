/- Layer 11: CheckMore: a right program with one thread more is right just if that one with the same rings is; what is wrong is told of it. No condition. -/
import Derived.Test.YthoejimgdhfmiaaChkN
namespace Go.Proofs.Ythoejimgdhfmiaa.H
open Go.RowKit Go.Proofs.Ythoejimgdhfmiaa.PCheckTells Go.Proofs.YthoejimgdhfmiaaW.PrintWords Go.Proofs.YthoejimgdhfmiaaW.PrintLast Go.Proofs.YthoejimgdhfmiaaW.PrintMore
set_option linter.unusedVariables false
set_option linter.unusedSimpArgs false
variable {w : World}

set_option maxRecDepth 100000 in
set_option maxHeartbeats 6400000 in
theorem CheckMore_calls {v0 v1 : Value} (hp : PgIn w v0) (hm : IsIn w v1) : Calls Try.prog 7 #[v0, v1] w fun e w' => e = .returned (.bool true) ∧ Below w.heap.size w w' := by
  obtain ⟨R, T, A0, c0, A1, c1, rfl, hp, hT⟩ := hp
  obtain ⟨AM, cM, M, rfl, hMc, hMC, hMw⟩ := hm
  obtain ⟨k1, b, hfew, hb⟩ := fewF R T 100 (by decide)
  have HP := As.mk hp
  have HT := As.mk hT
  have HB := As.mk hb
  have HF := As.mk hfew
  have HM := As.mk (And.intro hMc hMC)
  have hMmax : M.length ≤ 9223372036854775807 := hMC.2.1
  clear hp hT hb hfew hMc hMC hMw
  go_enter Try.func7, Try.ntmps7
  go_wp2_with fail
  have m0 := heap_alloc_new w (.cells #[.slice A0 R.length c0, .slice A1 T.length c1] 25)
  have hK := (Kp.refl no w).alloc (.cells #[.slice A0 R.length c0, .slice A1 T.length c1] 25)
  generalize w.alloc (.cells #[.slice A0 R.length c0, .slice A1 T.length c1] 25) = W at m0 hK ⊢
  have hg : w.heap.size = w.heap.size := rfl
  generalize w.heap.size = g0 at m0 ⊢
  refine awake11.mono ?_
  rintro e w1 ⟨rfl, hk⟩
  replace m0 := bk_kp m0 hk (fun x => x)
  replace hK := hK.trans hk
  clear hk hg
  have d0 := bk_cell m0 0
  have d1 := bk_cell m0 1
  go_wp2_with fail
  have hp1 := HP.out.below hK.below
  refine (rondeauref09_Few.calls k1 A0 c0 R A1 c1 T 100 b _ hp1.r hp1.l0 hp1.t hp1.l1 HF.out).mono ?_
  rintro e w2 ⟨rfl, hbl⟩
  have hk := bk_b hbl
  replace m0 := bk_kp m0 hk (fun x => x)
  replace hK := hK.trans hk
  have d0 := bk_cell m0 0
  have d1 := bk_cell m0 1
  clear hk hbl hp1
  cases b with
  | false =>
    clear m0 d0 d1
    go_wp2_with fail
    refine awake11.mono ?_
    rintro e wz ⟨rfl, hk⟩
    replace hK := hK.trans hk
    clear hk
    go_wp2
    go_ret
    exact ⟨rfl, hK.below⟩
  | true =>
    obtain ⟨hR10, hT10, hl⟩ := HB.out rfl
    by_cases hM3 : M.length ≤ 300
    · have hd : decide ((300 : Int) < (M.length : Int)) = false := decide_eq_false (by omega)
      obtain ⟨k2, hcopy⟩ := copyF R T hR10 hT10 (fun j h0 h1 => by have := hl j h0 h1; omega)
      obtain ⟨k3, y, hchk⟩ := endF R T (by omega) (by omega)
      obtain ⟨ya, yb, yc⟩ := y
      have href := simF R T HT.out k3 _ hchk
      have HC := As.mk hcopy
      have HR := As.mk href
      have HK3 := As.mk hchk
      have HL := As.mk hl
      clear hcopy hchk href hl
      go_wp2_with fail
      refine (rRight_calls (HP.out.below hK.below) HR.out).mono ?_
      rintro e w3 ⟨rfl, hk⟩
      replace m0 := bk_kp m0 hk (fun x => x)
      replace hK := hK.trans hk
      have d0 := bk_cell m0 0
      have d1 := bk_cell m0 1
      clear hk
      by_cases hyc : yc = 0
      · subst hyc
        have hb0 : ((0 : Int) == 0) = true := rfl
        by_cases hT7 : T.length ≤ 7
        · as_aux_lemma =>
            have hd7 : decide ((7 : Int) < (T.length : Int)) = false := decide_eq_false (by omega)
            obtain ⟨k4, at_, er, q1, q2⟩ := more_eq R T M hT7 (fun t g0 g1 => by have := HL.out t g0 g1; omega) k3 ya yb HK3.out
            obtain ⟨ta, tb, a2, q1, q2, hcond⟩ : ∃ ta tb a2, check_Check.f k4 R (T ++ [M]) = some (ta, a2, er) ∧ check_Check.f k4 R [M] = some (tb, a2, er) ∧ (er = 0 ∨ (er ≠ 0 ∧ ta = T.length)) := by
              by_cases he : er = 0
              · rw [if_pos he] at q1 q2; exact ⟨0, 0, 0, by rw [he]; exact q1, by rw [he]; exact q2, .inl he⟩
              · rw [if_neg he] at q1 q2; exact ⟨_, _, _, q1, q2, .inr ⟨he, rfl⟩⟩
            have Q := As.mk (And.intro q1 (And.intro q2 hcond))
            clear q1 q2 hcond
            go_wp2_with fail
            have hp2 := HP.out.below hK.below
            refine (rondeauref09_Copy.calls k2 A0 c0 R A1 c1 T R T _ hp2.r hp2.l0 hp2.t hp2.l1 HC.out).mono ?_
            rintro e w4 ⟨u0, u1, rfl, h0, h1, hbl⟩
            obtain ⟨B0, b0, rfl, l0, hc0⟩ := Kd.R_reads h0
            obtain ⟨B1, b1, rfl, l1, hc1⟩ := Kd.S_reads h1
            have hk := bk_b hbl
            have hw3 := hK.size
            replace m0 := bk_kp m0 hk (fun x => x)
            replace hK := hK.trans hk
            have d0 := bk_cell m0 0
            have d1 := bk_cell m0 1
            obtain ⟨-, inner, own, hreps⟩ := Kd.S_R h1
            obtain ⟨in0, own0⟩ := Kd.R_own h0
            have HX := As.mk (And.intro hc0 (And.intro l0 (And.intro own hreps)))
            have H0 := As.mk own0
            have HG := As.mk (And.intro (bk_lt m0) (And.intro hw3 hk.size))
            clear hk hbl hp2 h0 h1 hc0 hc1 l0 l1 own hreps hw3 own0
            go_upto_region 4 with fail
            have m5 := heap_alloc_new w4 (.cells #[.slice B0 R.length b0, .slice B1 T.length b1] 25)
            have hk5 := As.mk ((Kp.refl no w4).alloc (.cells #[.slice B0 R.length b0, .slice B1 T.length b1] 25))
            replace m0 := bk_kp m0 hk5.out (fun x => x)
            have hl5 := bk_lt m5
            have hn05 : g0 < w4.heap.size := HG.out.1
            have hsz5 := HG.out.2
            generalize w4.alloc (.cells #[.slice B0 R.length b0, .slice B1 T.length b1] 25) = W5 at m0 m5 hk5 hl5 ⊢
            generalize hg5 : w4.heap.size = g5 at m5 hl5 hn05 hsz5 ⊢
            have e50 := bk_cell m5 0
            have e51 := bk_cell m5 1
            have y50 := bk_fz m5 0
            have y51 := bk_fz m5 1
            have d0 := bk_cell m0 0
            have d1 := bk_cell m0 1
            have ne1 : ¬ g0 = g5 := by omega
            have ne2 : ¬ g5 = g0 := by omega
            have own5 := As.mk (or_kp HX.out.2.2.1 hk5.out (fun _ _ x => x))
            have X0 := As.mk (show ¬ (Value.slice B1 T.length b1).ownBlock = some g0 from fun h => by obtain ⟨cur, hc⟩ := or_bk own5.out h; rw [m0] at hc; injection hc with hc; injection hc with _ hc; exact absurd hc (by decide))
            have X5 := As.mk (show ¬ (Value.slice B1 T.length b1).ownBlock = some g5 from fun h => by obtain ⟨cur, hc⟩ := or_bk own5.out h; rw [m5] at hc; injection hc with hc; injection hc with _ hc; exact absurd hc (by decide))
            have XB := As.mk (show ∀ k, (Value.slice B0 R.length b0).ownBlock = some k → ¬ (Value.slice B1 T.length b1).ownBlock = some k from fun k hk h => by obtain ⟨cur, hc⟩ := or_bk HX.out.2.2.1 h; obtain ⟨cur2, hc2⟩ := or_bk H0.out hk; rw [hc] at hc2; injection hc2 with hc2; injection hc2 with _ hc2; exact absurd hc2 (by decide))
            have HK := As.mk hK
            have hg50 := As.mk hg5
            clear hK hg5
            go_wp2_with (at_builtin; refine wp_append rfl (.tmp 39) (.tmp 41) 23 44 rfl Try.underlying23 info44 rfl (by decide) w3.heap.size (news := [.slice AM M.length cM]) rfl rfl (or_kp (S := no) own5.out (by (with_reducible repeat (first | exact Kp.refl no W5 | refine kp_drew ?_ | refine kp_new (by omega) ?_ | refine kp_alloc ?_))) (fun _ _ x => x)) (Rd.lit #[.slice AM M.length cM] 44 1 rfl (by decide)) rfl (fun u hu => by rw [List.mem_singleton.1 hu]; rfl) (by omega) (by omega) (by first | omega | (simp; omega)) ?_; intro v1 w6 own6 k6 ob6; obtain ⟨g6, c6, rfl, hg6⟩ := or_some own6 (by omega); have m06 := bk_kp (bk_alloc m0 _) k6 X0.out; have m56 := bk_kp (bk_alloc m5 _) k6 X5.out; have d06 := bk_cell m06 0; have d16 := bk_cell m06 1; have e06 := bk_cell m56 0; have e16 := bk_cell m56 1; have z06 := bk_fz m56 0; have z16 := bk_fz m56 1; have own6A := As.mk own6; have k6A := As.mk k6; have m06A := As.mk m06; have m56A := As.mk m56; clear own6 k6 ob6 m06 m56)
            have hset := (Kp.refl (· = g5) w6).setCell ⟨g5, 1, none⟩ rfl (.slice (some ⟨g6, 0, none⟩) (T.length + 1) c6)
            have hne6 : g6 ≠ g5 := fun e => by
              obtain ⟨cur, hc⟩ := or_bk own6A.out (b := g6) rfl
              rw [e, m56A.out] at hc; injection hc with hc; injection hc with _ hc; exact absurd hc (by decide)
            have own7 := or_kp own6A.out hset (fun k hk e => hne6 ((Option.some.inj hk).trans e))
            have m07 := bk_kp m06A.out hset ne1
            have hkeep : ∀ k, k < w4.heap.size → ¬ (Value.slice B1 T.length b1).ownBlock = some k → (w6.setCell ⟨g5, 1, none⟩ (.slice (some ⟨g6, 0, none⟩) (T.length + 1) c6)).heap[k]? = w4.heap[k]? := fun k hk hn => by
              have q1 := hk5.out.block k hk (fun x => x)
              have q0 := hk5.out.size
              have q2 := ((Kp.refl no W5).alloc (.cells #[.slice AM M.length cM] 44)).block k (by omega) (fun x => x)
              have q3 := k6A.out.block k (by have := ((Kp.refl no W5).alloc (.cells #[.slice AM M.length cM] 44)).size; omega) hn
              have q4 := hset.block k (by have := k6A.out.size; have := ((Kp.refl no W5).alloc (.cells #[.slice AM M.length cM] 44)).size; omega) (by have := hg50.out; omega)
              exact q4.trans (q3.trans (q2.trans q1))
            have hKf : Kp no w (w6.setCell ⟨g5, 1, none⟩ (.slice (some ⟨g6, 0, none⟩) (T.length + 1) c6)) := by
              have q1 := HK.out.trans (hk5.out.alloc (.cells #[.slice AM M.length cM] 44))
              have q2 := q1.new k6A.out (fun i hi => by
                have := (own5.out.lt i hi).1
                have := HG.out.2.1; omega)
              exact q2.new hset (fun i hi => by have := hg50.out; have := HG.out.2; omega)
            obtain ⟨A9, c9, e9, l9, hC9⟩ := app_C HX.out.2.2.2 hkeep own7 (Kd.C_below HM.out.2 hKf.below) HM.out.1
            injection e9 with e91 e92 e93
            subst e91; subst e93
            have hC8 := C55_frame HX.out.1 (w2 := w6.setCell ⟨g5, 1, none⟩ (.slice (some ⟨g6, 0, none⟩) (T.length + 1) c6)) (fun ad e => by
              subst e
              exact hkeep ad.block (by obtain ⟨cur, hc⟩ := or_bk H0.out (b := ad.block) rfl; exact bk_lt hc) (XB.out ad.block rfl))
            have hcc := check_Check.calls k4 B0 b0 R (some ⟨g6, 0, none⟩) c6 (T ++ [M]) ta a2 er _ hC8 HX.out.2.1 hC9 l9 Q.out.1
            rw [e92.symm] at hcc
            refine hcc.mono ?_
            rintro e w7 ⟨rfl, hbl⟩
            have hk := bk_b hbl
            have m08 := bk_kp m07 hk (fun x => x)
            have hK8 := hKf.trans hk
            have d08 := bk_cell m08 0
            have d18 := bk_cell m08 1
            have M8 := As.mk (And.intro m08 hK8)
            clear hk hbl hcc hC8 hC9 l9 e92 hkeep hKf own7 hset hne6 m07 m08 hK8 d06 d16 e06 e16 z06 z16 e50 e51 y50 y51 d0 d1 m0 m5
            go_wp2_with fail
            have hone := one_C (Kd.C_below HM.out.2 M8.out.2.below) HM.out.1
            have hpz := HP.out.below (M8.out.2.alloc (.cells #[.slice AM M.length cM] 44)).below
            refine (check_Check.calls k4 A0 c0 R (some ⟨w7.heap.size, 0, none⟩) 1 [M] tb a2 er _ hpz.r hpz.l0 hone (Nat.le_refl _) Q.out.2.1).mono ?_
            rintro e w8 ⟨rfl, hbl⟩
            have hk := bk_b hbl
            have hK9 := As.mk ((M8.out.2.alloc (.cells #[.slice AM M.length cM] 44)).trans hk)
            have m09 := bk_kp (bk_alloc M8.out.1 (.cells #[.slice AM M.length cM] 44)) hk (fun x => x)
            have d19 := bk_cell m09 1
            clear hk hbl hone hpz d08 d18 m09
            rcases Q.out.2.2 with he | ⟨he, hta⟩
            · subst he
              clear Q
              go_wp2
              go_ret
              exact ⟨rfl, hK9.out.below⟩
            · have hb : (er == 0) = false := by simpa using he
              subst hta
              clear he Q
              go_wp2
              go_ret
              exact ⟨rfl, hK9.out.below⟩
        · as_aux_lemma =>
            have hd7 : decide ((7 : Int) < (T.length : Int)) = true := decide_eq_true (by omega)
            clear m0 d0
            go_wp2_with fail
            refine awake11.mono ?_
            rintro e wz ⟨rfl, hk⟩
            replace hK := hK.trans hk
            clear hk
            go_wp2
            go_ret
            exact ⟨rfl, hK.below⟩
      · have hb0 : (yc == 0) = false := by simpa using hyc
        clear m0 d0 d1
        go_wp2_with fail
        refine awake11.mono ?_
        rintro e wz ⟨rfl, hk⟩
        replace hK := hK.trans hk
        clear hk
        go_wp2
        go_ret
        exact ⟨rfl, hK.below⟩
    · have hd : decide ((300 : Int) < (M.length : Int)) = true := decide_eq_true (by omega)
      clear m0 d0 d1
      go_wp2_with fail
      refine awake11.mono ?_
      rintro e wz ⟨rfl, hk⟩
      replace hK := hK.trans hk
      clear hk
      go_wp2
      go_ret
      exact ⟨rfl, hK.below⟩
end Go.Proofs.Ythoejimgdhfmiaa.H
