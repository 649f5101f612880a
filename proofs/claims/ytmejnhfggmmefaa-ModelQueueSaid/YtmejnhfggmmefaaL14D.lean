/- Layer 14: ModelQueue, walked. No condition. -/
import Derived.Test.YtmejnhfggmmefaaL14C
namespace Go.Proofs.Ytmejnhfggmmefaa.H
open Go.RowKit
set_option linter.unusedVariables false
set_option linter.unusedSimpArgs false
variable {w : World}

/-- What holds in a round. -/
structure E14 (W wr : World) (G : Nat) (B : MB) (p g : Nat) (L l : List Int) (v : Value) (i : Nat) : Prop where
  M : MdNew W wr B ⟨p, L, [(g : Int)], false⟩
  gG : G = B.g
  q : QIn wr W.heap.size v l
  ld : L.drop g = l
  n1 : ∀ k, v.ownBlock = some k → ¬ B.own k
  gl : g ≤ L.length
  le : L.length ≤ i
theorem E14.kp {W w w' : World} {G : Nat} {B : MB} {p g : Nat} {L l : List Int} {v : Value} {i : Nat} (h : E14 W w G B p g L l v i) (k : Kp no w w') : E14 W w' G B p g L l v i :=
  ⟨h.M.kp k, h.gG, h.q.kp k (fun _ _ x => x), h.ld, h.n1, h.gl, h.le⟩
theorem QIn.form {w : World} {base : Nat} {v : Value} {l : List Int} (h : QIn w base v l) : ∃ A c, v = .slice A l.length c := by
  rcases h with ⟨rfl, rfl⟩ | ⟨g, off, c, cs, rfl, _⟩
  · exact ⟨_, _, rfl⟩
  · exact ⟨_, _, rfl⟩
theorem QIn.some {w : World} {base : Nat} {A : Option Addr} {n c : Nat} {l : List Int} (h : QIn w base (.slice A n c) l) (hl : 0 < l.length) : ∃ g off, A = .some ⟨g, off, none⟩ ∧ w.cell? ⟨g, off, none⟩ = .some (.int .u64 (l.getD 0 0)) := by
  rcases h with ⟨_, rfl⟩ | ⟨g, off, c', cs, hv, h1, h2, h3, h4, h5, h6⟩
  · exact absurd hl (Nat.lt_irrefl _)
  · injection hv with e1
    exact ⟨g, off, e1, (bk_cell h2 off).trans (h6 0 hl)⟩
set_option maxRecDepth 100000 in
set_option maxHeartbeats 6400000 in
theorem ModelQueue_calls (a : Int) (wa : (Lit.int .i64 a).wf = true) {v1 : Value} (hs : ∃ O : List O14, Rd w v1 O.length (oCells14 O) ∧ ∀ o ∈ O, o.ok) : Calls Try.prog 4 #[.int .i64 a, v1] w fun e w' => e = .returned (.bool true) ∧ Kp no w w' := by
  obtain ⟨O, hrd, hok⟩ := hs
  have hrd0 := As.mk hrd
  obtain ⟨A, cap, rfl, hn1, hn2, -⟩ := hrd
  unfold maxLen at hn2
  clear hok wa
  have ha : 0 ≤ IntKind.u64.wrap a := by rw [IntKind.wrap_u64]; omega
  obtain ⟨q, hq⟩ := Int.eq_ofNat_of_zero_le (show 0 ≤ IntKind.u64.wrap a % 64 by omega)
  have hq64 : q < 64 := by omega
  have e1 : Int.tmod (IntKind.u64.wrap a) 64 = (q : Int) := by rw [Int.tmod_eq_emod_of_nonneg ha, hq]
  have e4 : IntKind.u64.wrap ((q : Int) + 1) = (q : Int) + 1 := by rw [IntKind.wrap_u64]; omega
  clear ha hq
  go_enter Try.func4, Try.ntmps4
  go_wp2_with fail
  obtain ⟨P, hP⟩ : ∃ P : Nat, 1 + (q : Int) = (P : Int) := ⟨q + 1, by omega⟩
  rw [hP]
  have hP1 : 1 ≤ P := by omega
  have hP64 : P ≤ 64 := by omega
  clear hP e1 e4 hq64
  obtain ⟨m0, hK⟩ := box1 (w := w) #[.int .i64 1, .int .i64 P, .int .i64 1] 23
  generalize w.alloc (.cells #[.int .i64 1, .int .i64 P, .int .i64 1] 23) = W at m0 hK ⊢
  generalize w.heap.size = g0 at m0 ⊢
  have hm : rMay 1 (P : Int) ((1 : Nat) : Int) = true := by unfold rMay mayB rmayB; simp; omega
  refine (MNew_new 1 P 1 hm (Kp.refl no W)).mono ?_
  rintro e w1 ⟨B, rfl, hR, -, -⟩
  go_wp2_with fail
  refine awake14.mono ?_
  rintro e w2 ⟨rfl, hk⟩
  replace hR := hR.kp hk
  clear hk hm
  by_cases hl : O.length ≤ 300
  · have hd : decide ((300 : Int) < (O.length : Int)) = false := decide_eq_false (by omega)
    have HC : As (E14 W w2 B.g B P 0 [] [] (.slice none 0 0) 0) := ⟨hR, rfl, .inl ⟨rfl, rfl⟩, rfl, (fun k hk => by cases hk), Nat.le_refl _, Nat.le_refl _⟩
    have HM := As.mk m0
    replace hrd0 := As.mk (hrd0.out.kp hK (fun _ _ x => x))
    clear hR hn1 hn2
    go_wp2
    clear hd
    generalize hBg : B.g = G at HC ⊢
    go_loopw [8, 45] (fun v8 v45 wr => ∃ (i : Nat) (B : MB) (g : Nat) (L l : List Int), i ≤ O.length ∧ v45 = .int .i64 i ∧ As (E14 W wr G B P g L l v8 i)) (fun _ v45 _ => O.length - (intOf v45).toNat)
    case atStart => exact ⟨0, B, 0, [], [], Nat.zero_le _, rfl, HC⟩
    case round =>
      as_aux_lemma =>
        clear HC hBg
        obtain ⟨i, B', g, L, l, hi, rfl, HI⟩ := hrel
        obtain ⟨A7, k7, hv7⟩ := HI.out.q.form
        subst hv7
        have HG := As.mk HI.out.gG
        by_cases hlt : i < O.length
        · have hr := hrd0.out.kp HI.out.M.K (fun _ _ x => x)
          obtain ⟨ab, ao, c', he, -, -, hc⟩ := hr.form (by rw [oCells14_len]; omega)
          injection he with e1 e2 e3
          subst e1; subst e3; clear e2
          obtain ⟨ok, oj, ov, -, c0, c1, c2⟩ := oCells14_at hc hlt
          clear hr hc
          go_upto_region 9 with fail
          obtain ⟨mo, hko⟩ := box1 (w := wr) #[.int .i64 ok, .int .i64 oj, .int .u64 ov] 38
          have hgo : ¬ B'.own wr.heap.size := fun h => by have := HI.out.M.i.lt _ h; omega
          have hgo7 : ∀ k, (Value.slice A7 l.length k7).ownBlock = some k → k ≠ wr.heap.size := fun k hk e => by have := (HI.out.q.lt k hk).2; omega
          have HI2 := As.mk (HI.out.kp hko)
          generalize wr.alloc (.cells #[.int .i64 ok, .int .i64 oj, .int .u64 ov] 38) = W2 at mo HI2 ⊢
          generalize wr.heap.size = go at mo hgo hgo7 ⊢
          clear hko c0 c1 c2 HI
          have d0 := bk_cell mo 0
          have d1 := bk_cell mo 1
          have d2 := bk_cell mo 2
          have hlen3 : l.length ≤ 300 := by have := HI2.out.le; rw [← HI2.out.ld, List.length_drop]; omega
          by_cases hk2 : (Int.tmod ok 2 == 0) = true
          · as_aux_lemma =>
              go_wp2_with fail
              have hcc := MPut_new HI2.out.M (by have := HI2.out.le; show L.length < 1000000; omega) ov
              rw [← HG.out, one_put _ _ _ _ HI2.out.gl, HI2.out.ld] at hcc
              refine hcc.mono ?_
              clear hcc
              by_cases hroom : (l.length : Int) < (P : Int)
              · rw [if_pos hroom]
                rintro e w5 ⟨B2, rfl, hg2, hM5, hsub, hk5⟩
                have m5 := bk_kp (S := B'.own) mo hk5 hgo
                have b5 := bk_kp HM.out hM5.K (fun x => x)
                have f2 := bk_cell m5 2
                have e1 := bk_cell b5 1
                have hq5 := HI2.out.q.kp hk5 HI2.out.n1
                have hn1 : ∀ k, (Value.slice A7 l.length k7).ownBlock = some k → ¬ B2.own k := fun k hk h => (hsub k h).elim (HI2.out.n1 k hk) (fun h => by have := (HI2.out.q.lt k hk).2; omega)
                have hd9 : decide (l.length < P) = true := decide_eq_true (by omega)
                have hka := Kp.alloc (Kp.refl no w5) (.cells #[.int .u64 ov] 36)
                have hcell : (w5.alloc (.cells #[.int .u64 ov] 36)).cell? ⟨w5.heap.size, 0, none⟩ = some (.int .u64 ov) := bk_cell (heap_alloc_new _ _) 0
                have HX := As.mk (And.intro (hM5.kp hka) (And.intro (hq5.kp hka (fun _ _ x => x)) (And.intro hn1 hcell)))
                have hLL := HI2.out.gl
                clear hka hq5 hM5 hn1 hcell d0 d1 d2 mo m5 b5 hroom
                generalize hnn : l.length = nn at hlen3 hd9 hgo7 ⊢
                have HNN := As.mk hnn
                clear hnn hLL
                go_wp2_with (at_builtin; refine wpList_append_q (by rfl) _ _ (by rfl) W.heap.size (.slice A7 nn k7) l (by rfl) (by rw [← HNN.out]; exact HX.out.2.1) w5.heap.size ov (by rfl) HX.out.2.2.2 (by rw [HNN.out]; omega) HX.out.1.K.size ?_; intro A' c' w' hqn hkn hat; rw [HNN.out]; have HF := As.mk (And.intro hqn (And.intro hkn hat)); clear hqn hkn hat)
                have hF : E14 W w' G B2 P g (L ++ [ov]) (l ++ [ov]) (.slice A' (nn + 1) c') (i + 1) := by
                  obtain ⟨hqn, hkn, hat⟩ := HF.out
                  obtain ⟨hM6, -, hn1, -⟩ := HX.out
                  have hgl := HI2.out.gl
                  rw [HNN.out] at hqn hat
                  refine ⟨⟨hM6.i.kp hkn (fun k hk e => hn1 k (by rw [← HNN.out] at e; rw [HNN.out]; rw [HNN.out] at e; exact e) hk), hM6.n, hM6.K.new hkn (fun k hk => (HI2.out.q.lt k (by rw [HNN.out]; exact hk)).1)⟩, HG.out.trans hg2, hqn, by rw [List.drop_append_of_le_length hgl, HI2.out.ld], fun k hk h => ?_, by simp; omega, by have := HI2.out.le; simp; omega⟩
                  rcases hat k hk with ha | ha
                  · exact hn1 k (by rw [HNN.out]; exact ha) h
                  · have := hM6.i.lt k h; omega
                have HFF := As.mk hF
                clear hF HF HX
                go_wp2
                exact ⟨⟨i + 1, B2, g, _, _, by omega, by go_num, HFF⟩, by simp [intOf]; omega⟩
              · rw [if_neg hroom]
                rintro e w5 ⟨B2, rfl, hg2, hM5, hsub, hk5⟩
                have b5 := bk_kp HM.out hM5.K (fun x => x)
                have e1 := bk_cell b5 1
                have hq5 := HI2.out.q.kp hk5 HI2.out.n1
                have hn1 : ∀ k, (Value.slice A7 l.length k7).ownBlock = some k → ¬ B2.own k := fun k hk h => (hsub k h).elim (HI2.out.n1 k hk) (fun h => by have := (HI2.out.q.lt k hk).2; omega)
                have hd9 : decide (l.length < P) = false := decide_eq_false (by omega)
                have HFF := As.mk (show E14 W w5 G B2 P g L l (.slice A7 l.length k7) (i + 1) from ⟨hM5, HG.out.trans hg2, hq5, HI2.out.ld, hn1, HI2.out.gl, by have := HI2.out.le; omega⟩)
                clear hq5 hM5 hn1 d0 d1 d2 mo b5 hroom
                generalize l.length = nn at hlen3 hd9 HFF hgo7 ⊢
                go_wp2
                exact ⟨⟨i + 1, B2, g, _, _, by omega, by go_num, HFF⟩, by simp [intOf]; omega⟩
          · as_aux_lemma =>
              have hk3 : (Int.tmod ok 2 == 0) = false := by simpa using hk2
              clear hk2
              go_wp2_with fail
              have hcc := MGet_new HI2.out.M 0
              rw [← HG.out, one_get _ _ _ HI2.out.gl, HI2.out.ld] at hcc
              refine hcc.mono ?_
              clear hcc
              by_cases hsome : 0 < l.length
              · rw [if_pos hsome]
                rintro e w5 ⟨rfl, hM5, hk5⟩
                have hq5 := HI2.out.q.kp hk5 HI2.out.n1
                obtain ⟨g7, off, rfl, hcell⟩ := hq5.some hsome
                have hgl2 : g + 1 ≤ L.length := by rw [← HI2.out.ld, List.length_drop] at hsome; omega
                have hd9 : decide (0 < l.length) = true := decide_eq_true hsome
                have hd8 : decide ((0 : Int) < (l.length : Int)) = true := decide_eq_true (by omega)
                have hdd : L.drop (g + 1) = l.drop 1 := by rw [← HI2.out.ld, List.drop_drop]
                have hne := ne_selfm (l.getD 0 0)
                by_cases hk71 : k7 = 1
                · subst hk71
                  have h1 : l.length = 1 := by
                    rcases hq5 with ⟨h, _⟩ | ⟨g', off', c', cs, hv, _, _, _, h4, _⟩
                    · cases h
                    · injection hv with _ _ e3; omega
                  have hpop := hq5.pop1 hsome
                  have HFF := As.mk (show E14 W w5 G B' P (g + 1) L (l.drop 1) (.slice (some ⟨g7, off, none⟩) 0 0) (i + 1) from ⟨hM5, HG.out, hpop, hdd, (fun k hk => HI2.out.n1 k hk), hgl2, by have := HI2.out.le; omega⟩)
                  generalize l.getD 0 0 = x at hcell hne ⊢
                  rw [h1]
                  clear hq5 hM5 d0 d1 d2 mo hpop hgl2 hdd hd9 hd8 hsome hlen3 hgo7 h1
                  go_wp2
                  exact ⟨⟨i + 1, B', g + 1, _, _, by omega, by go_num, HFF⟩, by simp [intOf]; omega⟩
                · have hpop := hq5.pop hsome
                  have hk7le : l.length ≤ k7 := by
                    rcases hq5 with ⟨h, _⟩ | ⟨g', off', c', cs, hv, _, _, _, h4, _⟩
                    · cases h
                    · injection hv with _ _ e3; omega
                  have HFF := As.mk (show E14 W w5 G B' P (g + 1) L (l.drop 1) (.slice (some ⟨g7, off + 1, none⟩) (l.length - 1) (k7 - 1)) (i + 1) from ⟨hM5, HG.out, hpop, hdd, (fun k hk => HI2.out.n1 k hk), hgl2, by have := HI2.out.le; omega⟩)
                  generalize l.getD 0 0 = x at hcell hne ⊢
                  generalize l.length = nn at hlen3 hd9 hd8 hsome HFF hk7le ⊢
                  clear hq5 hM5 d0 d1 d2 mo hpop hgl2 hdd hgo7
                  go_wp2
                  exact ⟨⟨i + 1, B', g + 1, _, _, by omega, by go_num, HFF⟩, by simp [intOf]; omega⟩
              · rw [if_neg hsome]
                rintro e w5 ⟨rfl, hM5, hk5⟩
                have hq5 := HI2.out.q.kp hk5 HI2.out.n1
                have h1 : l.length = 0 := by omega
                have HFF := As.mk (show E14 W w5 G B' P g L l (.slice A7 l.length k7) (i + 1) from ⟨hM5, HG.out, hq5, HI2.out.ld, HI2.out.n1, HI2.out.gl, by have := HI2.out.le; omega⟩)
                rw [h1] at HFF ⊢
                clear hq5 hM5 d0 d1 d2 mo hsome hlen3 hgo7 h1
                go_wp2
                exact ⟨⟨i + 1, B', g, _, _, by omega, by go_num, HFF⟩, by simp [intOf]; omega⟩
        · go_wp2_with fail
          have hcc := MRest_any HI.out.M.i 0
          rw [← HG.out, one_rest, HI.out.ld] at hcc
          refine hcc.mono ?_
          rintro e w5 ⟨v, rfl, hown, hk5⟩
          have hq5 := HI.out.q.kp hk5 (fun _ _ x => x)
          go_wp2_with fail
          refine (SameU_any (Rd.of_own hown) hq5.rd).mono ?_
          rintro e w6 ⟨rfl, hq6⟩
          rw [decide_eq_true rfl]
          have hKf := ((hK.trans HI.out.M.K).trans hk5).qd hq6
          clear hown hk5 hq5 hq6 hcc
          go_wp2
          go_ret
          exact ⟨rfl, hKf⟩
  · as_aux_lemma =>
      have hd : decide ((300 : Int) < (O.length : Int)) = true := decide_eq_true (by omega)
      replace hK := hK.trans hR.K
      clear hl hn1 hn2 hrd0 m0 hR
      go_wp2_with fail
      refine awake14.mono ?_
      rintro e w3 ⟨rfl, hk⟩
      replace hK := hK.trans hk
      clear hk
      go_wp2
      go_ret
      exact ⟨rfl, hK⟩
end Go.Proofs.Ytmejnhfggmmefaa.H
