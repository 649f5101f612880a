/- Layer 11: CheckClosed: place 0 is reached, wherever a reached place goes is reached, and what is reached is gone to. No condition. -/
import Derived.Test.YthoejimgdhfmiaaChkU
namespace Go.Proofs.Ythoejimgdhfmiaa.H
open Go.RowKit Go.Proofs.Ythoejimgdhfmiaa.PCheckTells Go.Proofs.YthoejimgdhfmiaaW.PrintWords Go.Proofs.YthoejimgdhfmiaaW.PrintLast Go.Proofs.YthoejimgdhfmiaaW.PrintMore
set_option linter.unusedVariables false
set_option linter.unusedSimpArgs false
variable {w : World}

/-- bools, in a block of one's own -/
def FIn (W : World) (g : Nat) (F : List Bool) : Prop := W.heap[g]? = some (.cells (F.map Value.bool).toArray 4 (0, 0))
theorem FIn.cell {W : World} {g : Nat} {F : List Bool} (h : FIn W g F) {j : Nat} (hj : j < F.length) : W.cell? ⟨g, j, none⟩ = some (.bool (F.getD j false)) := by
  rw [bk_cell h j]
  simp [List.getD, List.getElem?_eq_getElem hj]
theorem FIn.fz {W : World} {g : Nat} {F : List Bool} (h : FIn W g F) (j : Nat) : W.frozen? ⟨g, j, none⟩ = false := bk_fz h j
theorem FIn.set {W : World} {g : Nat} {F : List Bool} (h : FIn W g F) (j : Nat) : FIn (W.setCell ⟨g, j, none⟩ (.bool true)) g (F.set j true) := by
  refine bk_set h j _ ?_
  simp [List.map_set]
theorem FIn.kp {W W' : World} {g : Nat} {F : List Bool} {S : Nat → Prop} (h : FIn W g F) (k : Kp S W W') (hn : ¬ S g) : FIn W' g F := bk_kp h k hn
theorem made_b (n : Nat) : madeCells #[.bool false] n = ((List.replicate n false).map Value.bool).toArray := by
  refine Array.ext (by simp [madeCells]) fun i h1 h2 => ?_
  simp [madeCells, Nat.mod_one]
theorem made_set (n : Nat) : (Array.replicate n (Value.bool false)).setIfInBounds 0 (.bool true) = (((List.replicate n false).set 0 true).map Value.bool).toArray := by
  apply Array.ext'
  rw [Array.toList_setIfInBounds, Array.toList_replicate, List.map_set, List.map_replicate]
theorem make_b (n : Nat) (hn : n ≤ 1000) (W : World) : (Instr.makeSlice 35 (.int .i64 (n : Int)) (.int .i64 (n : Int))).run Try.prog W = .ok (.slice (some ⟨W.heap.size, 0, none⟩) n n) (W.alloc (.cells ((List.replicate n false).map Value.bool).toArray 4)) := by
  obtain ⟨i, h1, h2, h3, h4⟩ := info_at info4
  have hr := run_make (P := Try.prog) W 35 4 i _ Try.underlying35 h1 h2 .i64 .i64 (n : Int) (n : Int) (by omega) (by omega) (by rw [h4]; omega) (by omega)
  simp only [Int.toNat_natCast] at hr
  rw [hr, h3, Nat.mul_one]
  have : (Value.bool false).cells = #[.bool false] := rfl
  rw [this, made_b]
/-- what the outer loop keeps -/
def Fr (l : List S48) (F : List Bool) (i : Nat) : Prop := F.length = l.length + 1 ∧ F.getD 0 false = true ∧ ∀ i' < i, Rch l i' → ∀ j ∈ nx l i', F.getD j false = true
/-- what the inner loop keeps -/
def Fq (l : List S48) (F : List Bool) (i s : Nat) : Prop := Fr l F i ∧ (Rch l i → (1 ≤ s → ∀ j : Nat, (j : Int) = nxA l i → F.getD j false = true) ∧ (2 ≤ s → ∀ j : Nat, (j : Int) = nxB l i → F.getD j false = true))
theorem Fr.set {l : List S48} {F : List Bool} {i : Nat} (h : Fr l F i) {j : Nat} (hj : j < F.length) : Fr l (F.set j true) i := by
  have m : ∀ q, F.getD q false = true → (F.set j true).getD q false = true := fun q hq => by
    rw [getD_set hj]; split
    · rfl
    · exact hq
  exact ⟨by rw [List.length_set]; exact h.1, m 0 h.2.1, fun i' hi hr q hq => m q (h.2.2 i' hi hr q hq)⟩
def pr (l : List S48) (i s : Nat) : Int := if s = 0 then nxA l i else nxB l i
theorem Fq.begin {l : List S48} {F : List Bool} {i : Nat} (h : Fr l F i) : Fq l F i 0 := ⟨h, fun _ => ⟨fun q => by omega, fun q => by omega⟩⟩
theorem Fq.skip {l : List S48} {F : List Bool} {i s : Nat} (h : Fq l F i s) (hs : s < 2) (hn : pr l i s < 0 ∨ ¬ Rch l i) : Fq l F i (s + 1) := by
  refine ⟨h.1, fun hr => ?_⟩
  obtain ⟨q1, q2⟩ := h.2 hr
  have hn := hn.resolve_right (fun h => h hr)
  unfold pr at hn
  rcases (show s = 0 ∨ s = 1 by omega) with rfl | rfl
  · rw [if_pos rfl] at hn
    exact ⟨fun _ j hj => by omega, fun q => by omega⟩
  · rw [if_neg (by decide)] at hn
    exact ⟨fun _ => q1 (by omega), fun _ j hj => by omega⟩
theorem Fq.put {l : List S48} {F : List Bool} {i s j : Nat} (h : Fq l F i s) (hs : s < 2) (hj : pr l i s = (j : Int)) (hjl : j < F.length) : Fq l (F.set j true) i (s + 1) := by
  have m : ∀ q, F.getD q false = true → (F.set j true).getD q false = true := fun q hq => by
    rw [getD_set hjl]; split
    · rfl
    · exact hq
  have mj : (F.set j true).getD j false = true := by rw [getD_set hjl, if_pos rfl]
  refine ⟨h.1.set hjl, fun hr => ?_⟩
  obtain ⟨q1, q2⟩ := h.2 hr
  unfold pr at hj
  rcases (show s = 0 ∨ s = 1 by omega) with rfl | rfl
  · rw [if_pos rfl] at hj
    exact ⟨fun _ q hq => by
      have e : q = j := by omega
      rw [e]; exact mj, fun q => by omega⟩
  · rw [if_neg (by decide)] at hj
    exact ⟨fun _ q hq => m q (q1 (by omega) q hq), fun _ q hq => by
      have e : q = j := by omega
      rw [e]; exact mj⟩
theorem Fq.done {l : List S48} (hl : okJ l) {F : List Bool} {i : Nat} (hi : i ≤ l.length) (h : Fq l F i 2) : Fr l F (i + 1) := by
  refine ⟨h.1.1, h.1.2.1, fun i' hi' hr j hj => ?_⟩
  by_cases e : i' = i
  · subst e
    obtain ⟨q1, q2⟩ := h.2 hr
    rcases (nx_AB hl hi j).1 hj with hj | hj
    · exact q1 (by decide) j hj
    · exact q2 (by decide) j hj
  · exact h.1.2.2 i' (by omega) hr j hj
theorem Fr.all {l : List S48} (hl : okJ l) {F : List Bool} (h : Fr l F (l.length + 1)) {i : Nat} (hi : Rch l i) : F.getD i false = true := by
  cases hi with
  | zero => exact h.2.1
  | step hr hj => exact h.2.2 _ (by have := hr.le hl; omega) hr _ hj
theorem pr_go {l : List S48} (hl : okJ l) {i s j : Nat} (hi : i ≤ l.length) (hs : s < 2) (h : pr l i s = (j : Int)) (hr : Rch l i) : Rch l j ∧ j ≤ l.length := by
  have : Rch l j := hr.step ((nx_AB hl hi j).2 (by
    unfold pr at h
    by_cases e : s = 0
    · rw [if_pos e] at h; exact Or.inl h.symm
    · rw [if_neg e] at h; exact Or.inr h.symm))
  exact ⟨this, this.le hl⟩
theorem pr_le {l : List S48} (hl : okJ l) {i : Nat} (hi : i ≤ l.length) (s : Nat) : -1 ≤ pr l i s ∧ pr l i s ≤ l.length := by
  unfold pr
  split
  · exact nxA_le hl hi
  · exact nxB_le hi

set_option maxRecDepth 100000 in
set_option maxHeartbeats 6400000 in
theorem CheckClosed_calls {v0 : Value} (hp : PgIn w v0) (t : Int) (ht : (Lit.int .i64 t).wf = true) : Calls Try.prog 5 #[v0, .int .i64 t] w fun e w' => e = .returned (.bool true) ∧ Below w.heap.size w w' := by
  obtain ⟨R, T, A0, c0, A1, c1, rfl, hp, hT⟩ := hp
  obtain ⟨k1, b, hfew, hb⟩ := fewF R T 100 (by decide)
  have HPG := As.mk hp
  have HT := As.mk hT
  have HB := As.mk hb
  have HF := As.mk hfew
  clear hp hT hb hfew
  go_enter Try.func5, Try.ntmps5
  go_wp2_with fail
  have m0 := heap_alloc_new w (.cells #[.slice A0 R.length c0, .slice A1 T.length c1] 25)
  have hK := (Kp.refl no w).alloc (.cells #[.slice A0 R.length c0, .slice A1 T.length c1] 25)
  generalize w.alloc (.cells #[.slice A0 R.length c0, .slice A1 T.length c1] 25) = W at m0 hK ⊢
  have hg : w.heap.size = w.heap.size := rfl
  generalize w.heap.size = g0 at m0 ⊢
  refine awake11.mono ?_
  rintro e w1 ⟨rfl, hk⟩
  replace m0 := bk_kp m0 hk (fun x => x)
  replace hK := hK.trans hk
  clear hk hg
  have d0 := bk_cell m0 0
  have d1 := bk_cell m0 1
  go_wp2_with fail
  have hp1 := HPG.out.below hK.below
  refine (rondeauref09_Few.calls k1 A0 c0 R A1 c1 T 100 b _ hp1.r hp1.l0 hp1.t hp1.l1 HF.out).mono ?_
  rintro e w2 ⟨rfl, hbl⟩
  have hk := bk_b hbl
  replace m0 := bk_kp m0 hk (fun x => x)
  replace hK := hK.trans hk
  have d0 := bk_cell m0 0
  have d1 := bk_cell m0 1
  clear hk hbl hp1
  cases b with
  | false =>
    clear m0 d0 d1
    go_wp2_with fail
    refine awake11.mono ?_
    rintro e wz ⟨rfl, hk⟩
    replace hK := hK.trans hk
    clear hk
    go_wp2
    go_ret
    exact ⟨rfl, hK.below⟩
  | true =>
    obtain ⟨hR10, hT10, hl⟩ := HB.out rfl
    obtain ⟨k3, y, hchk⟩ := endF R T (by omega) (by omega)
    obtain ⟨ya, yb, yc⟩ := y
    have href := simF R T HT.out k3 _ hchk
    have HR := As.mk href
    have HC := As.mk hchk
    clear hchk href hl
    go_wp2_with fail
    refine (rRight_calls (HPG.out.below hK.below) HR.out).mono ?_
    rintro e w3 ⟨rfl, hk⟩
    replace m0 := bk_kp m0 hk (fun x => x)
    replace hK := hK.trans hk
    have d0 := bk_cell m0 0
    have d1 := bk_cell m0 1
    clear hk
    by_cases hyc : yc = 0
    · subst hyc
      have hb0 : ((0 : Int) == 0) = true := rfl
      by_cases ht0 : t < 0
      · have htd : decide (t < 0) = true := decide_eq_true ht0
        clear m0 d0 d1
        go_wp2_with fail
        refine awake11.mono ?_
        rintro e wz ⟨rfl, hk⟩
        replace hK := hK.trans hk
        clear hk
        go_wp2
        go_ret
        exact ⟨rfl, hK.below⟩
      · obtain ⟨tn, rfl⟩ := Int.eq_ofNat_of_zero_le (show 0 ≤ t by omega)
        by_cases ht1 : T.length ≤ tn
        · have htl : decide ((T.length : Int) ≤ (tn : Int)) = true := decide_eq_true (by omega)
          have htd : decide ((tn : Int) < 0) = false := decide_eq_false (by omega)
          clear m0 d0
          go_wp2_with fail
          refine awake11.mono ?_
          rintro e wz ⟨rfl, hk⟩
          replace hK := hK.trans hk
          clear hk
          go_wp2
          go_ret
          exact ⟨rfl, hK.below⟩
        · as_aux_lemma =>
            have htl : decide (T.length ≤ tn) = false := decide_eq_false (by omega)
            have htd : decide ((tn : Int) < 0) = false := decide_eq_false (by omega)
            have htt : (tn : Int) < (T.length : Int) := by omega
            have hnn : (0 : Int) ≤ (tn : Int) := by omega
            obtain ⟨ad, _, _, hA0, hcell0, -, -⟩ := at_L4 (Kd.C_below HPG.out.t hK.below) 0 (Int.le_refl 0) (by omega)
            obtain ⟨ab, ao, rfl⟩ := ad_form (show w3.cell? (ad.add 0) = _ from hcell0)
            subst hA0
            obtain ⟨ad, AL, cL, hA, hcell, hLc, hLC⟩ := at_L4 (Kd.C_below HPG.out.t hK.below) (tn : Int) hnn htt
            obtain rfl := Option.some.inj hA
            clear hcell0 hA
            rw [Int.toNat_natCast, add_none] at hcell
            have hJ := okJ_of ((okF HC.out).2 (tn : Int) hnn htt) (HT.out _ (rd_memL hnn htt))
            obtain ⟨k2, out, en, hre, hen, hlen, hin, hov⟩ := tellF HC.out HT.out hnn htt
            have HJ := As.mk hJ
            have HRE := As.mk hre
            have HIN := As.mk hin
            have HLN := As.mk hlen
            have HLC := As.mk hLC
            have hl256 : (rd_L4 T tn).length ≤ 256 := hJ.1
            clear hJ hre hen hlen hin hov hLC HC HR HB HF hR10 hT10 ht0 ht1
            generalize hg0 : rd_L4 T (tn : Int) = l at hcell HJ HIN HLN HLC hl256 hLc
            clear hg0
            go_wp2_with fail
            have hp3 := HPG.out.below hK.below
            refine (check_Reach.calls k2 A0 c0 R _ c1 T (tn : Int) out 0 _ hp3.r hp3.l0 hp3.t hp3.l1 HRE.out).mono ?_
            rintro e w4 ⟨v0, rfl, hv, hbl⟩
            have hk := bk_b hbl
            obtain ⟨A3, c3, rfl, hc3, hC3⟩ := Kd.R_reads hv
            obtain ⟨b3, o3, rfl, hfs3⟩ := Cb_cells hC3 (by have := HLN.out; omega)
            have HF3 := As.mk hfs3
            have HB3 := As.mk (World.block_lt_of_cell? _ _ (hfs3 0 (by have := HLN.out; omega)))
            have HL4 := As.mk (Kd.C_below (Kd.C_below HLC.out hk.below) (Kp.refl no w4).below)
            have HK4 := As.mk (hK.trans hk)
            have f0 := hfs3 0 (by have := HLN.out; omega)
            rw [(HIN.out 0).2 Rch.zero, Nat.add_zero] at f0
            rw [HLN.out]
            have hol : 0 < (l.length : Int) + 1 := by omega
            have hmk := make_b (l.length + 1) (by omega)
            rw [Int.natCast_add] at hmk
            change ∀ W : World, (Instr.makeSlice 35 (.int .i64 ((l.length : Int) + 1)) (.int .i64 ((l.length : Int) + 1))).run Try.prog W = _ at hmk
            clear hk hbl hp3 hC3 hv d0 d1 m0 hfs3 HLC hK
            go_wp2_with fail
            have hfi : FIn (w4.alloc (.cells ((Array.replicate (l.length + 1) (Value.bool false)).setIfInBounds 0 (.bool true)) 4)) w4.heap.size ((List.replicate (l.length + 1) false).set 0 true) := by
              unfold FIn
              rw [heap_alloc_new w4 _, made_set]
            have hk5 : Kp no w4 (w4.alloc (.cells ((Array.replicate (l.length + 1) (Value.bool false)).setIfInBounds 0 (.bool true)) 4)) := (Kp.refl no w4).alloc _
            generalize w4.alloc (.cells ((Array.replicate (l.length + 1) (Value.bool false)).setIfInBounds 0 (.bool true)) 4) = W5 at hfi hk5 ⊢
            have HGF := As.mk (show w4.heap.size ≤ w4.heap.size ∧ w4.heap.size < W5.heap.size from ⟨Nat.le_refl _, bk_lt hfi⟩)
            generalize hgf : w4.heap.size = gf at hfi HB3 ⊢
            rw [hgf] at HGF
            have HG := As.mk hgf
            have HK5 := As.mk hk5
            have HFI := As.mk hfi
            clear hfi hk5 hgf f0 hmk hol
            go_loopw [73] (fun v73 wr => ∃ (i : Nat) (F : List Bool), i ≤ l.length + 1 ∧ v73 = .int .i64 i ∧ As (Fr l F i) ∧ As (FIn wr gf F) ∧ As (Kp (· = gf) W5 wr)) (fun v73 _ => l.length + 1 - (intOf v73).toNat)
            case atStart => exact ⟨0, _, by omega, rfl, ⟨⟨by simp, by simp, fun i' h => absurd h (Nat.not_lt_zero _)⟩⟩, HFI, ⟨Kp.refl _ _⟩⟩
            case round =>
              obtain ⟨i, F, hi, rfl, hFr, hFI, hKr⟩ := hrel
              have HKw := As.mk (HK5.out.new hKr.out (fun q hq => by have := HG.out; omega))
              by_cases hlt : i < l.length + 1
              · as_aux_lemma =>
                  have hlt2 : (i : Int) < (l.length : Int) + 1 := by omega
                  have hnn2 : (0 : Int) ≤ (i : Int) := by omega
                  go_wp2_with fail
                  refine (Next_any (Kd.C_below HL4.out HKw.out.below) HJ.out (by omega)).mono ?_
                  rintro e w6 ⟨rfl, hqd⟩
                  have hKq := Kp.of_qd (S := no) hqd
                  have HKw6 := As.mk (HKw.out.trans hKq)
                  have hFI6 := As.mk (hFI.out.kp hKq (fun x => x))
                  have hK56 := As.mk (hKr.out.qd hqd)
                  clear hqd hKq
                  go_wp2_with fail
                  have mp := heap_alloc_new w6 (.cells #[.int .i64 (nxA l i), .int .i64 (nxB l i)] 3)
                  have hFI7 := As.mk (show FIn (w6.alloc (.cells #[.int .i64 (nxA l i), .int .i64 (nxB l i)] 3)) gf F from bk_alloc hFI6.out _)
                  have hK57 := As.mk (hK56.out.alloc (.cells #[.int .i64 (nxA l i), .int .i64 (nxB l i)] 3))
                  have HKw7 := As.mk (HKw6.out.alloc (.cells #[.int .i64 (nxA l i), .int .i64 (nxB l i)] 3))
                  have HNE := As.mk (show ¬ w6.heap.size = gf from fun e => by have := bk_lt hFI6.out; omega)
                  generalize w6.alloc (.cells #[.int .i64 (nxA l i), .int .i64 (nxB l i)] 3) = W7 at mp hFI7 hK57 HKw7 ⊢
                  generalize w6.heap.size = gp at mp HNE ⊢
                  have HPR := As.mk (show ∀ s, s < 2 → W7.cell? ⟨gp, s, none⟩ = some (.int .i64 (pr l i s)) from fun s hs => by
                    rw [bk_cell mp s]
                    rcases (show s = 0 ∨ s = 1 by omega) with rfl | rfl <;> rfl)
                  have HMP := As.mk mp
                  have hFr0 := As.mk (Fq.begin hFr.out)
                  clear mp hFr hFI6 hK56 HKw6
                  go_loopw [86] (fun v86 wq => ∃ (s : Nat) (F : List Bool), s ≤ 2 ∧ v86 = .int .i64 s ∧ As (Fq l F i s) ∧ As (FIn wq gf F) ∧ As (Kp (· = gf) W7 wq)) (fun v86 _ => 2 - (intOf v86).toNat)
                  case atStart => exact ⟨0, F, by omega, rfl, hFr0, hFI7, ⟨Kp.refl _ _⟩⟩
                  case round =>
                    clear hFr0 hFI7 hFI
                    obtain ⟨s, F, hs, rfl, hFq, hFI, hKq⟩ := hrel
                    have HKq := As.mk (HKw7.out.new hKq.out (fun q hq => by have := HG.out; omega))
                    by_cases hs2 : s < 2
                    · as_aux_lemma =>
                        have hs3 : (s : Int) < 2 := by omega
                        have hs0 : (0 : Int) ≤ (s : Int) := by omega
                        have cp := (World.cell?_of_block (hKq.out.block gp (bk_lt HMP.out) HNE.out)).trans (HPR.out s hs2)
                        have HS := As.mk hs2
                        have HI := As.mk hlt
                        have hsm : s < 10 := by omega
                        have him : i < 1000 := by omega
                        have hfl := hFq.out.1.1
                        have fi := (World.cell?_of_block (HKq.out.block b3 (by have := HB3.out; have := HG.out; omega) (fun x => x))).trans (HF3.out i (by have := HLN.out; omega))
                        by_cases he : pr l i s < 0
                        · have hed : decide (pr l i s < 0) = true := decide_eq_true he
                          have hn := As.mk (hFq.out.skip hs2 (Or.inl he))
                          generalize pr l i s = e at cp hed
                          generalize out.getD i false = oi at fi
                          clear he hlt hs2 hi
                          go_wp2_with fail
                          exact ⟨⟨s + 1, F, by have := HS.out; omega, by go_num, hn, hFI, hKq⟩, by have := HS.out; simp [intOf]; omega⟩
                        · obtain ⟨j, hj⟩ := Int.eq_ofNat_of_zero_le (show 0 ≤ pr l i s by omega)
                          by_cases ho : out.getD i false = true
                          · obtain ⟨hrj, hjl⟩ := pr_go HJ.out (by omega) hs2 hj ((HIN.out i).1 ho)
                            have hn := As.mk (hFq.out.put hs2 hj (by omega))
                            have hFn := As.mk (hFI.out.set j)
                            have hKn := As.mk (hKq.out.setCell ⟨gf, j, none⟩ rfl (.bool true))
                            have fj := (World.cell?_of_block (HKq.out.block b3 (by have := HB3.out; have := HG.out; omega) (fun x => x))).trans (HF3.out j (by have := HLN.out; omega))
                            rw [(HIN.out j).2 hrj] at fj
                            rw [ho] at fi
                            rw [hj] at cp
                            have cF := hFI.out.cell (show j < F.length by omega)
                            have zF := hFI.out.fz j
                            have hj0 : (0 : Int) ≤ (j : Int) := by omega
                            have hjd : decide ((j : Int) < 0) = false := decide_eq_false (by omega)
                            have hj1 : (j : Int) < (l.length : Int) + 1 := by omega
                            clear he hlt hs2 hi ho hj hrj hjl hfl
                            generalize F.getD j false = fj0 at cF
                            go_wp2_with fail
                            exact ⟨⟨s + 1, F.set j true, by have := HS.out; omega, by go_num, hn, hFn, hKn⟩, by have := HS.out; simp [intOf]; omega⟩
                          · have ho : out.getD i false = false := by simpa using ho
                            have hn := As.mk (hFq.out.skip hs2 (Or.inr (fun h => by rw [(HIN.out i).2 h] at ho; cases ho)))
                            rw [ho] at fi
                            have hed : decide (pr l i s < 0) = false := decide_eq_false he
                            generalize pr l i s = e at cp hed
                            clear he hlt hs2 hi ho hj
                            go_wp2_with fail
                            exact ⟨⟨s + 1, F, by have := HS.out; omega, by go_num, hn, hFI, hKq⟩, by have := HS.out; simp [intOf]; omega⟩
                    · obtain rfl : s = 2 := by omega
                      have hn := As.mk (hFq.out.done HJ.out (by omega))
                      have hKn := As.mk (hK57.out.trans hKq.out)
                      have HI := As.mk hlt
                      have him : i < 1000 := by omega
                      clear hlt hi
                      go_wp2_with fail
                      exact ⟨⟨i + 1, F, by have := HI.out; omega, by go_num, hn, hFI, hKn⟩, by have := HI.out; simp [intOf]; omega⟩
              · obtain rfl : i = l.length + 1 := by omega
                have HALL := As.mk (fun q (h : Rch l q) => hFr.out.all HJ.out h)
                have HFL := As.mk hFr.out.1
                clear hlt hi hFr
                go_wp2_with fail
                go_loopw [111] (fun v111 wq => ∃ i : Nat, i ≤ l.length + 1 ∧ v111 = .int .i64 i ∧ wq = wr) (fun v111 _ => l.length + 1 - (intOf v111).toNat)
                case atStart => exact ⟨0, Nat.zero_le _, rfl, rfl⟩
                case round =>
                  obtain ⟨i, hi, rfl, rfl⟩ := hrel
                  by_cases hlt : i < l.length + 1
                  · as_aux_lemma =>
                      have hlt2 : (i : Int) < (l.length : Int) + 1 := by omega
                      have hnn2 : (0 : Int) ≤ (i : Int) := by omega
                      have him : i < 1000 := by omega
                      have fi := (World.cell?_of_block (HKw.out.block b3 (by have := HB3.out; have := HG.out; omega) (fun x => x))).trans (HF3.out i (by have := HLN.out; omega))
                      have cF := hFI.out.cell (show i < F.length by have := HFL.out; omega)
                      have HI := As.mk hlt
                      by_cases ho : out.getD i false = true
                      · rw [HALL.out i ((HIN.out i).1 ho)] at cF
                        rw [ho] at fi
                        clear hlt hi ho
                        go_wp2_with fail
                        exact ⟨⟨i + 1, by have := HI.out; omega, by go_num, by trivial⟩, by have := HI.out; simp [intOf]; omega⟩
                      · have ho : out.getD i false = false := by simpa using ho
                        rw [ho] at fi
                        generalize F.getD i false = fj0 at cF
                        clear hlt hi ho
                        go_wp2_with fail
                        exact ⟨⟨i + 1, by have := HI.out; omega, by go_num, by trivial⟩, by have := HI.out; simp [intOf]; omega⟩
                  · obtain rfl : i = l.length + 1 := by omega
                    clear hlt hi
                    go_wp2_with fail
                    go_ret
                    exact ⟨rfl, (HK4.out.trans HKw.out).below⟩
    · have hb0 : (yc == 0) = false := by simpa using hyc
      clear m0 d0 d1
      go_wp2_with fail
      refine awake11.mono ?_
      rintro e wz ⟨rfl, hk⟩
      replace hK := hK.trans hk
      clear hk
      go_wp2
      go_ret
      exact ⟨rfl, hK.below⟩
end Go.Proofs.Ythoejimgdhfmiaa.H
