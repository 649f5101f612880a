/- Layer 11: CheckTells: any program is right, or what is wrong with it first, and where, is the document's. No condition. -/
import Derived.Test.YthoejimgdhfmiaaChkD
import Derived.Test.YthoejimgdhfmiaaOpnC
namespace Go.Proofs.Ythoejimgdhfmiaa.H
open Go.RowKit Go.Proofs.Ythoejimgdhfmiaa.PCheckTells Go.Proofs.YthoejimgdhfmiaaW.PrintWords Go.Proofs.YthoejimgdhfmiaaW.PrintLast Go.Proofs.YthoejimgdhfmiaaW.PrintMore
set_option linter.unusedVariables false
set_option linter.unusedSimpArgs false
variable {w : World}

set_option maxRecDepth 100000 in
set_option maxHeartbeats 6400000 in
theorem CheckTells_calls {v0 : Value} (hp : PgIn w v0) : Calls Try.prog 3 #[v0] w fun e w' => e = .returned (.bool true) ∧ Below w.heap.size w w' := by
  obtain ⟨R, T, A0, c0, A1, c1, rfl, hp, hT⟩ := hp
  obtain ⟨k1, b, hfew, hb⟩ := fewF R T 300 (by decide)
  have HP := As.mk hp
  have HT := As.mk hT
  have HB := As.mk hb
  have HF := As.mk hfew
  clear hp hT hb hfew
  go_enter Try.func3, Try.ntmps3
  go_wp2_with fail
  have m0 := heap_alloc_new w (.cells #[.slice A0 R.length c0, .slice A1 T.length c1] 25)
  have hK := (Kp.refl no w).alloc (.cells #[.slice A0 R.length c0, .slice A1 T.length c1] 25)
  generalize w.alloc (.cells #[.slice A0 R.length c0, .slice A1 T.length c1] 25) = W at m0 hK ⊢
  have hg : w.heap.size = w.heap.size := rfl
  generalize w.heap.size = g0 at m0 ⊢
  refine awake11.mono ?_
  rintro e w1 ⟨rfl, hk⟩
  replace m0 := bk_kp m0 hk (fun x => x)
  replace hK := hK.trans hk
  clear hk hg
  have d0 := bk_cell m0 0
  have d1 := bk_cell m0 1
  go_wp2_with fail
  have hp1 := HP.out.below hK.below
  refine (rondeauref09_Few.calls k1 A0 c0 R A1 c1 T 300 b _ hp1.r hp1.l0 hp1.t hp1.l1 HF.out).mono ?_
  rintro e w2 ⟨rfl, hbl⟩
  have hk := bk_b hbl
  replace m0 := bk_kp m0 hk (fun x => x)
  replace hK := hK.trans hk
  clear hk hbl hp1 d0 d1
  cases b with
  | false =>
    clear m0
    go_wp2_with fail
    refine awake11.mono ?_
    rintro e w3 ⟨rfl, hk⟩
    replace hK := hK.trans hk
    clear hk
    go_wp2
    go_ret
    exact ⟨rfl, hK.below⟩
  | true =>
    obtain ⟨hR10, hT10, hl⟩ := HB.out rfl
    obtain ⟨k2, hcopy⟩ := copyF R T hR10 hT10 (fun j h0 h1 => by have := hl j h0 h1; omega)
    obtain ⟨k3, y, hchk⟩ := endF R T (by omega) (by omega)
    obtain ⟨ya, yb, yc⟩ := y
    have href := simF R T HT.out k3 _ hchk
    have hright : check_Right.f k3 R T = some (yc == 0) := by unfold check_Right.f; rw [hchk]; rfl
    have HC := As.mk hcopy
    have HK3 := As.mk (And.intro hchk (And.intro href hright))
    have d0 := bk_cell m0 0
    have d1 := bk_cell m0 1
    clear hcopy hchk href hright hl hR10 hT10
    go_wp2_with fail
    have hp2 := HP.out.below hK.below
    refine (rondeauref09_Copy.calls k2 A0 c0 R A1 c1 T R T _ hp2.r hp2.l0 hp2.t hp2.l1 HC.out).mono ?_
    rintro e w3 ⟨u0, u1, rfl, h0, h1, hbl⟩
    obtain ⟨B0, b0, rfl, l0, hc0⟩ := Kd.R_reads h0
    obtain ⟨B1, b1, rfl, l1, hc1⟩ := Kd.S_reads h1
    have hk := bk_b hbl
    replace m0 := bk_kp m0 hk (fun x => x)
    replace hK := hK.trans hk
    clear hk hbl hp2 d0 d1 h0 h1
    go_wp2_with fail
    refine (check_Check.calls k3 B0 b0 R B1 b1 T ya yb yc _ hc0 l0 hc1 l1 HK3.out.1).mono ?_
    rintro e w4 ⟨rfl, hbl⟩
    have hk := bk_b hbl
    replace m0 := bk_kp m0 hk (fun x => x)
    replace hK := hK.trans hk
    have d0 := bk_cell m0 0
    have d1 := bk_cell m0 1
    clear hk hbl hc0 hc1 l0 l1
    go_wp2_with fail
    have hp3 := HP.out.below hK.below
    refine (rondeauref11_Check.calls (k3 + 12) A0 c0 R A1 c1 T ya yb yc _ hp3.r hp3.l0 hp3.t hp3.l1 HK3.out.2.1).mono ?_
    rintro e w5 ⟨rfl, hbl⟩
    have hk := bk_b hbl
    replace m0 := bk_kp m0 hk (fun x => x)
    replace hK := hK.trans hk
    have d0 := bk_cell m0 0
    have d1 := bk_cell m0 1
    clear hk hbl hp3
    have hp4 := HP.out.below hK.below
    go_wp2_with fail
    refine (check_Right.calls k3 A0 c0 R A1 c1 T (yc == 0) _ hp4.r hp4.l0 hp4.t hp4.l1 HK3.out.2.2).mono ?_
    rintro e w6 ⟨rfl, hbl⟩
    have hk := bk_b hbl
    replace hK := hK.trans hk
    clear hk hbl hp4 m0 d0 d1
    have hbb : ((yc == 0) == (yc == 0)) = true := by simp
    go_wp2
    go_ret
    exact ⟨rfl, hK.below⟩
end Go.Proofs.Ythoejimgdhfmiaa.H
