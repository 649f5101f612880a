/- Layer 13: RingLoads: any state is loaded as it is, and the ring goes on as the document says, or it is refused. No condition. -/
import Derived.Test.YtmejnhfggmmefaaL13R
import Derived.Test.YtmejnhfggmmefaaR13I
import Derived.Test.YtmejnhfggmmefaaR13K
import Derived.Test.YtmejnhfggmmefaaOpnS
namespace Go.Proofs.Ytmejnhfggmmefaa.H
open Go.RowKit
set_option linter.unusedVariables false
set_option linter.unusedSimpArgs false
variable {w : World} {B : RB} {r : Rg}

theorem RLoad_bad (k c R : Int) {v1 v2 : Value} (T : Int) (cl : Bool) (H : List Int) (M : List Sl) (hwf : ∀ x ∈ M, 0 ≤ x.st ∧ x.st < 18446744073709551616)
    (hH : Rd w v1 H.length (u64s H)) (hHw : ∀ x ∈ H, 0 ≤ x ∧ x < 18446744073709551616) (hM : Rd w v2 M.length (slCells M)) (hT0 : 0 ≤ T) (hb : rLoadsB k c R T H M = false) (er : Int) (he : er = if rMay k c R then 3 else 1) :
    Calls Try.prog 56 #[.agg #[.int .i64 k, .int .i64 c, .int .i64 R], .agg #[.int .u64 T, v1, .bool cl, v2]] w fun e w' => e = .returned (.tuple #[.pointer none, .int .i64 er]) ∧ Kp no w w' := by
  refine (RLoad_any k c R T cl H M hwf hH hHw hM hT0).mono ?_
  rintro e w' (⟨h, -⟩ | ⟨-, rfl, hK⟩)
  · rw [hb] at h; cases h
  · subst he; exact ⟨rfl, hK⟩
theorem RLoad_good (k c R : Int) {v1 v2 : Value} (T : Int) (cl : Bool) (H : List Int) (M : List Sl) (hwf : ∀ x ∈ M, 0 ≤ x.st ∧ x.st < 18446744073709551616)
    (hH : Rd w v1 H.length (u64s H)) (hHw : ∀ x ∈ H, 0 ≤ x ∧ x < 18446744073709551616) (hM : Rd w v2 M.length (slCells M)) (hT0 : 0 ≤ T) (hb : rLoadsB k c R T H M = true) :
    Calls Try.prog 56 #[.agg #[.int .i64 k, .int .i64 c, .int .i64 R], .agg #[.int .u64 T, v1, .bool cl, v2]] w fun e w' => ∃ B, e = .returned (.tuple #[.pointer (some ⟨B.g, 0, none⟩), .int .i64 0]) ∧ RingIn w' B ⟨T, H, cl, M⟩ ∧ (∀ i, B.own i → w.heap.size ≤ i) ∧ Kp no w w' := by
  refine (RLoad_any k c R T cl H M hwf hH hHw hM hT0).mono ?_
  rintro e w' (⟨-, h⟩ | ⟨h, -⟩)
  · exact h
  · rw [hb] at h; cases h
theorem ROf_rg (k0 tl : Int) (p q : Nat) (hp : p ≤ 64) (CL : Bool) (hs : List Int) (L : List Sl) {v1 v2 : Value} (h1 : Rd w v1 hs.length (u64s hs)) (h2 : Rd w v2 L.length (slCells L)) (hn8 : hs.length ≤ 20) (hn64 : L.length ≤ 70) (hH : hs.length = q) (hL : L.length = p) (S : Nat → Prop) (hS : ∀ i, S i → i < w.heap.size) :
    Calls Try.prog 61 #[.agg #[.int .i64 k0, .int .i64 p, .int .i64 q], .agg #[.int .u64 tl, v1, .bool CL, v2]] w fun e w' => ∃ vv, e = .returned vv ∧ RG S S w' vv ⟨tl, hs, CL, L⟩ ∧ Kp no w w' := by
  refine (ROf_any k0 p q tl CL hs L h1 h2 hn8 hn64).mono ?_
  rintro e w' ⟨vh, vl, rfl, o1, o2, hK⟩
  have hw : IntKind.u64.wrap (p : Int) = (p : Int) := by rw [IntKind.wrap_u64]; omega
  refine ⟨_, rfl, ⟨vh, vl, by rw [hw, hH, hL], Rd.of_own o1, Rd.of_own o2, fun k hk hs => ?_, fun k hk hs => ?_⟩, hK⟩
  · have := o1.lt k hk; have := hS k hs; omega
  · have := o2.lt k hk; have := hS k hs; omega
theorem plays13_any {w0 : World} (h : RingIn w B r) (hnew : ∀ i, B.own i → w0.heap.size ≤ i) (hK : Kp no w0 w) {e0 : Value} (hg : RG B.own B.own w e0 r) (hT : r.tail < 4611686018427387904) (O : List O12) (hl : O.length ≤ 200) (hO : ∀ o ∈ O, o.ok) {v2 : Value} (hrd : Rd w0 v2 O.length (oCells O)) :
    Calls Try.prog 58 #[.pointer (some ⟨B.g, 0, none⟩), e0, v2] w fun e w' => e = .returned (.bool true) ∧ Kp B.own w w' := by
  by_cases hO0 : O.length = 0
  · obtain ⟨A, cap, rfl, -⟩ := id hrd
    rw [hO0]
    exact plays13_nil hg _ A cap
  · obtain ⟨ab, ao, c', rfl, -, -, hc⟩ := hrd.form (by rw [oCells_len]; omega)
    have hal := World.block_lt_of_cell? _ _ (hc 0 _ (List.getElem?_eq_getElem (by rw [oCells_len]; omega)))
    simp only at hal
    refine plays13 h r.tail (fun g4 hg4 => hg.more h.s.pos h.s.hR0 (fun i hi => by rcases hi with hi | rfl; exact .inl hi; exact .inr hg4)) O (fun o ho => (hO o ho).1) ab ao c' hl (fun hh => by have := hnew _ hh; omega) (by have := hK.size; omega) (Int.le_refl _) (by omega) (fun j u hj => ?_)
    have h1 := hc j u hj
    rw [World.cell?_of_block (hK.block ab hal (fun x => x))]; exact h1
set_option maxRecDepth 100000 in
set_option maxHeartbeats 6400000 in
theorem RLoads_long {A Ah Al : Option Addr} {cap ch cl : Nat} (O : List O12) (H : List Int) (M : List Sl) (T : Int) (CL : Bool) (hT0 : 0 ≤ T) (hH : Rd w (.slice Ah H.length ch) H.length (u64s H)) (hHw : ∀ x ∈ H, 0 ≤ x ∧ x < 18446744073709551616) (hM : Rd w (.slice Al M.length cl) M.length (slCells M)) (hwf : ∀ x ∈ M, 0 ≤ x.st ∧ x.st < 18446744073709551616) (hrd : Rd w (.slice A O.length cap) O.length (oCells O)) (hok : ∀ o ∈ O, o.ok) (k c R : Int) (hbad : 100 < O.length ∨ 70 < M.length ∨ 20 < H.length) :
    Calls Try.prog 19 #[.agg #[.int .i64 k, .int .i64 c, .int .i64 R], .agg #[.int .u64 T, .slice Ah H.length ch, .bool CL, .slice Al M.length cl], .slice A O.length cap] w fun e w' => e = .returned (.bool true) ∧ Kp no w w' := by
  go_enter Try.func19, Try.ntmps19
  go_wp2_with fail
  obtain ⟨m0, m1, hK, hsz⟩ := alloc2 (w := w) #[.int .i64 k, .int .i64 c, .int .i64 R] #[.int .u64 T, .slice Ah H.length ch, .bool CL, .slice Al M.length cl] 23 92
  generalize (w.alloc (.cells #[.int .i64 k, .int .i64 c, .int .i64 R] 23)).alloc (.cells #[.int .u64 T, .slice Ah H.length ch, .bool CL, .slice Al M.length cl] 92) = W at m0 m1 hK ⊢
  have hgw : w.heap.size = w.heap.size := rfl
  generalize w.heap.size = g0 at m0 m1 ⊢
  refine awake13.mono ?_
  rintro e w1 ⟨rfl, hk⟩
  replace m0 := bk_kp m0 hk (fun x => x)
  replace m1 := bk_kp m1 hk (fun x => x)
  replace hK := hK.trans hk
  clear hk
  have e1 := bk_cell m1 1
  have e3 := bk_cell m1 3
  clear hM hrd hok hH hHw hwf hsz m0 m1
  by_cases h1 : O.length ≤ 100
  · have b1 : decide ((100 : Int) < (O.length : Int)) = false := decide_eq_false (by omega)
    by_cases h2 : M.length ≤ 70
    · have b2 : decide ((70 : Int) < (M.length : Int)) = false := decide_eq_false (by omega)
      have b3 : decide ((20 : Int) < (H.length : Int)) = true := decide_eq_true (by omega)
      clear hbad h1 h2
      go_wp2_with fail
      refine awake13.mono ?_
      rintro e w2 ⟨rfl, hk⟩
      replace hK := hK.trans hk
      clear hk e1 e3
      go_wp2
      go_ret
      exact ⟨rfl, hK⟩
    · have b2 : decide ((70 : Int) < (M.length : Int)) = true := decide_eq_true (by omega)
      clear hbad h1 h2
      go_wp2_with fail
      refine awake13.mono ?_
      rintro e w2 ⟨rfl, hk⟩
      replace hK := hK.trans hk
      clear hk e1 e3
      go_wp2
      go_ret
      exact ⟨rfl, hK⟩
  · have b1 : decide ((100 : Int) < (O.length : Int)) = true := decide_eq_true (by omega)
    clear hbad h1
    go_wp2_with fail
    refine awake13.mono ?_
    rintro e w2 ⟨rfl, hk⟩
    replace hK := hK.trans hk
    clear hk e1 e3
    go_wp2
    go_ret
    exact ⟨rfl, hK⟩
set_option maxRecDepth 100000 in
set_option maxHeartbeats 6400000 in
theorem RLoads_arg {A Ah Al : Option Addr} {cap ch cl : Nat} (O : List O12) (H : List Int) (M : List Sl) (T : Int) (CL : Bool) (hT0 : 0 ≤ T) (hH : Rd w (.slice Ah H.length ch) H.length (u64s H)) (hHw : ∀ x ∈ H, 0 ≤ x ∧ x < 18446744073709551616) (hM : Rd w (.slice Al M.length cl) M.length (slCells M)) (hwf : ∀ x ∈ M, 0 ≤ x.st ∧ x.st < 18446744073709551616) (hrd : Rd w (.slice A O.length cap) O.length (oCells O)) (hok : ∀ o ∈ O, o.ok) (k c R : Int) (hn1 : O.length ≤ 100) (hn2 : M.length ≤ 70) (hn3 : H.length ≤ 20) (hm : rMay k c R = false) :
    Calls Try.prog 19 #[.agg #[.int .i64 k, .int .i64 c, .int .i64 R], .agg #[.int .u64 T, .slice Ah H.length ch, .bool CL, .slice Al M.length cl], .slice A O.length cap] w fun e w' => e = .returned (.bool true) ∧ Kp no w w' := by
  have HM := As.mk hm
  have HB := As.mk (show rLoadsB k c R T H M = false from by unfold rLoadsB; rw [hm]; rfl)
  clear hm
  go_enter Try.func19, Try.ntmps19
  go_wp2_with fail
  obtain ⟨m0, m1, hK, hsz⟩ := alloc2 (w := w) #[.int .i64 k, .int .i64 c, .int .i64 R] #[.int .u64 T, .slice Ah H.length ch, .bool CL, .slice Al M.length cl] 23 92
  generalize (w.alloc (.cells #[.int .i64 k, .int .i64 c, .int .i64 R] 23)).alloc (.cells #[.int .u64 T, .slice Ah H.length ch, .bool CL, .slice Al M.length cl] 92) = W at m0 m1 hK ⊢
  have hgw : w.heap.size = w.heap.size := rfl
  generalize w.heap.size = g0 at m0 m1 ⊢
  refine awake13.mono ?_
  rintro e w1 ⟨rfl, hk⟩
  replace m0 := bk_kp m0 hk (fun x => x)
  replace m1 := bk_kp m1 hk (fun x => x)
  replace hK := hK.trans hk
  clear hk
  have b1 : decide ((100 : Int) < (O.length : Int)) = false := decide_eq_false (by omega)
  have b2 : decide ((70 : Int) < (M.length : Int)) = false := decide_eq_false (by omega)
  have b3 : decide ((20 : Int) < (H.length : Int)) = false := decide_eq_false (by omega)
  have e1 := bk_cell m1 1
  have e3 := bk_cell m1 3
  have HN := As.mk (And.intro hn1 (And.intro hn2 hn3))
  have HHW := As.mk hHw
  have HMW := As.mk hwf
  have HOK := As.mk hok
  have HT0 := As.mk hT0
  have HRD := As.mk (And.intro hH (And.intro hM hrd))
  have K1 := As.mk hK.drew
  have M1 := As.mk (And.intro (st_drew m0) (st_drew m1))
  clear hn1 hn2 hn3 hHw hwf hok hT0 hH hM hrd hK m0 m1 hsz
  go_upto_region 3 with fail
  clear e1 e3 b1 b2 b3
  have d0 := bk_cell M1.out.1 0
  have d1 := bk_cell M1.out.1 1
  have d2 := bk_cell M1.out.1 2
  have d3 := bk_cell M1.out.2 0
  have d4 := bk_cell M1.out.2 1
  have d5 := bk_cell M1.out.2 2
  have d6 := bk_cell M1.out.2 3
  go_region_held3 (fun w' => w'.cell? ⟨g0, 0, none⟩ = some (.int .i64 k) ∧ w'.cell? ⟨g0, 1, none⟩ = some (.int .i64 c) ∧ w'.cell? ⟨g0, 2, none⟩ = some (.int .i64 R) ∧ w'.cell? ⟨g0 + 1, 0, none⟩ = some (.int .u64 T) ∧ w'.cell? ⟨g0 + 1, 1, none⟩ = some (.slice Ah H.length ch) ∧ w'.cell? ⟨g0 + 1, 2, none⟩ = some (.bool CL) ∧ w'.cell? ⟨g0 + 1, 3, none⟩ = some (.slice Al M.length cl)) (first | (with_reducible exact ⟨d0, d1, d2, d3, d4, d5, d6⟩) | (with_reducible exact ⟨f0, f1, f2, f3, f4, f5, f6⟩) | (with_reducible exact ⟨i0, i1, i2, i3, i4, i5, i6⟩) | (with_reducible exact ⟨j0, j1, j2, j3, j4, j5, j6⟩) | go_keep)
    (first
      | (go_at_call 61; refine (ROf_any k c R T CL H M (HRD.out.1.kp K1.out (fun _ _ x => x)) (HRD.out.2.1.kp K1.out (fun _ _ x => x)) HN.out.2.2 HN.out.2.1).mono ?_; rintro e w2 ⟨vh2, vl2, rfl, o1, o2, k2⟩; have M2 := As.mk (And.intro (bk_kp M1.out.1 k2 (fun x => x)) (bk_kp M1.out.2 k2 (fun x => x))); have f0 := bk_cell M2.out.1 0; have f1 := bk_cell M2.out.1 1; have f2 := bk_cell M2.out.1 2; have f3 := bk_cell M2.out.2 0; have f4 := bk_cell M2.out.2 1; have f5 := bk_cell M2.out.2 2; have f6 := bk_cell M2.out.2 3; have K2 := As.mk (K1.out.trans k2); have O2 := As.mk (And.intro o1 o2); clear o1 o2 k2; clear d0 d1 d2 d3 d4 d5 d6)
      | (go_at_call 60; refine (RState_gen _ _ T CL H M (Rd.of_own O2.out.1) (Rd.of_own O2.out.2) HN.out.2.2 HN.out.2.1).mono ?_; rintro e w3 ⟨vh3, vl3, rfl, o1, o2, k3⟩; have M3 := As.mk (And.intro (bk_kp M2.out.1 k3 (fun x => x)) (bk_kp M2.out.2 k3 (fun x => x))); have i0 := bk_cell M3.out.1 0; have i1 := bk_cell M3.out.1 1; have i2 := bk_cell M3.out.1 2; have i3 := bk_cell M3.out.2 0; have i4 := bk_cell M3.out.2 1; have i5 := bk_cell M3.out.2 2; have i6 := bk_cell M3.out.2 3; have K3 := As.mk (K2.out.trans k3); have O3 := As.mk (And.intro o1 o2); clear o1 o2 k3; clear f0 f1 f2 f3 f4 f5 f6)
      | (go_at_call 56; refine (RLoad_bad k c R T CL H M HMW.out (Rd.of_own O3.out.1) HHW.out (Rd.of_own O3.out.2) HT0.out HB.out 1 (by rw [HM.out]; rfl)).mono ?_; rintro e w4 ⟨rfl, k4⟩; have M4 := As.mk (And.intro (bk_kp M3.out.1 k4 (fun x => x)) (bk_kp M3.out.2 k4 (fun x => x))); have j0 := bk_cell M4.out.1 0; have j1 := bk_cell M4.out.1 1; have j2 := bk_cell M4.out.1 2; have j3 := bk_cell M4.out.2 0; have j4 := bk_cell M4.out.2 1; have j5 := bk_cell M4.out.2 2; have j6 := bk_cell M4.out.2 3; have K4 := As.mk (K3.out.trans k4); clear k4; clear i0 i1 i2 i3 i4 i5 i6))
  go_wp2_with fail
  refine (RMay_any k c R).mono ?_
  rintro e w5 ⟨rfl, k5⟩
  rw [HM.out]
  have K5 := As.mk (K4.out.trans k5)
  clear k5
  clear j0 j1 j2 j3 j4 j5 j6
  go_wp2
  go_ret
  exact ⟨rfl, K5.out⟩
set_option maxRecDepth 100000 in
set_option maxHeartbeats 6400000 in
theorem RLoads_form {A Ah Al : Option Addr} {cap ch cl : Nat} (O : List O12) (H : List Int) (M : List Sl) (T : Int) (CL : Bool) (hT0 : 0 ≤ T) (hH : Rd w (.slice Ah H.length ch) H.length (u64s H)) (hHw : ∀ x ∈ H, 0 ≤ x ∧ x < 18446744073709551616) (hM : Rd w (.slice Al M.length cl) M.length (slCells M)) (hwf : ∀ x ∈ M, 0 ≤ x.st ∧ x.st < 18446744073709551616) (hrd : Rd w (.slice A O.length cap) O.length (oCells O)) (hok : ∀ o ∈ O, o.ok) (k : Int) (p q : Nat) (hn1 : O.length ≤ 100) (hn2 : M.length ≤ 70) (hn3 : H.length ≤ 20) (hm : rMay k p q = true) (hb : rLoadsB k p q T H M = false) (hp1 : 1 ≤ p) (hp2 : p ≤ 64) (hq1 : 1 ≤ q) (hq2 : q ≤ 8) :
    Calls Try.prog 19 #[.agg #[.int .i64 k, .int .i64 p, .int .i64 q], .agg #[.int .u64 T, .slice Ah H.length ch, .bool CL, .slice Al M.length cl], .slice A O.length cap] w fun e w' => e = .returned (.bool true) ∧ Kp no w w' := by
  have HM := As.mk hm
  have HB := As.mk hb
  have HB2 := As.mk ((loads13_eq hm T H M).symm.trans hb)
  have HP := As.mk (And.intro hp1 (And.intro hp2 (And.intro hq1 hq2)))
  clear hm hb hp1 hp2 hq1 hq2
  go_enter Try.func19, Try.ntmps19
  go_wp2_with fail
  obtain ⟨m0, m1, hK, hsz⟩ := alloc2 (w := w) #[.int .i64 k, .int .i64 p, .int .i64 q] #[.int .u64 T, .slice Ah H.length ch, .bool CL, .slice Al M.length cl] 23 92
  generalize (w.alloc (.cells #[.int .i64 k, .int .i64 p, .int .i64 q] 23)).alloc (.cells #[.int .u64 T, .slice Ah H.length ch, .bool CL, .slice Al M.length cl] 92) = W at m0 m1 hK ⊢
  have hgw : w.heap.size = w.heap.size := rfl
  generalize w.heap.size = g0 at m0 m1 ⊢
  refine awake13.mono ?_
  rintro e w1 ⟨rfl, hk⟩
  replace m0 := bk_kp m0 hk (fun x => x)
  replace m1 := bk_kp m1 hk (fun x => x)
  replace hK := hK.trans hk
  clear hk
  have b1 : decide ((100 : Int) < (O.length : Int)) = false := decide_eq_false (by omega)
  have b2 : decide ((70 : Int) < (M.length : Int)) = false := decide_eq_false (by omega)
  have b3 : decide ((20 : Int) < (H.length : Int)) = false := decide_eq_false (by omega)
  have e1 := bk_cell m1 1
  have e3 := bk_cell m1 3
  have HN := As.mk (And.intro hn1 (And.intro hn2 hn3))
  have HHW := As.mk hHw
  have HMW := As.mk hwf
  have HOK := As.mk hok
  have HT0 := As.mk hT0
  have HRD := As.mk (And.intro hH (And.intro hM hrd))
  have K1 := As.mk hK.drew
  have M1 := As.mk (And.intro (st_drew m0) (st_drew m1))
  clear hn1 hn2 hn3 hHw hwf hok hT0 hH hM hrd hK m0 m1 hsz
  go_upto_region 3 with fail
  clear e1 e3 b1 b2 b3
  have d0 := bk_cell M1.out.1 0
  have d1 := bk_cell M1.out.1 1
  have d2 := bk_cell M1.out.1 2
  have d3 := bk_cell M1.out.2 0
  have d4 := bk_cell M1.out.2 1
  have d5 := bk_cell M1.out.2 2
  have d6 := bk_cell M1.out.2 3
  go_region_held3 (fun w' => w'.cell? ⟨g0, 0, none⟩ = some (.int .i64 k) ∧ w'.cell? ⟨g0, 1, none⟩ = some (.int .i64 p) ∧ w'.cell? ⟨g0, 2, none⟩ = some (.int .i64 q) ∧ w'.cell? ⟨g0 + 1, 0, none⟩ = some (.int .u64 T) ∧ w'.cell? ⟨g0 + 1, 1, none⟩ = some (.slice Ah H.length ch) ∧ w'.cell? ⟨g0 + 1, 2, none⟩ = some (.bool CL) ∧ w'.cell? ⟨g0 + 1, 3, none⟩ = some (.slice Al M.length cl)) (first | (with_reducible exact ⟨d0, d1, d2, d3, d4, d5, d6⟩) | (with_reducible exact ⟨f0, f1, f2, f3, f4, f5, f6⟩) | (with_reducible exact ⟨i0, i1, i2, i3, i4, i5, i6⟩) | (with_reducible exact ⟨j0, j1, j2, j3, j4, j5, j6⟩) | go_keep)
    (first
      | (go_at_call 61; refine (ROf_any k p q T CL H M (HRD.out.1.kp K1.out (fun _ _ x => x)) (HRD.out.2.1.kp K1.out (fun _ _ x => x)) HN.out.2.2 HN.out.2.1).mono ?_; rintro e w2 ⟨vh2, vl2, rfl, o1, o2, k2⟩; have M2 := As.mk (And.intro (bk_kp M1.out.1 k2 (fun x => x)) (bk_kp M1.out.2 k2 (fun x => x))); have f0 := bk_cell M2.out.1 0; have f1 := bk_cell M2.out.1 1; have f2 := bk_cell M2.out.1 2; have f3 := bk_cell M2.out.2 0; have f4 := bk_cell M2.out.2 1; have f5 := bk_cell M2.out.2 2; have f6 := bk_cell M2.out.2 3; have K2 := As.mk (K1.out.trans k2); have O2 := As.mk (And.intro o1 o2); clear o1 o2 k2; clear d0 d1 d2 d3 d4 d5 d6)
      | (go_at_call 60; refine (RState_gen _ _ T CL H M (Rd.of_own O2.out.1) (Rd.of_own O2.out.2) HN.out.2.2 HN.out.2.1).mono ?_; rintro e w3 ⟨vh3, vl3, rfl, o1, o2, k3⟩; have M3 := As.mk (And.intro (bk_kp M2.out.1 k3 (fun x => x)) (bk_kp M2.out.2 k3 (fun x => x))); have i0 := bk_cell M3.out.1 0; have i1 := bk_cell M3.out.1 1; have i2 := bk_cell M3.out.1 2; have i3 := bk_cell M3.out.2 0; have i4 := bk_cell M3.out.2 1; have i5 := bk_cell M3.out.2 2; have i6 := bk_cell M3.out.2 3; have K3 := As.mk (K2.out.trans k3); have O3 := As.mk (And.intro o1 o2); clear o1 o2 k3; clear f0 f1 f2 f3 f4 f5 f6)
      | (go_at_call 56; refine (RLoad_bad k p q T CL H M HMW.out (Rd.of_own O3.out.1) HHW.out (Rd.of_own O3.out.2) HT0.out HB.out 3 (by rw [HM.out]; rfl)).mono ?_; rintro e w4 ⟨rfl, k4⟩; have M4 := As.mk (And.intro (bk_kp M3.out.1 k4 (fun x => x)) (bk_kp M3.out.2 k4 (fun x => x))); have j0 := bk_cell M4.out.1 0; have j1 := bk_cell M4.out.1 1; have j2 := bk_cell M4.out.1 2; have j3 := bk_cell M4.out.2 0; have j4 := bk_cell M4.out.2 1; have j5 := bk_cell M4.out.2 2; have j6 := bk_cell M4.out.2 3; have K4 := As.mk (K3.out.trans k4); clear k4; clear i0 i1 i2 i3 i4 i5 i6))
  go_wp2_with fail
  refine (RMay_any k p q).mono ?_
  rintro e w5 ⟨rfl, k5⟩
  rw [HM.out]
  have K5 := As.mk (K4.out.trans k5)
  have M5 := As.mk (And.intro (bk_kp M4.out.1 k5 (fun x => x)) (bk_kp M4.out.2 k5 (fun x => x)))
  clear j0 j1 j2 j3 j4 j5 j6
  have d0 := bk_cell M5.out.1 0
  have d1 := bk_cell M5.out.1 1
  have d2 := bk_cell M5.out.1 2
  have d3 := bk_cell M5.out.2 0
  have d4 := bk_cell M5.out.2 1
  have d5 := bk_cell M5.out.2 2
  have d6 := bk_cell M5.out.2 3
  clear k5
  go_wp2_with fail
  refine (RLoads_any k p q HP.out.1 HP.out.2.1 HP.out.2.2.1 HP.out.2.2.2 T CL H M HT0.out HMW.out (HRD.out.1.kp K5.out (fun _ _ x => x)) HHW.out (HRD.out.2.1.kp K5.out (fun _ _ x => x))).mono ?_
  rintro e w6 ⟨rfl, k6⟩
  rw [HB2.out]
  have K6 := As.mk (K5.out.trans k6)
  clear k6
  clear d0 d1 d2 d3 d4 d5 d6
  go_wp2
  go_ret
  exact ⟨rfl, K6.out⟩
set_option maxRecDepth 100000 in
set_option maxHeartbeats 6400000 in
theorem RLoads_good {A Ah Al : Option Addr} {cap ch cl : Nat} (O : List O12) (H : List Int) (M : List Sl) (T : Int) (CL : Bool) (hT0 : 0 ≤ T) (hH : Rd w (.slice Ah H.length ch) H.length (u64s H)) (hHw : ∀ x ∈ H, 0 ≤ x ∧ x < 18446744073709551616) (hM : Rd w (.slice Al M.length cl) M.length (slCells M)) (hwf : ∀ x ∈ M, 0 ≤ x.st ∧ x.st < 18446744073709551616) (hrd : Rd w (.slice A O.length cap) O.length (oCells O)) (hok : ∀ o ∈ O, o.ok) (k : Int) (p q : Nat) (hn1 : O.length ≤ 100) (hn2 : M.length ≤ 70) (hn3 : H.length ≤ 20) (hm : rMay k p q = true) (hb : rLoadsB k p q T H M = true) (hp1 : 1 ≤ p) (hp2 : p ≤ 64) (hq1 : 1 ≤ q) (hq2 : q ≤ 8) (hHq : H.length = q) (hMp : M.length = p) (hT : T < 4611686018427387904) :
    Calls Try.prog 19 #[.agg #[.int .i64 k, .int .i64 p, .int .i64 q], .agg #[.int .u64 T, .slice Ah H.length ch, .bool CL, .slice Al M.length cl], .slice A O.length cap] w fun e w' => e = .returned (.bool true) ∧ Kp no w w' := by
  have HM := As.mk hm
  have HB := As.mk hb
  have HB2 := As.mk ((loads13_eq hm T H M).symm.trans hb)
  have HP := As.mk (And.intro hp1 (And.intro hp2 (And.intro hq1 hq2)))
  have HE := As.mk (And.intro hHq (And.intro hMp hT))
  clear hm hb hp1 hp2 hq1 hq2 hHq hMp hT
  go_enter Try.func19, Try.ntmps19
  go_wp2_with fail
  obtain ⟨m0, m1, hK, hsz⟩ := alloc2 (w := w) #[.int .i64 k, .int .i64 p, .int .i64 q] #[.int .u64 T, .slice Ah H.length ch, .bool CL, .slice Al M.length cl] 23 92
  generalize (w.alloc (.cells #[.int .i64 k, .int .i64 p, .int .i64 q] 23)).alloc (.cells #[.int .u64 T, .slice Ah H.length ch, .bool CL, .slice Al M.length cl] 92) = W at m0 m1 hK ⊢
  have hgw : w.heap.size = w.heap.size := rfl
  generalize w.heap.size = g0 at m0 m1 ⊢
  refine awake13.mono ?_
  rintro e w1 ⟨rfl, hk⟩
  replace m0 := bk_kp m0 hk (fun x => x)
  replace m1 := bk_kp m1 hk (fun x => x)
  replace hK := hK.trans hk
  clear hk
  have b1 : decide ((100 : Int) < (O.length : Int)) = false := decide_eq_false (by omega)
  have b2 : decide ((70 : Int) < (M.length : Int)) = false := decide_eq_false (by omega)
  have b3 : decide ((20 : Int) < (H.length : Int)) = false := decide_eq_false (by omega)
  have e1 := bk_cell m1 1
  have e3 := bk_cell m1 3
  have HN := As.mk (And.intro hn1 (And.intro hn2 hn3))
  have HHW := As.mk hHw
  have HMW := As.mk hwf
  have HOK := As.mk hok
  have HT0 := As.mk hT0
  have HRD := As.mk (And.intro hH (And.intro hM hrd))
  have K1 := As.mk hK.drew
  have M1 := As.mk (And.intro (st_drew m0) (st_drew m1))
  clear hn1 hn2 hn3 hHw hwf hok hT0 hH hM hrd hK m0 m1 hsz
  go_upto_region 3 with fail
  clear e1 e3 b1 b2 b3
  have d0 := bk_cell M1.out.1 0
  have d1 := bk_cell M1.out.1 1
  have d2 := bk_cell M1.out.1 2
  have d3 := bk_cell M1.out.2 0
  have d4 := bk_cell M1.out.2 1
  have d5 := bk_cell M1.out.2 2
  have d6 := bk_cell M1.out.2 3
  go_region_held3 (fun w' => w'.cell? ⟨g0, 0, none⟩ = some (.int .i64 k) ∧ w'.cell? ⟨g0, 1, none⟩ = some (.int .i64 p) ∧ w'.cell? ⟨g0, 2, none⟩ = some (.int .i64 q) ∧ w'.cell? ⟨g0 + 1, 0, none⟩ = some (.int .u64 T) ∧ w'.cell? ⟨g0 + 1, 1, none⟩ = some (.slice Ah H.length ch) ∧ w'.cell? ⟨g0 + 1, 2, none⟩ = some (.bool CL) ∧ w'.cell? ⟨g0 + 1, 3, none⟩ = some (.slice Al M.length cl)) (first | (with_reducible exact ⟨d0, d1, d2, d3, d4, d5, d6⟩) | (with_reducible exact ⟨f0, f1, f2, f3, f4, f5, f6⟩) | (with_reducible exact ⟨i0, i1, i2, i3, i4, i5, i6⟩) | (with_reducible exact ⟨j0, j1, j2, j3, j4, j5, j6⟩) | go_keep)
    (first
      | (go_at_call 61; refine (ROf_any k p q T CL H M (HRD.out.1.kp K1.out (fun _ _ x => x)) (HRD.out.2.1.kp K1.out (fun _ _ x => x)) HN.out.2.2 HN.out.2.1).mono ?_; rintro e w2 ⟨vh2, vl2, rfl, o1, o2, k2⟩; have M2 := As.mk (And.intro (bk_kp M1.out.1 k2 (fun x => x)) (bk_kp M1.out.2 k2 (fun x => x))); have f0 := bk_cell M2.out.1 0; have f1 := bk_cell M2.out.1 1; have f2 := bk_cell M2.out.1 2; have f3 := bk_cell M2.out.2 0; have f4 := bk_cell M2.out.2 1; have f5 := bk_cell M2.out.2 2; have f6 := bk_cell M2.out.2 3; have K2 := As.mk (K1.out.trans k2); have O2 := As.mk (And.intro o1 o2); clear o1 o2 k2; clear d0 d1 d2 d3 d4 d5 d6)
      | (go_at_call 60; refine (RState_gen _ _ T CL H M (Rd.of_own O2.out.1) (Rd.of_own O2.out.2) HN.out.2.2 HN.out.2.1).mono ?_; rintro e w3 ⟨vh3, vl3, rfl, o1, o2, k3⟩; have M3 := As.mk (And.intro (bk_kp M2.out.1 k3 (fun x => x)) (bk_kp M2.out.2 k3 (fun x => x))); have i0 := bk_cell M3.out.1 0; have i1 := bk_cell M3.out.1 1; have i2 := bk_cell M3.out.1 2; have i3 := bk_cell M3.out.2 0; have i4 := bk_cell M3.out.2 1; have i5 := bk_cell M3.out.2 2; have i6 := bk_cell M3.out.2 3; have K3 := As.mk (K2.out.trans k3); have O3 := As.mk (And.intro o1 o2); clear o1 o2 k3; clear f0 f1 f2 f3 f4 f5 f6)
      | (go_at_call 56; refine (RLoad_good k p q T CL H M HMW.out (Rd.of_own O3.out.1) HHW.out (Rd.of_own O3.out.2) HT0.out HB.out).mono ?_; rintro e w4 ⟨B, rfl, hr, hn, k4⟩; have M4 := As.mk (And.intro (bk_kp M3.out.1 k4 (fun x => x)) (bk_kp M3.out.2 k4 (fun x => x))); have j0 := bk_cell M4.out.1 0; have j1 := bk_cell M4.out.1 1; have j2 := bk_cell M4.out.1 2; have j3 := bk_cell M4.out.2 0; have j4 := bk_cell M4.out.2 1; have j5 := bk_cell M4.out.2 2; have j6 := bk_cell M4.out.2 3; have K4 := As.mk (K3.out.trans k4); have R4 := As.mk hr; have N4 := As.mk (show ∀ i, B.own i → w.heap.size ≤ i ∧ g0 + 1 < i from fun i hi => ⟨by have := hn i hi; have := K3.out.size; omega, by have := hn i hi; have := bk_lt M3.out.2; omega⟩); clear k4 hr hn; clear i0 i1 i2 i3 i4 i5 i6))
  go_wp2_with fail
  refine (RMay_any k p q).mono ?_
  rintro e w5 ⟨rfl, k5⟩
  rw [HM.out]
  have K5 := As.mk (K4.out.trans k5)
  have M5 := As.mk (And.intro (bk_kp M4.out.1 k5 (fun x => x)) (bk_kp M4.out.2 k5 (fun x => x)))
  clear j0 j1 j2 j3 j4 j5 j6
  have d0 := bk_cell M5.out.1 0
  have d1 := bk_cell M5.out.1 1
  have d2 := bk_cell M5.out.1 2
  have d3 := bk_cell M5.out.2 0
  have d4 := bk_cell M5.out.2 1
  have d5 := bk_cell M5.out.2 2
  have d6 := bk_cell M5.out.2 3
  have R5 := As.mk (R4.out.kp k5 (fun _ _ x => x))
  clear k5
  go_wp2_with fail
  refine (RLoads_any k p q HP.out.1 HP.out.2.1 HP.out.2.2.1 HP.out.2.2.2 T CL H M HT0.out HMW.out (HRD.out.1.kp K5.out (fun _ _ x => x)) HHW.out (HRD.out.2.1.kp K5.out (fun _ _ x => x))).mono ?_
  rintro e w6 ⟨rfl, k6⟩
  rw [HB2.out]
  have K6 := As.mk ((K5.out.trans k6).drew)
  have M6 := As.mk (And.intro (st_drew (bk_kp M5.out.1 k6 (fun x => x))) (st_drew (bk_kp M5.out.2 k6 (fun x => x))))
  have R6 := As.mk ((R5.out.kp k6 (fun _ _ x => x)).qd (QD.drew _))
  clear k6
  clear d0 d1 d2 d3 d4 d5 d6
  go_upto_region 8 with fail
  have d0 := bk_cell M6.out.1 0
  have d1 := bk_cell M6.out.1 1
  have d2 := bk_cell M6.out.1 2
  have d3 := bk_cell M6.out.2 0
  have d4 := bk_cell M6.out.2 1
  have d5 := bk_cell M6.out.2 2
  have d6 := bk_cell M6.out.2 3
  go_region_held3 (fun w' => w'.cell? ⟨g0, 0, none⟩ = some (.int .i64 k) ∧ w'.cell? ⟨g0, 1, none⟩ = some (.int .i64 p) ∧ w'.cell? ⟨g0, 2, none⟩ = some (.int .i64 q) ∧ w'.cell? ⟨g0 + 1, 0, none⟩ = some (.int .u64 T) ∧ w'.cell? ⟨g0 + 1, 1, none⟩ = some (.slice Ah H.length ch) ∧ w'.cell? ⟨g0 + 1, 2, none⟩ = some (.bool CL) ∧ w'.cell? ⟨g0 + 1, 3, none⟩ = some (.slice Al M.length cl)) (first | (with_reducible exact ⟨d0, d1, d2, d3, d4, d5, d6⟩) | (with_reducible exact ⟨f0, f1, f2, f3, f4, f5, f6⟩) | (with_reducible exact ⟨i0, i1, i2, i3, i4, i5, i6⟩) | (with_reducible exact ⟨j0, j1, j2, j3, j4, j5, j6⟩) | (with_reducible exact ⟨l0, l1, l2, l3, l4, l5, l6⟩) | go_keep)
    (first
      | (go_at_call 49; refine (State_any R6.out).mono ?_; rintro e w7 ⟨u1, u2, rfl, o1, o2, k7⟩; have M7 := As.mk (And.intro (bk_kp M6.out.1 k7 (fun x => x)) (bk_kp M6.out.2 k7 (fun x => x))); have f0 := bk_cell M7.out.1 0; have f1 := bk_cell M7.out.1 1; have f2 := bk_cell M7.out.1 2; have f3 := bk_cell M7.out.2 0; have f4 := bk_cell M7.out.2 1; have f5 := bk_cell M7.out.2 2; have f6 := bk_cell M7.out.2 3; have K7 := As.mk (K6.out.trans k7); have R7 := As.mk (R6.out.kp k7 (fun _ _ x => x)); have O7 := As.mk (And.intro o1 o2); clear o1 o2 k7; clear d0 d1 d2 d3 d4 d5 d6)
      | (go_at_call 57; refine (RSame13 (r := ⟨T, H, CL, M⟩) (Rd.of_own O7.out.1) (Rd.of_own O7.out.2) (HRD.out.1.kp K7.out (fun _ _ x => x)) (HRD.out.2.1.kp K7.out (fun _ _ x => x)) R7.out.s.hR0 R7.out.s.hR R7.out.s.pos R7.out.s.le).mono ?_; rintro e w8 ⟨rfl, k8⟩; have M8 := As.mk (And.intro (bk_kp M7.out.1 k8 (fun x => x)) (bk_kp M7.out.2 k8 (fun x => x))); have i0 := bk_cell M8.out.1 0; have i1 := bk_cell M8.out.1 1; have i2 := bk_cell M8.out.1 2; have i3 := bk_cell M8.out.2 0; have i4 := bk_cell M8.out.2 1; have i5 := bk_cell M8.out.2 2; have i6 := bk_cell M8.out.2 3; have K8 := As.mk (K7.out.trans k8); have R8 := As.mk (R7.out.kp k8 (fun _ _ x => x)); clear k8; clear f0 f1 f2 f3 f4 f5 f6)
      | (go_at_call 61; refine (ROf_rg k T p q HP.out.2.1 CL H M (HRD.out.1.kp K8.out (fun _ _ x => x)) (HRD.out.2.1.kp K8.out (fun _ _ x => x)) HN.out.2.2 HN.out.2.1 HE.out.1 HE.out.2.1 B.own R8.out.glt).mono ?_; rintro e w9 ⟨vv, rfl, hg, k9⟩; have M9 := As.mk (And.intro (bk_kp M8.out.1 k9 (fun x => x)) (bk_kp M8.out.2 k9 (fun x => x))); have j0 := bk_cell M9.out.1 0; have j1 := bk_cell M9.out.1 1; have j2 := bk_cell M9.out.1 2; have j3 := bk_cell M9.out.2 0; have j4 := bk_cell M9.out.2 1; have j5 := bk_cell M9.out.2 2; have j6 := bk_cell M9.out.2 3; have K9 := As.mk (K8.out.trans k9); have R9 := As.mk (R8.out.kp k9 (fun _ _ x => x)); have G9 := As.mk hg; clear k9 hg; clear i0 i1 i2 i3 i4 i5 i6)
      | (go_at_call 58; refine (plays13_any (w0 := w) R9.out (fun i hi => (N4.out i hi).1) K9.out G9.out HE.out.2.2 O (by have := HN.out; omega) HOK.out HRD.out.2.2).mono ?_; rintro e wa ⟨rfl, ka⟩; have MA := As.mk (And.intro (bk_kp M9.out.1 ka (fun x => by have := (N4.out _ x).2; omega)) (bk_kp M9.out.2 ka (fun x => by have := (N4.out _ x).2; omega))); have l0 := bk_cell MA.out.1 0; have l1 := bk_cell MA.out.1 1; have l2 := bk_cell MA.out.1 2; have l3 := bk_cell MA.out.2 0; have l4 := bk_cell MA.out.2 1; have l5 := bk_cell MA.out.2 2; have l6 := bk_cell MA.out.2 3; have KA := As.mk (K9.out.new ka (fun i hi => (N4.out i hi).1)); clear ka; clear j0 j1 j2 j3 j4 j5 j6))
  go_wp2
  go_ret
  exact ⟨rfl, KA.out⟩
theorem RingLoads_calls {v0 v1 v2 : Value} (ho : ∃ o : Rc, v0 = .agg o.vals.toArray ∧ o.ok) (hst : StIn w v1) (hs : ∃ O : List O12, Rd w v2 O.length (oCells O) ∧ ∀ o ∈ O, o.ok) : Calls Try.prog 19 #[v0, v1, v2] w fun e w' => e = .returned (.bool true) ∧ Kp no w w' := by
  obtain ⟨⟨k, c, R⟩, rfl, -⟩ := ho
  obtain ⟨T, vh, CL, vl, H, M, rfl, hT, hH, hHw, hM, hMw⟩ := hst
  obtain ⟨O, hrd, hok⟩ := hs
  obtain ⟨A, cap, rfl, -⟩ := id hrd
  obtain ⟨Ah, ch, rfl, -⟩ := id hH
  obtain ⟨Al, cl, rfl, -⟩ := id hM
  have hwf : ∀ x ∈ M, 0 ≤ x.st ∧ x.st < 18446744073709551616 := fun x hx => (hMw x hx).1
  change Calls Try.prog 19 #[.agg #[.int .i64 k, .int .i64 c, .int .i64 R], _, _] w _
  by_cases hbad : 100 < O.length ∨ 70 < M.length ∨ 20 < H.length
  · exact RLoads_long O H M T CL hT.1 hH hHw hM hwf hrd hok k c R hbad
  · cases hm : rMay k c R with
    | false => exact RLoads_arg O H M T CL hT.1 hH hHw hM hwf hrd hok k c R (by omega) (by omega) (by omega) hm
    | true =>
      obtain ⟨p, q, rfl, rfl, hp1, hp2, hq1, hq2⟩ := rMay_nat hm
      cases hb : rLoadsB k p q T H M with
      | false => exact RLoads_form O H M T CL hT.1 hH hHw hM hwf hrd hok k p q (by omega) (by omega) (by omega) hm hb hp1 hp2 hq1 hq2
      | true =>
        have h2 := (loads13_eq hm T H M).symm.trans hb
        unfold loads13 at h2
        simp only [Bool.and_eq_true] at h2
        have hq : H.length = q := by have := beq_iff_eq.1 h2.1; omega
        have hl := h2.2.2.1
        unfold loadB at hl
        rw [Bool.and_eq_true] at hl
        have hp : M.length = p := by have := beq_iff_eq.1 hl.1; omega
        exact RLoads_good O H M T CL hT.1 hH hHw hM hwf hrd hok k p q (by omega) (by omega) (by omega) hm hb hp1 hp2 hq1 hq2 hq hp (of_decide_eq_true h2.2.1)
end Go.Proofs.Ytmejnhfggmmefaa.H
