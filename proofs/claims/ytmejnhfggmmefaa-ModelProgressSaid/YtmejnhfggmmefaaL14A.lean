/- Layer 14's statements: two lists of numbers are the same; awake, in whatever world, is true; ModelNil. No condition. -/
import Derived.Test.YtmejnhfggmmefaaMdC
namespace Go.Proofs.Ytmejnhfggmmefaa.H
open Go.RowKit
set_option linter.unusedVariables false
set_option linter.unusedSimpArgs false
variable {w : World}

theorem take_eq_step {l m : List Int} {k : Nat} (h : l.take k = m.take k) (hl : k < l.length) (hm : k < m.length) (he : l.getD k 0 = m.getD k 0) : l.take (k + 1) = m.take (k + 1) := by
  rw [List.take_succ_eq_append_getElem hl, List.take_succ_eq_append_getElem hm, h]
  simp [List.getD, hl, hm] at he
  rw [he]
theorem ne_at {l m : List Int} {k : Nat} (he : ¬ l.getD k 0 = m.getD k 0) : decide (l = m) = false := by
  rw [decide_eq_false_iff_not]; rintro rfl; exact he rfl
set_option maxRecDepth 100000 in
set_option maxHeartbeats 3200000 in
theorem SameU_any {v1 v2 : Value} {l m : List Int} (h1 : Rd w v1 l.length (u64s l)) (h2 : Rd w v2 m.length (u64s m)) : Calls Try.prog 30 #[v1, v2] w fun e w' => e = .returned (.bool (decide (l = m))) ∧ QD w w' := by
  have hfull : ∀ a : List Int, a.length = a.length := fun _ => rfl
  by_cases hn : l.length = m.length
  · by_cases h0 : l.length = 0
    · have hl : l = [] := List.eq_nil_of_length_eq_zero h0
      have hm : m = [] := List.eq_nil_of_length_eq_zero (by omega)
      subst hl; subst hm
      obtain ⟨A1, c1, rfl, _⟩ := h1
      obtain ⟨A2, c2, rfl, _⟩ := h2
      clear hn h0 hfull
      go_enter Try.func30, Try.ntmps30
      go_wp2
      go_loopw [5] (fun v5 wr => v5 = .int .i64 0 ∧ QD w wr) (fun v5 _ => 0)
      case atStart => exact ⟨rfl, QD.refl _⟩
      case round =>
        obtain ⟨rfl, hq⟩ := hrel
        go_wp2
        go_ret
        exact ⟨rfl, hq⟩
    · have hx1 : 0 < (u64s l).length := by simp [u64s]; omega
      have hx2 : 0 < (u64s m).length := by simp [u64s]; omega
      obtain ⟨ab, ao, c, rfl, _, hc2, hc⟩ := h1.form hx1
      obtain ⟨ab', ao', c', rfl, _, _, hc'⟩ := h2.form hx2
      have hmx : l.length ≤ 9223372036854775807 := by unfold maxLen at hc2; omega
      have HC := As.mk (And.intro hc hc')
      have HN := As.mk hn
      clear hc hc' h1 h2 hx1 hx2 hfull h0 hc2
      rw [← HN.out]
      clear hn
      go_enter Try.func30, Try.ntmps30
      go_wp2
      go_loopw [5] (fun v5 wr => ∃ k : Nat, k ≤ l.length ∧ v5 = .int .i64 k ∧ As (l.take k = m.take k) ∧ QD w wr) (fun v5 _ => l.length - (intOf v5).toNat)
      case atStart => exact ⟨0, Nat.zero_le _, rfl, ⟨rfl⟩, QD.refl _⟩
      case round =>
        obtain ⟨k, hk, rfl, ht, hq⟩ := hrel
        by_cases hlt : k < l.length
        · obtain ⟨n, rfl⟩ := hq
          have hc0 : (w.drewN n).cell? _ = _ := HC.out.1 _ _ (u64s_get l k hlt)
          have hc1 : (w.drewN n).cell? _ = _ := HC.out.2 _ _ (u64s_get m k (by have := HN.out; omega))
          have HQ := As.mk (QD.n w n)
          generalize w.drewN n = W at hc0 hc1 HQ ⊢
          by_cases he : l.getD k 0 = m.getD k 0
          · have HS := As.mk (take_eq_step ht.out hlt (by have := HN.out; omega) he)
            rw [← he] at hc1
            generalize l.getD k 0 = x at hc0 hc1
            clear he
            go_wp2
            go_quiet (fail)
            go_wp2
            exact ⟨⟨k + 1, by omega, by go_num, HS, HQ.out.trans (QD.n _ _)⟩, by simp [intOf]; omega⟩
          · have HD := As.mk (ne_at he)
            have hne : (l.getD k 0 != m.getD k 0) = true := by simpa using he
            generalize l.getD k 0 = x at hc0 hne
            generalize m.getD k 0 = y at hc1 hne
            clear he
            go_wp2
            go_quiet (fail)
            go_wp2
            go_ret
            rw [HD.out]
            exact ⟨rfl, HQ.out.trans (QD.n _ _)⟩
        · have hkl : k = l.length := by omega
          subst hkl
          have HD : decide (l = m) = true := by
            have := ht.out
            rw [List.take_of_length_le (Nat.le_refl _), List.take_of_length_le (by have := HN.out; omega)] at this
            exact decide_eq_true this
          have HDA := As.mk HD
          clear HD
          go_wp2
          go_ret
          rw [HDA.out]
          exact ⟨rfl, hq⟩
  · obtain ⟨A1, c1, rfl, _⟩ := h1
    obtain ⟨A2, c2, rfl, _⟩ := h2
    have HD : decide (l = m) = false := by rw [decide_eq_false_iff_not]; rintro rfl; exact hn rfl
    rw [HD]
    have hne : ((l.length : Int) != (m.length : Int)) = true := by simp; omega
    clear hn HD hfull
    go_enter Try.func30, Try.ntmps30
    go_wp2
    go_ret
    exact ⟨rfl, QD.refl _⟩

theorem Rd.lit {w : World} (cs : Array Value) (T : TypeId) (n : Nat) (hn : cs.size = n) (h : n ≤ 1000) : Rd (w.alloc (.cells cs T)) (.slice (some ⟨w.heap.size, 0, none⟩) n n) n cs.toList := by
  refine ⟨_, n, rfl, Nat.le_refl _, by unfold maxLen; omega, (fun h => by cases h), fun ad e j u hj => ?_⟩
  cases e
  rw [add_none, Nat.zero_add, bk_cell (heap_alloc_new w (.cells cs T)) j]
  rw [← hj]; simp

def awm0 : Md := ⟨(1 : Nat), [], List.replicate 1 0, false⟩
def awm1 : Md := ⟨1, [7], [0], false⟩
def awm2 : Md := ⟨1, [7], [1], false⟩
theorem awm_p1 : mPut awm0 7 = (0, 0, awm1) := by rfl
theorem awm_p2 : mPut awm1 8 = (0, 8, awm1) := by rfl
theorem awm_r : mRest awm1 0 = [7] := by rfl
theorem awm_g1 : mGet awm1 0 = (7, 0, awm2) := by rfl
theorem awm_g2 : mGet awm2 0 = (0, 9, awm2) := by rfl
theorem awm_g3 : mGet { awm2 with closed := true } 0 = (0, 10, { awm2 with closed := true }) := by rfl
theorem awm_g4 : mGet { awm2 with closed := true } 1 = (0, 1, { awm2 with closed := true }) := by rfl
/-- A log that was made behind a world; what was there is as it was. -/
structure MdNew (w0 w : World) (B : MB) (m : Md) : Prop where
  i : MdIn w B m
  n : ∀ k, B.own k → w0.heap.size ≤ k
  K : Kp no w0 w
theorem MdNew.kp {w0 w w' : World} {B : MB} {m : Md} (h : MdNew w0 w B m) (k : Kp no w w') : MdNew w0 w' B m := ⟨h.i.kp k (fun _ _ x => x), h.n, h.K.trans k⟩
theorem MdNew.qd {w0 w w' : World} {B : MB} {m : Md} (h : MdNew w0 w B m) (k : QD w w') : MdNew w0 w' B m := h.kp (Kp.of_qd k)
def MPutN (w0 w : World) (B : MB) (x : Int × Int × Md) (e : Ending) (w' : World) : Prop :=
  ∃ B', e = .returned (.tuple #[.int .u64 x.1, .int .i64 x.2.1]) ∧ B.g = B'.g ∧ MdNew w0 w' B' x.2.2 ∧ (∀ k, B'.own k → B.own k ∨ w.heap.size ≤ k) ∧ Kp B.own w w'
theorem MPut_new {w0 w : World} {B : MB} {m : Md} (h : MdNew w0 w B m) (hb : m.l.length < 1000000) (v : Int) : Calls Try.prog 25 #[.pointer (some ⟨B.g, 0, none⟩), .int .u64 v] w fun e w' => MPutN w0 w B (mPut m v) e w' := by
  refine (MPut_any h.i hb v).mono ?_
  rintro e w' ⟨B', rfl, h1, h2, h3, h4⟩
  have hs := h.K.size
  exact ⟨B', rfl, h2.symm, ⟨h1, fun k hk => (h3 k hk).elim (h.n k) (fun h => by omega), h.K.new h4 h.n⟩, h3, h4⟩
theorem MGet_new {w0 w : World} {B : MB} {m : Md} (h : MdNew w0 w B m) (j : Int) : Calls Try.prog 27 #[.pointer (some ⟨B.g, 0, none⟩), .int .i64 j] w fun e w' => e = .returned (.tuple #[.int .u64 (mGet m j).1, .int .i64 (mGet m j).2.1]) ∧ MdNew w0 w' B (mGet m j).2.2 ∧ Kp B.own w w' := by
  refine (MGet_any h.i j).mono ?_
  rintro e w' ⟨rfl, h1, h2⟩
  exact ⟨rfl, ⟨h1, h.n, h.K.new h2 h.n⟩, h2⟩
theorem MClose_new {w0 w : World} {B : MB} {m : Md} (h : MdNew w0 w B m) : Calls Try.prog 29 #[.pointer (some ⟨B.g, 0, none⟩)] w fun e w' => e = .returned (.int .i64 0) ∧ MdNew w0 w' B { m with closed := true } ∧ Kp B.own w w' := by
  refine (MClose_any h.i).mono ?_
  rintro e w' ⟨rfl, h1, h2⟩
  exact ⟨rfl, ⟨h1, h.n, h.K.new h2 h.n⟩, h2⟩
theorem MNew_new {w0 w : World} (k : Int) (p q : Nat) (h : rMay k p q = true) (hK : Kp no w0 w) : Calls Try.prog 22 #[.agg #[.int .i64 k, .int .i64 p, .int .i64 q]] w fun e w' => ∃ B, e = .returned (.tuple #[.pointer (some ⟨B.g, 0, none⟩), .int .i64 0]) ∧ MdNew w0 w' B ⟨p, [], List.replicate q 0, false⟩ ∧ (∀ i, B.own i → w.heap.size ≤ i) ∧ Kp no w w' := by
  refine (MNew_ok k p q h).mono ?_
  rintro e w' ⟨B, rfl, h1, h2, h3⟩
  have hs := hK.size
  exact ⟨B, rfl, ⟨h1, fun i hi => by have := h2 i hi; omega, hK.trans h3⟩, h2, h3⟩
set_option maxRecDepth 100000 in
set_option maxHeartbeats 6400000 in
theorem awake14 : Calls Try.prog 21 #[] w fun e w' => e = .returned (.bool true) ∧ Kp no w w' := by
  go_enter Try.func21, Try.ntmps21
  go_wp2_with fail
  refine (MNew_new 1 1 1 (by rfl) (Kp.refl no w)).mono ?_
  rintro e w1 ⟨B, rfl, hM, -, -⟩
  change MdNew w w1 B awm0 at hM
  go_wp2_with fail
  refine (MNew_no 0 0 0 (by rfl)).mono ?_
  rintro e w2 ⟨rfl, hk⟩
  replace hM := hM.kp hk
  clear hk
  go_wp2_with fail
  refine (MPut_new hM (by decide) 7).mono ?_
  rintro e w3 hp
  rw [awm_p1] at hp
  obtain ⟨B1, rfl, hg, hM1, -, -⟩ := hp
  rw [hg]
  clear hM hg
  go_wp2_with fail
  refine (MPut_new hM1 (by decide) 8).mono ?_
  rintro e w4 hp
  rw [awm_p2] at hp
  obtain ⟨B2, rfl, hg, hM2, -, -⟩ := hp
  rw [hg]
  clear hM1 hg
  go_wp2_with fail
  refine (MRest_any hM2.i 0).mono ?_
  rintro e w5 ⟨v, rfl, hown, hk⟩
  rw [awm_r] at hown
  have hlt := hM2.i.lt
  replace hM2 := hM2.kp hk
  have hrd := Rd.of_own hown
  have hfar : ∀ b, v.ownBlock = some b → ¬ B2.own b := fun b hb hb2 => by have h1 := (hown.lt b hb).1; have h2 := hlt b hb2; omega
  clear hk hown hlt
  go_wp2_with fail
  refine (MGet_new hM2 0).mono ?_
  rw [awm_g1]
  rintro e w6 ⟨rfl, hM3, hk⟩
  replace hrd := hrd.kp hk hfar
  clear hk hM2
  go_wp2_with fail
  refine (MGet_new hM3 0).mono ?_
  rw [awm_g2]
  rintro e w7 ⟨rfl, hM4, hk⟩
  replace hrd := hrd.kp hk hfar
  clear hk hM3
  go_wp2_with fail
  refine (MClose_new hM4).mono ?_
  rintro e w8 ⟨rfl, hM5, hk⟩
  replace hrd := hrd.kp hk hfar
  clear hk hM4
  go_wp2_with fail
  refine (MGet_new hM5 0).mono ?_
  rw [awm_g3]
  rintro e w9 ⟨rfl, hM6, hk⟩
  replace hrd := hrd.kp hk hfar
  clear hk hM5
  go_wp2_with fail
  refine (MGet_new hM6 1).mono ?_
  rw [awm_g4]
  rintro e w10 ⟨rfl, hM7, hk⟩
  replace hrd := hrd.kp hk hfar
  have hK := hM7.K
  clear hk hM6 hM7 hfar
  go_wp2_with fail
  refine (SameU_any (l := [7]) (m := [7]) (hrd.kp ((Kp.refl no _).alloc _) (fun _ _ x => x)) (Rd.lit #[.int .u64 7] _ 1 rfl (by decide))).mono ?_
  rintro e w11 ⟨rfl, hq⟩
  have hK2 := (hK.alloc (.cells #[.int .u64 7] 36)).qd hq
  rw [show decide (([7] : List Int) = [7]) = true from by decide]
  clear hK hq hrd
  go_wp2
  go_ret
  exact ⟨rfl, hK2⟩
set_option maxRecDepth 100000 in
set_option maxHeartbeats 3200000 in
theorem ModelNil_calls (v : Int) (wv : (Lit.int .u64 v).wf = true) (j : Int) (wj : (Lit.int .i64 j).wf = true) : Calls Try.prog 6 #[.int .u64 v, .int .i64 j] w fun e w' => e = .returned (.bool true) ∧ Kp no w w' := by
  go_enter Try.func6, Try.ntmps6
  go_wp2_with fail
  refine MPut_nil.mono ?_
  rintro e w1 ⟨rfl, hq⟩
  have hK := Kp.of_qd (S := no) hq
  clear hq
  go_wp2_with fail
  refine MGet_nil.mono ?_
  rintro e w2 ⟨rfl, hq⟩
  replace hK := hK.qd hq
  clear hq
  go_wp2_with fail
  refine awake14.mono ?_
  rintro e w3 ⟨rfl, hk⟩
  replace hK := hK.trans hk
  clear hk
  go_wp2_with fail
  refine MClose_nil.mono ?_
  rintro e w4 ⟨rfl, hq⟩
  replace hK := hK.qd hq
  clear hq
  go_wp2_with fail
  refine MRest_nil.mono ?_
  rintro e w5 ⟨rfl, hq⟩
  replace hK := hK.qd hq
  clear hq
  go_wp2
  go_ret
  exact ⟨rfl, hK⟩
end Go.Proofs.Ytmejnhfggmmefaa.H
