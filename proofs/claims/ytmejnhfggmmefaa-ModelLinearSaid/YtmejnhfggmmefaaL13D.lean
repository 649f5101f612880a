/- Layer 13: what a call of a script comes to; RingCounts: tickets are claimed one by one, and taken by each reader one by one. No condition. -/
import Derived.Test.YtmejnhfggmmefaaL13C
namespace Go.Proofs.Ytmejnhfggmmefaa.H
open Go.RowKit
set_option linter.unusedVariables false
set_option linter.unusedSimpArgs false
variable {w : World}


/-- What a call may come to. -/
structure DoTells (r : Rg) (o : O12) (x e : Int) (r' : Rg) : Prop where
  k0 : kd o = 0 → (e = 0 ∧ x = r.tail ∧ r.closed = false ∧ rFull r = false ∧ r' = { r with tail := r.tail + 1 }) ∨ (e ≠ 0 ∧ r' = r)
  k1 : kd o = 1 → ∃ L, r' = { r with L := L } ∧ L.length = r.L.length
  k2 : kd o = 2 → (e = 0 ∧ rIs r o.j = true ∧ x = rHead r o.j ∧ x ≠ r.tail ∧ r' = { r with heads := r.heads.set o.j.toNat (x + 1) }) ∨ (e ≠ 0 ∧ r' = r)
  k3 : kd o = 3 → ∃ L, r' = { r with L := L } ∧ L.length = r.L.length
  k4 : kd o = 4 → r' = { r with closed := true }
theorem rDo_tells (r : Rg) (o : O12) : DoTells r o (rDo r o).1 (rDo r o).2.1 (rDo r o).2.2 where
  k0 := fun h => by
    unfold rDo; rw [if_pos h]; unfold rClaim
    cases hc : r.closed with
    | true => right; rw [if_pos rfl]; exact ⟨by show (10 : Int) ≠ 0; decide, rfl⟩
    | false =>
      rw [if_neg (by decide)]
      cases hf : rFull r with
      | true => right; rw [if_pos rfl]; exact ⟨by show (8 : Int) ≠ 0; decide, rfl⟩
      | false => left; rw [if_neg (by decide)]; exact ⟨rfl, rfl, rfl, rfl, rfl⟩
  k1 := fun h => by
    unfold rDo; rw [if_neg (by omega), if_pos h]; unfold rPublish
    split
    · exact ⟨r.L, rfl, rfl⟩
    · exact ⟨_, rfl, sPut_len _ _ _ _⟩
  k2 := fun h => by
    unfold rDo; rw [if_neg (by omega), if_neg (by omega), if_pos h]; unfold rTake
    cases hj : rIs r o.j with
    | false => right; rw [if_neg (by decide)]; exact ⟨by show (1 : Int) ≠ 0; decide, rfl⟩
    | true =>
      rw [if_pos rfl]
      by_cases he : rHead r o.j = r.tail
      · right; rw [if_pos he]; exact ⟨by show (if r.closed = true then (10 : Int) else 9) ≠ 0; split <;> decide, rfl⟩
      · left; rw [if_neg he]; exact ⟨rfl, rfl, rfl, he, rfl⟩
  k3 := fun h => by
    unfold rDo; rw [if_neg (by omega), if_neg (by omega), if_neg (by omega), if_pos h]; unfold rRelease
    split
    · split
      · exact ⟨r.L, rfl, rfl⟩
      · exact ⟨_, rfl, sGet_len _ _ _ _⟩
    · exact ⟨r.L, rfl, rfl⟩
  k4 := fun h => by
    unfold rDo; rw [if_neg (by omega), if_neg (by omega), if_neg (by omega), if_neg (by omega)]
/-- What always holds of a ring's counts. -/
structure RInv (p q i : Nat) (r : Rg) : Prop where
  hl : r.heads.length = q
  Ll : r.L.length = p
  ti : 0 ≤ r.tail ∧ r.tail ≤ i
  h0 : ∀ h ∈ r.heads, 0 ≤ h ∧ h ≤ r.tail ∧ r.tail - h ≤ p
theorem RInv.new (p q : Nat) : RInv p q 0 ⟨0, List.replicate q 0, false, sNew p⟩ :=
  ⟨by simp, by simp [sNew], ⟨Int.le_refl _, by simp⟩, fun h hh => by rw [(List.mem_replicate.1 hh).2]; dsimp only; omega⟩
theorem RInv.step {p q i : Nat} {r : Rg} (h : RInv p q i r) (o : O12) : RInv p q (i + 1) (rDo r o).2.2 := by
  have hT := rDo_tells r o
  generalize (rDo r o).2.2 = r' at hT
  generalize (rDo r o).2.1 = e at hT
  generalize (rDo r o).1 = x at hT
  have same : RInv p q (i + 1) r := ⟨h.hl, h.Ll, by have := h.ti; omega, h.h0⟩
  have hk := kd_le o
  rcases (show kd o = 0 ∨ kd o = 1 ∨ kd o = 2 ∨ kd o = 3 ∨ kd o = 4 by omega) with hk | hk | hk | hk | hk
  · rcases hT.k0 hk with ⟨-, -, -, hf, rfl⟩ | ⟨-, rfl⟩
    · refine ⟨h.hl, h.Ll, by have := h.ti; dsimp only; omega, fun y hy => ?_⟩
      have h1 := h.h0 y hy
      have h2 : leastL r.heads ≤ y := leastL_le hy
      have h3 : r.tail - leastL r.heads < r.L.length := by
        unfold rFull at hf; rw [decide_eq_false_iff_not] at hf; omega
      rw [h.Ll] at h3
      dsimp only
      omega
    · exact same
  · obtain ⟨L, rfl, hL⟩ := hT.k1 hk
    exact ⟨same.hl, hL.trans same.Ll, same.ti, same.h0⟩
  · rcases hT.k2 hk with ⟨-, hj, hx, hne, rfl⟩ | ⟨-, rfl⟩
    · refine ⟨by simpa using h.hl, h.Ll, same.ti, fun y hy => ?_⟩
      rcases List.mem_or_eq_of_mem_set hy with hy | rfl
      · exact h.h0 y hy
      · have hj2 : (0 : Int) ≤ o.j ∧ o.j < (r.heads.length : Int) := by simpa [rIs] using hj
        have hm : rHead r o.j ∈ r.heads := by
          unfold rHead
          have hlt : o.j.toNat < r.heads.length := by omega
          rw [List.getD_eq_getElem?_getD, List.getElem?_eq_getElem hlt]
          exact List.getElem_mem hlt
        have := h.h0 _ hm
        rw [← hx] at this
        dsimp only
        omega
    · exact same
  · obtain ⟨L, rfl, hL⟩ := hT.k3 hk
    exact ⟨same.hl, hL.trans same.Ll, same.ti, same.h0⟩
  · have := hT.k4 hk
    subst this
    exact ⟨same.hl, same.Ll, same.ti, same.h0⟩
/-- What holds in a round. -/
structure C13 (W wr : World) (B : RB) (r : Rg) (p q hb i : Nat) : Prop where
  R : RgNew W wr B r
  I : RInv p q i r
  hd : wr.ownsRow W.heap.size 36 1 (.slice (some ⟨hb, 0, none⟩) q q) q (u64s r.heads)
  n : ¬ B.own hb
theorem C13.kp {W w w' : World} {B : RB} {r : Rg} {p q hb i : Nat} (h : C13 W w B r p q hb i) (k : Kp no w w') : C13 W w' B r p q hb i := ⟨h.R.kp k, h.I, or_kp h.hd k (fun _ _ x => x), h.n⟩
theorem C13.qd {W w w' : World} {B : RB} {r : Rg} {p q hb i : Nat} (h : C13 W w B r p q hb i) (k : QD w w') : C13 W w' B r p q hb i := h.kp (Kp.of_qd k)
theorem oCells_at {w : World} {ab ao : Nat} {O : List O12} (hc : ∀ j u, (oCells O)[j]? = some u → w.cell? ⟨ab, ao + j, none⟩ = some u) {i : Nat} (h : i < O.length) :
    ∃ k j t v, O.getD i O12.z = ⟨k, j, t, v⟩ ∧ w.cell? ⟨ab, ao + i * 4, none⟩ = some (.int .i64 k) ∧ w.cell? ⟨ab, ao + i * 4 + 1, none⟩ = some (.int .i64 j) ∧ w.cell? ⟨ab, ao + i * 4 + 2, none⟩ = some (.int .u64 t) ∧ w.cell? ⟨ab, ao + i * 4 + 3, none⟩ = some (.int .u64 v) := by
  obtain ⟨k0, k1, k2, k3⟩ := oCells_get O i h
  generalize O.getD i O12.z = o at k0 k1 k2 k3
  obtain ⟨k, j, t, v⟩ := o
  exact ⟨k, j, t, v, rfl, hc _ _ k0, by rw [Nat.add_assoc]; exact hc _ _ k1, by rw [Nat.add_assoc]; exact hc _ _ k2, by rw [Nat.add_assoc]; exact hc _ _ k3⟩
theorem mem_getD {O : List O12} {i : Nat} (h : i < O.length) : O.getD i O12.z ∈ O := by
  rw [List.getD_eq_getElem?_getD, List.getElem?_eq_getElem h]; exact List.getElem_mem h

set_option maxRecDepth 100000 in
set_option maxHeartbeats 6400000 in
theorem RingCounts_calls {v0 v1 : Value} (ho : ∃ o : Rc, v0 = .agg o.vals.toArray ∧ o.ok) (hs : ∃ O : List O12, Rd w v1 O.length (oCells O) ∧ ∀ o ∈ O, o.ok) : Calls Try.prog 14 #[v0, v1] w fun e w' => e = .returned (.bool true) ∧ Kp no w w' := by
  obtain ⟨⟨k, c, R⟩, rfl, -⟩ := ho
  obtain ⟨O, hrd, hok⟩ := hs
  have hrd0 := As.mk hrd
  have HO := As.mk hok
  obtain ⟨A, cap, rfl, hn1, hn2, -⟩ := hrd
  unfold maxLen at hn2
  change Calls Try.prog 14 #[.agg #[.int .i64 k, .int .i64 c, .int .i64 R], _] w _
  clear hok
  go_enter Try.func14, Try.ntmps14
  go_wp2_with fail
  obtain ⟨m0, hK⟩ := box1 (w := w) #[.int .i64 k, .int .i64 c, .int .i64 R] 23
  generalize w.alloc (.cells #[.int .i64 k, .int .i64 c, .int .i64 R] 23) = W at m0 hK ⊢
  generalize w.heap.size = g0 at m0 ⊢
  refine awake13.mono ?_
  rintro e w1 ⟨rfl, hk⟩
  replace m0 := bk_kp m0 hk (fun x => x)
  replace hK := hK.trans hk
  clear hk
  by_cases hl : O.length ≤ 200
  · have hd : decide ((200 : Int) < (O.length : Int)) = false := decide_eq_false (by omega)
    have d0 := bk_cell m0 0
    have d1 := bk_cell m0 1
    have d2 := bk_cell m0 2
    clear hn1 hn2
    go_wp2_with fail
    refine (RMay_any k c R).mono ?_
    rintro e w2 ⟨rfl, hk⟩
    replace m0 := bk_kp m0 hk (fun x => x)
    replace hK := hK.trans hk
    clear hk d0 d1 d2
    cases hm : rMay k c R with
    | false =>
      as_aux_lemma =>
        clear hrd0 m0 hd hl
        go_wp2_with fail
        refine awake13.mono ?_
        rintro e w3 ⟨rfl, hk⟩
        replace hK := hK.trans hk
        clear hk
        go_wp2
        go_ret
        exact ⟨rfl, hK⟩
    | true =>
      obtain ⟨p, q, rfl, rfl, hp1, hp2, hq1, hq2⟩ := rMay_nat hm
      have d0 := bk_cell m0 0
      have d1 := bk_cell m0 1
      have d2 := bk_cell m0 2
      have hHm := As.mk hm
      have hP := As.mk (And.intro hp1 (And.intro hp2 (And.intro hq1 hq2)))
      clear hm hd
      replace hrd0 := As.mk (hrd0.out.kp hK (fun _ _ x => x))
      go_wp2_with fail
      refine (RNew_new k p q hHm.out (Kp.refl no w2)).mono ?_
      rintro e w3 ⟨B, rfl, hR, -, -⟩
      have HR := As.mk hR
      have HM := As.mk m0
      obtain ⟨i0, hi, hz0, hz1, hz2⟩ := info_parts Try.infoU64
      obtain ⟨w4, hmk, hown, hgr⟩ := run_makeSlice_full (P := Try.prog) w3 w3.heap.size 31 36 i0 _ 1 Try.underlying31 hi hz0 hz1 .i64 .i64 q (by omega) (by rw [hz2]; omega) (by unfold maxLen; omega) (Nat.le_refl _)
      have m3 := bk_kp m0 hR.K (fun x => x)
      have e2 := bk_cell m3 2
      have hrow : u64s (List.replicate q 0) = (madeCells (Value.int .u64 0).cells (q * 1)).toList := by
        rw [Nat.mul_one]
        exact ((toList_madeCells_one (Value.int .u64 0) q).trans (by simp [u64s])).symm
      rw [← hrow] at hown
      have hk4 : Kp no w3 w4 := (Kp.refl no w3).grown hgr (fun k hk => by cases hk)
      have hs3 := hR.K.size
      have HC : As (C13 w2 w4 B ⟨0, List.replicate q 0, false, sNew p⟩ p q w3.heap.size 0) := ⟨hR.kp hk4, RInv.new p q, or_base hown hs3, fun h => by have := hR.i.glt _ h; omega⟩
      clear hR d0 d1 d2 m0 m3 hown hgr hrow hk4 hs3 hi hz0 hz1 hz2 hp1 hp2 hq1 hq2
      go_wp2
      clear e2 hmk HR
      generalize w3.heap.size = hb at HC ⊢
      go_loopw [7, 8, 42] (fun v7 v8 v42 wr => ∃ (i : Nat) (r : Rg), i ≤ O.length ∧ v42 = .int .i64 i ∧ v7 = .int .u64 r.tail ∧ v8 = .bool r.closed ∧ As (C13 w2 wr B r p q hb i)) (fun _ _ v42 _ => O.length - (intOf v42).toNat)
      case atStart => exact ⟨0, _, Nat.zero_le _, rfl, rfl, rfl, HC⟩
      case round =>
        as_aux_lemma =>
          obtain ⟨i, r, hi, rfl, rfl, rfl, HI⟩ := hrel
          by_cases hlt : i < O.length
          · have hr := hrd0.out.kp HI.out.R.K (fun _ _ x => x)
            obtain ⟨ab, ao, c', he, -, -, hc⟩ := hr.form (by rw [oCells_len]; omega)
            injection he with e1 e2 e3
            subst e1; subst e3; clear e2
            obtain ⟨ok, oj, t, ov, hO, c0, c1, c2, c3⟩ := oCells_at hc hlt
            have ht : 0 ≤ t := by have := (HO.out _ (mem_getD hlt)).1; rw [hO] at this; exact this
            have HTT := As.mk (show 0 ≤ r.tail ∧ r.tail ≤ 200 from by have := HI.out.I.ti; omega)
            clear hr hc hO
            go_wp2_with fail
            obtain ⟨mo, hko⟩ := box1 (w := wr) #[.int .i64 ok, .int .i64 oj, .int .u64 t, .int .u64 ov] 89
            have hgo : ¬ B.own wr.heap.size := fun h => by have := HI.out.R.i.glt _ h; omega
            have HI2 := HI.out.kp hko
            clear HI
            generalize wr.alloc (.cells #[.int .i64 ok, .int .i64 oj, .int .u64 t, .int .u64 ov] 89) = W2 at mo HI2 ⊢
            generalize wr.heap.size = go at mo hgo ⊢
            clear hko c0 c1 c2 c3
            refine (do_any HI2.R (by have := HTT.out; omega) ok oj t ov ht).mono ?_
            have hT := rDo_tells r ⟨ok, oj, t, ov⟩
            have hS := HI2.I.step ⟨ok, oj, t, ov⟩
            generalize (rDo r ⟨ok, oj, t, ov⟩).2.2 = r' at hT hS ⊢
            generalize (rDo r ⟨ok, oj, t, ov⟩).2.1 = er at hT ⊢
            generalize (rDo r ⟨ok, oj, t, ov⟩).1 = xr at hT ⊢
            rintro e w5 ⟨rfl, hR5, hk5⟩
            have m5 := bk_kp (S := B.own) mo hk5 hgo
            have b5 := bk_kp HM.out hR5.K (fun x => x)
            have hd5 := or_kp HI2.hd hk5 (fun b hb e => by injection hb with hb; subst hb; exact HI2.n e)
            have d0 := bk_cell m5 0
            have d1 := bk_cell m5 1
            have e2 := bk_cell b5 2
            have hkm := kd_tmod ⟨ok, oj, t, ov⟩
            change Int.tmod (IntKind.u64.wrap ok) 5 = _ at hkm
            have hkl := kd_le ⟨ok, oj, t, ov⟩
            have HH := As.mk (And.intro hd5 (And.intro hR5 (And.intro hS (And.intro HI2.n HI2.I))))
            clear hd5 hR5 hS mo hk5 m5 b5
            obtain ⟨hT0, hT1, hT2, hT3, hT4⟩ := hT
            dsimp only at hT2
            generalize kd ⟨ok, oj, t, ov⟩ = qd at hT0 hT1 hT2 hT3 hT4 hkm hkl
            have HT0 := As.mk hT0
            have HT1 := As.mk hT1
            have HT2 := As.mk hT2
            have HT3 := As.mk hT3
            have HT4 := As.mk hT4
            clear HI2 hT0 hT1 hT2 hT3 hT4
            go_upto_block 2 with fail
            go_cut [7, 8] from 52 to 150 (fun s7 s8 wx => s7 = .int .u64 r'.tail ∧ s8 = .bool r'.closed ∧ As (C13 w2 wx B r' p q hb (i + 1)))
            case first =>
              as_aux_lemma =>
                rcases (show qd = 0 ∨ qd = 1 ∨ qd = 2 ∨ qd = 3 ∨ qd = 4 by omega) with rfl | rfl | rfl | rfl | rfl
                · rcases HT0.out rfl with ⟨rfl, rfl, hcl, -, rfl⟩ | ⟨hne, rfl⟩
                  · have hne := ne_self r.tail
                    have hw : IntKind.u64.wrap (r.tail + 1) = r.tail + 1 := by have := HTT.out; rw [IntKind.wrap_u64]; omega
                    have HF := As.mk (show C13 w2 w5 B { r with tail := r.tail + 1 } p q hb (i + 1) from ⟨HH.out.2.1, HH.out.2.2.1, HH.out.1, HH.out.2.2.2.1⟩)
                    clear hkl d0 d1 e2
                    go_wp2
                    go_meet
                    exact ⟨rfl, by rw [hcl], HF⟩
                  · have hne2 : (er == 0) = false := by simpa using hne
                    have HF := As.mk (show C13 w2 w5 B r' p q hb (i + 1) from ⟨HH.out.2.1, HH.out.2.2.1, HH.out.1, HH.out.2.2.2.1⟩)
                    clear hkl d0 d1 e2 hne
                    go_wp2
                    go_meet
                    exact ⟨rfl, rfl, HF⟩
                · obtain ⟨L, rfl, -⟩ := HT1.out rfl
                  have HF := As.mk (show C13 w2 w5 B { r with L := L } p q hb (i + 1) from ⟨HH.out.2.1, HH.out.2.2.1, HH.out.1, HH.out.2.2.2.1⟩)
                  clear hkl d0 d1 e2
                  go_wp2
                  go_meet
                  exact ⟨rfl, rfl, HF⟩
                · rcases HT2.out rfl with ⟨rfl, hj, hx, -, rfl⟩ | ⟨hne, rfl⟩
                  · have hj2 : (0 : Int) ≤ oj ∧ oj < (r.heads.length : Int) := by simpa [rIs] using hj
                    obtain ⟨jn, rfl⟩ := Int.eq_ofNat_of_zero_le hj2.1
                    have hjq : jn < q := by have := HH.out.2.2.2.2.hl; omega
                    have hq9 : decide (q ≤ jn) = false := decide_eq_false (by omega)
                    have hcell : w5.cell? ⟨hb, jn, none⟩ = some (.int .u64 (r.heads.getD jn 0)) := or_cell HH.out.1 _ _ (u64s_get r.heads jn (by omega))
                    have hx2 : r.heads.getD jn 0 = xr := by rw [hx]; unfold rHead; rw [Int.toNat_natCast]
                    rw [hx2] at hcell
                    have hfz : w5.frozen? ⟨hb, jn, none⟩ = false := HH.out.1.frozenAt jn
                    have hmem : xr ∈ r.heads := by
                      rw [← hx2, List.getD_eq_getElem?_getD, List.getElem?_eq_getElem (show jn < r.heads.length by omega)]; exact List.getElem_mem _
                    have hxb := HH.out.2.2.2.2.h0 _ hmem
                    have hw : IntKind.u64.wrap (xr + 1) = xr + 1 := by have := HTT.out; rw [IntKind.wrap_u64]; omega
                    have hne := ne_self xr
                    have HF := As.mk (show C13 w2 (w5.setCell ⟨hb, jn, none⟩ (.int .u64 (xr + 1))) B { r with heads := r.heads.set (jn : Int).toNat (xr + 1) } p q hb (i + 1) from by
                      have h2 := (HH.out.1.stored jn (.int .u64 (xr + 1))).1
                      rw [u64s_set] at h2
                      have hks := Kp.set1 w5 hb jn (.int .u64 (xr + 1))
                      have hlt := HH.out.1.lt hb rfl
                      refine ⟨⟨HH.out.2.1.i.kp hks (fun k hk e => HH.out.2.2.2.1 (by rw [← e]; exact hk)), HH.out.2.1.n, HH.out.2.1.K.setNew ⟨hb, jn, none⟩ hlt.1 _⟩, HH.out.2.2.1, ?_, HH.out.2.2.2.1⟩
                      rw [Int.toNat_natCast]; exact h2)
                    clear hkl hj hx hj2 hx2 hmem hxb
                    go_wp2
                    go_meet
                    exact ⟨rfl, rfl, HF⟩
                  · have hne2 : (er == 0) = false := by simpa using hne
                    have HF := As.mk (show C13 w2 w5 B r' p q hb (i + 1) from ⟨HH.out.2.1, HH.out.2.2.1, HH.out.1, HH.out.2.2.2.1⟩)
                    clear hkl d0 d1 e2 hne
                    go_wp2
                    go_meet
                    exact ⟨rfl, rfl, HF⟩
                · obtain ⟨L, rfl, -⟩ := HT3.out rfl
                  have HF := As.mk (show C13 w2 w5 B { r with L := L } p q hb (i + 1) from ⟨HH.out.2.1, HH.out.2.2.1, HH.out.1, HH.out.2.2.2.1⟩)
                  clear hkl d0 d1 e2
                  go_wp2
                  go_meet
                  exact ⟨rfl, rfl, HF⟩
                · have := HT4.out rfl
                  subst this
                  have HF := As.mk (show C13 w2 w5 B { r with closed := true } p q hb (i + 1) from ⟨HH.out.2.1, HH.out.2.2.1, HH.out.1, HH.out.2.2.2.1⟩)
                  clear hkl d0 d1 e2
                  go_wp2
                  go_meet
                  exact ⟨rfl, rfl, HF⟩
            case rest =>
              as_aux_lemma =>
                obtain ⟨rfl, rfl, HF⟩ := hcut
                clear d0 d1 e2 hkm hkl HH HT0 HT1 HT2 HT3 HT4
                go_wp2_with fail
                refine (State_any HF.out.R.i).mono ?_
                rintro e w6 ⟨v1, v2, rfl, o1, o2, hk6⟩
                obtain ⟨b1, k1, rfl, -⟩ := or_some o1 (by have := HF.out.R.i.s.hR0; omega)
                obtain ⟨A2, k2, rfl⟩ := or_form o2
                unfold stVal
                go_upto_region 26 with fail
                have hk7 := (Kp.refl no w6).alloc (.cells #[.int .u64 r'.tail, .slice (some ⟨b1, 0, none⟩) r'.heads.length k1, .bool r'.closed, .slice A2 r'.L.length k2] 92)
                have m7 := heap_alloc_new w6 (.cells #[.int .u64 r'.tail, .slice (some ⟨b1, 0, none⟩) r'.heads.length k1, .bool r'.closed, .slice A2 r'.L.length k2] 92)
                have o1' := or_kp o1 hk7 (fun _ _ x => x)
                have HF7 := As.mk (HF.out.kp (hk6.trans hk7))
                generalize w6.alloc (.cells #[.int .u64 r'.tail, .slice (some ⟨b1, 0, none⟩) r'.heads.length k1, .bool r'.closed, .slice A2 r'.L.length k2] 92) = W7 at m7 o1' HF7 ⊢
                generalize w6.heap.size = g7 at m7 ⊢
                clear HF o1 o2 hk6 hk7
                have b7 := bk_kp HM.out HF7.out.R.K (fun x => x)
                have f0 := bk_cell m7 0
                have f1 := bk_cell m7 1
                have f2 := bk_cell m7 2
                have e1 := bk_cell b7 1
                have e2 := bk_cell b7 2
                have hlen := HF7.out.I.hl
                rw [hlen] at o1' f1 ⊢
                have HO1 := As.mk o1'
                have hq1 := ne_self r'.tail
                have hq2 : (r'.closed != r'.closed) = false := by cases r'.closed <;> rfl
                have hq3 := ne_self (q : Int)
                have HB := As.mk (And.intro m7 b7)
                clear m7 b7 hlen o1'
                go_wp2
                go_loop [124] (fun v124 => ∃ j : Nat, j ≤ q ∧ v124 = .int .i64 j) (fun v124 => q - (intOf v124).toNat)
                case atStart => exact ⟨0, Nat.zero_le _, rfl⟩
                case round =>
                  as_aux_lemma =>
                    obtain ⟨j, hj, rfl⟩ := hrel
                    by_cases hlj : j < q
                    · have hl7 := HF7.out.I.hl
                      have a1 : W7.cell? ⟨b1, j, none⟩ = some (.int .u64 (r'.heads.getD j 0)) := or_cell HO1.out _ _ (u64s_get r'.heads j (by omega))
                      have a2 : W7.cell? ⟨hb, j, none⟩ = some (.int .u64 (r'.heads.getD j 0)) := or_cell HF7.out.hd _ _ (u64s_get r'.heads j (by omega))
                      have hmem : r'.heads.getD j 0 ∈ r'.heads := by
                        rw [List.getD_eq_getElem?_getD, List.getElem?_eq_getElem (show j < r'.heads.length by omega)]; exact List.getElem_mem _
                      have hb7 := HF7.out.I.h0 _ hmem
                      have ht7 := HF7.out.I.ti
                      generalize r'.heads.getD j 0 = x at a1 a2 hb7
                      generalize r'.tail = T at hb7 ht7 hq1 ⊢
                      have g1 : decide (T < x) = false := decide_eq_false (by omega)
                      have hi200 : O.length ≤ 200 := hl
                      have g2 : 0 ≤ x := hb7.1
                      have g3 : x ≤ T := hb7.2.1
                      have g6 : T ≤ 201 := by omega
                      have g7 : p ≤ 64 := hP.out.2.1
                      have g4 : decide ((p : Int) < T - x) = false := decide_eq_false (by omega)
                      have g5 := ne_self x
                      clear hmem hb7 ht7 hl7 hq1 hq2 hq3 f0 f1 f2 e2 hi200 hi hl hlt
                      have g8 : j < 8 := by have := hP.out; omega
                      go_wp2
                      exact ⟨⟨j + 1, by omega, by go_num⟩, by simp [intOf]; omega⟩
                    · have hi200 : O.length ≤ 200 := hl
                      go_wp2
                      exact ⟨⟨i + 1, r', by omega, by go_num, rfl, rfl, HF7⟩, by simp [intOf]; omega⟩
          · go_wp2
            go_ret
            exact ⟨rfl, hK.trans HI.out.R.K⟩
  · as_aux_lemma =>
      have hd : decide ((200 : Int) < (O.length : Int)) = true := decide_eq_true (by omega)
      clear hl hn1 hn2 hrd0 m0
      go_wp2_with fail
      refine awake13.mono ?_
      rintro e w3 ⟨rfl, hk⟩
      replace hK := hK.trans hk
      clear hk
      go_wp2
      go_ret
      exact ⟨rfl, hK⟩
end Go.Proofs.Ytmejnhfggmmefaa.H
