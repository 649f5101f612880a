/- Layer 13: what ring's Load does. No condition. -/
import Derived.Test.YtmejnhfggmmefaaRgF
namespace Go.Proofs.Ytmejnhfggmmefaa.H
open Go.RowKit
set_option linter.unusedVariables false
set_option linter.unusedSimpArgs false
variable {w : World} {B : RB} {r : Rg} {t j v : Int}

/-- May heads, and places, stand so? -/
def headsB (T p : Int) (H : List Int) : Bool := H.all fun h => decide (h ≤ T) && decide (T - h ≤ p)
def placesB (T p : Int) (H : List Int) (M : List Sl) : Bool := M.all fun x => standB x T p H
def RLPost (w : World) (p : Int) (T : Int) (H : List Int) (cl : Bool) (M : List Sl) (e : Ending) (w' : World) : Prop :=
  (headsB T p H = true ∧ placesB T p H M = true ∧ ∃ B, e = .returned (.tuple #[.pointer (some ⟨B.g, 0, none⟩), .int .i64 0]) ∧ RingIn w' B ⟨T, H, cl, M⟩ ∧ (∀ i, B.own i → w.heap.size ≤ i) ∧ Kp no w w') ∨
  ((headsB T p H && placesB T p H M) = false ∧ e = .returned (.tuple #[.pointer none, .int .i64 3]) ∧ Kp no w w')

/-- The ring behind the stores, its heads not yet looked at. -/
structure RingRaw (w : World) (B : RB) (T : Int) (H : List Int) (cl : Bool) (M : List Sl) (p : Nat) : Prop where
  hd : w.heap[B.g]? = some (.cells #[.int .u64 T, .slice (some ⟨B.hb, 0, none⟩) H.length B.hcap, .pointer (some ⟨B.sg, 0, none⟩), .int .u64 p, .bool cl] 140 (0, 0))
  hr : w.ownsRow 0 36 1 (.slice (some ⟨B.hb, 0, none⟩) H.length B.hcap) H.length (u64s H)
  s : SlotsIn w B.sg B.sb B.scap M H.length
theorem RingRaw.kp {w w' : World} {B : RB} {T : Int} {H : List Int} {cl : Bool} {M : List Sl} {p : Nat} {S : Nat → Prop} (h : RingRaw w B T H cl M p) (k : Kp S w w') (hn : ∀ i, B.own i → ¬ S i) : RingRaw w' B T H cl M p :=
  ⟨bk_kp h.hd k (hn _ (.inl rfl)), or_kp h.hr k (by intro c hc; cases hc; exact hn _ (.inr (.inl rfl))), h.s.kp k (hn _ (.inr (.inr (.inl rfl)))) (hn _ (.inr (.inr (.inr rfl))))⟩
theorem RingRaw.ring {w : World} {B : RB} {T : Int} {H : List Int} {cl : Bool} {M : List Sl} {p : Nat} (h : RingRaw w B T H cl M p) (hp : M.length = p) (h0 : 0 ≤ T) (h1 : T < 4611686018427387904) (hh : ∀ x ∈ H, 0 ≤ x ∧ x ≤ T) : RingIn w B ⟨T, H, cl, M⟩ :=
  ⟨by simpa [Rg.cells, hp] using h.hd, h.hr, h.s, h0, by show T < 9223372036854775808; omega, hh⟩

set_option maxRecDepth 100000 in
set_option maxHeartbeats 6400000 in
theorem RLoad_main (k : Int) (p q : Nat) (h : rMay k p q = true) {A1 : Option Addr} {c1 c2 : Nat} (ab ao : Nat) (T : Int) (cl : Bool) (H : List Int) (M : List Sl) (hwf : ∀ x ∈ M, 0 ≤ x.st ∧ x.st < 18446744073709551616)
    (hH : Rd w (.slice A1 H.length c1) H.length (u64s H)) (hHw : ∀ x ∈ H, 0 ≤ x ∧ x < 18446744073709551616)
    (hM : Rd w (.slice (some ⟨ab, ao, none⟩) M.length c2) M.length (slCells M)) (hMc : ∀ j u, (slCells M)[j]? = some u → w.cell? ⟨ab, ao + j, none⟩ = some u) (hl : loadB p q M = true) (hq : H.length = q) (hT0 : 0 ≤ T) (hT : T < 4611686018427387904) :
    Calls Try.prog 56 #[.agg #[.int .i64 k, .int .i64 p, .int .i64 q], .agg #[.int .u64 T, .slice A1 H.length c1, .bool cl, .slice (some ⟨ab, ao, none⟩) M.length c2]] w (RLPost w p T H cl M) := by
  have HR := As.mk h
  have H1 : mayB p q = true := by unfold rMay at h; rw [Bool.and_eq_true] at h; exact h.1
  have H1' := As.mk H1
  have h3 : 1 ≤ (p : Int) ∧ (p : Int) ≤ 64 ∧ 1 ≤ (q : Int) ∧ (q : Int) ≤ 8 := of_decide_eq_true H1
  have H3 := As.mk h3
  have HM := As.mk hM
  have HMc := As.mk hMc
  have HH := As.mk hH
  have HL := As.mk hl
  have HQ := As.mk hq
  have HHW := As.mk hHw
  have hqb : ((H.length : Int) != (q : Int)) = false := by rw [hq]; simp
  have hTd : decide (4611686018427387904 ≤ T) = false := decide_eq_false (by omega)
  have HT := As.mk (And.intro hT0 hT)
  clear h H1 h3 hM hMc hH hl hq hHw hT0 hT
  go_enter Try.func56, Try.ntmps56
  go_wp2_with fail
  refine (RNew_ok k p q HR.out).mono ?_
  rintro e w1 ⟨B, rfl, hR, hn, hK⟩
  have hA := loadAt_new hR hn hK
  clear hR hn hK
  generalize w.heap.size = b1 at hA ⊢
  generalize b1 + 1 = b2 at hA ⊢
  obtain ⟨d1, d2, d3, d4, d5, d6⟩ := hA.cells
  go_wp2_with fail
  refine (SLoad_any p q H1'.out M hwf (HM.out.kp hA.kp (fun _ _ x => x))).mono ?_
  rintro e w2 (⟨_, g3, b3, cap3, rfl, hS, hg3, hb3, hK2⟩ | ⟨hl, rfl, hK2⟩)
  · have hsz := hA.rg.glt
    have hgB : g3 ≠ B.g := by have := hsz B.g (.inl rfl); omega
    have hbB : b3 ≠ B.g := by have := hsz B.g (.inl rfl); omega
    have hgw : w.heap.size ≤ g3 := by have := hA.kp.size; omega
    have hbw : w.heap.size ≤ b3 := by have := hA.kp.size; omega
    replace hA := hA.next hK2
    clear d1 d2 d3 d4 d5 d6 hsz hg3 hb3 hK2
    obtain ⟨d1, d2, d3, d4, d5, d6⟩ := hA.cells
    go_wp2
    have hA1 := hA.next (Kp.of_qd (QD.drew w2))
    have hS1 := hS.qd (QD.drew w2)
    obtain ⟨e1, e2, e3, e4, e5, e6⟩ := hA1.cells
    have hH1 := HH.out.kp hA1.kp (fun _ _ x => x)
    have hH8 : H.length ≤ 8 := by have := H3.out; have := HQ.out; omega
    have hst : w2.drew.cell? ⟨b2, 0, none⟩ = some (.int .u64 T) ∧ w2.drew.cell? ⟨b2, 1, none⟩ = some (.slice A1 H.length c1) ∧ w2.drew.cell? ⟨b2, 2, none⟩ = some (.bool cl) := ⟨e3, e4, e5⟩
    have hH0 : 0 < H.length := by have := H3.out; have := HQ.out; omega
    have hb2g : ¬ b2 = B.g := fun e => hA.ne2 (.inl e)
    clear d1 d2 d3 d4 d5 d6 e1 e2 e3 e4 e5 e6
    go_region_held3 (fun w' => w'.cell? ⟨b2, 0, none⟩ = some (.int .u64 T) ∧ w'.cell? ⟨b2, 1, none⟩ = some (.slice A1 H.length c1) ∧ w'.cell? ⟨b2, 2, none⟩ = some (.bool cl)) (first | exact hst | exact hst5 | (simp only [cell_far hb2g]; exact hst5))
      ((go_at_call 68; refine (CloneU_any hH1 (u64s_len _) (u64s_one _) (by omega)).mono ?_; rintro e w5 ⟨v1, rfl, ho1, hK5⟩; obtain ⟨g5, k5, rfl, hge5⟩ := or_some ho1 hH0; have hA5 := hA1.next hK5; have hst5 : w5.cell? ⟨b2, 0, none⟩ = some (.int .u64 T) ∧ w5.cell? ⟨b2, 1, none⟩ = some (.slice A1 H.length c1) ∧ w5.cell? ⟨b2, 2, none⟩ = some (.bool cl) := ⟨hA5.cells.2.2.1, hA5.cells.2.2.2.1, hA5.cells.2.2.2.2.1⟩; have r0 := hA5.rg.c0; have r1 := hA5.rg.c1; have r2 := hA5.rg.c2; have r4 := hA5.rg.c4; have z0 := hA5.rg.fz 0; have z1 := hA5.rg.fz 1; have z2 := hA5.rg.fz 2; have z4 := hA5.rg.fz 4))
    have hRaw : RingRaw ((((w5.setCell ⟨B.g, 0, none⟩ (.int .u64 T)).setCell ⟨B.g, 1, none⟩ (.slice (some ⟨g5, 0, none⟩) H.length k5)).setCell ⟨B.g, 4, none⟩ (.bool cl)).setCell ⟨B.g, 2, none⟩ (.pointer (some ⟨g3, 0, none⟩))) ⟨B.g, g5, k5, g3, b3, cap3⟩ T H cl M p := by
      have hlen : (sNew p).length = p := by simp [sNew]
      have q0 : w5.heap[B.g]? = some (.cells #[.int .u64 0, .slice (some ⟨B.hb, 0, none⟩) (List.replicate q (0 : Int)).length B.hcap, .pointer (some ⟨B.sg, 0, none⟩), .int .u64 p, .bool false] 140 (0, 0)) := by simpa [Rg.cells, hlen] using hA5.rg.hd
      have q1 := bk_set (cs' := #[.int .u64 T, .slice (some ⟨B.hb, 0, none⟩) (List.replicate q (0 : Int)).length B.hcap, .pointer (some ⟨B.sg, 0, none⟩), .int .u64 p, .bool false]) q0 0 (.int .u64 T) rfl
      have q2 := bk_set (cs' := #[.int .u64 T, .slice (some ⟨g5, 0, none⟩) H.length k5, .pointer (some ⟨B.sg, 0, none⟩), .int .u64 p, .bool false]) q1 1 (.slice (some ⟨g5, 0, none⟩) H.length k5) rfl
      have q3 := bk_set (cs' := #[.int .u64 T, .slice (some ⟨g5, 0, none⟩) H.length k5, .pointer (some ⟨B.sg, 0, none⟩), .int .u64 p, .bool cl]) q2 4 (.bool cl) rfl
      have q4 := bk_set (cs' := #[.int .u64 T, .slice (some ⟨g5, 0, none⟩) H.length k5, .pointer (some ⟨g3, 0, none⟩), .int .u64 p, .bool cl]) q3 2 (.pointer (some ⟨g3, 0, none⟩)) rfl
      have hKs := ((((Kp.refl (· = B.g) w5).setCell ⟨B.g, 0, none⟩ rfl (.int .u64 T)).setCell ⟨B.g, 1, none⟩ rfl (.slice (some ⟨g5, 0, none⟩) H.length k5)).setCell ⟨B.g, 4, none⟩ rfl (.bool cl)).setCell ⟨B.g, 2, none⟩ rfl (.pointer (some ⟨g3, 0, none⟩))
      have hg5 : ¬ g5 = B.g := fun e => by
        have := hA1.rg.glt B.g (.inl rfl)
        omega
      refine ⟨q4, or_base (or_kp ho1 hKs (fun b hb e => by cases hb; exact hg5 e)) (Nat.zero_le _), ?_⟩
      have hS1' : SlotsIn w2.drew g3 b3 cap3 M H.length := by rw [HQ.out]; exact hS1
      exact (hS1'.kp hK5 (fun x => x) (fun x => x)).kp hKs hgB hbB
    have hbx : ((((w5.setCell ⟨B.g, 0, none⟩ (.int .u64 T)).setCell ⟨B.g, 1, none⟩ (.slice (some ⟨g5, 0, none⟩) H.length k5)).setCell ⟨B.g, 4, none⟩ (.bool cl)).setCell ⟨B.g, 2, none⟩ (.pointer (some ⟨g3, 0, none⟩))).heap[b2]? = some (.cells #[.int .u64 T, .slice A1 H.length c1, .bool cl, .slice (some ⟨ab, ao, none⟩) M.length c2] 92 (0, 0)) :=
      bk_far (bk_far (bk_far (bk_far hA5.bx2 hb2g _) hb2g _) hb2g _) hb2g _
    have hBg : w.heap.size ≤ B.g := hA.new B.g (.inl rfl)
    have hKW : Kp no w ((((w5.setCell ⟨B.g, 0, none⟩ (.int .u64 T)).setCell ⟨B.g, 1, none⟩ (.slice (some ⟨g5, 0, none⟩) H.length k5)).setCell ⟨B.g, 4, none⟩ (.bool cl)).setCell ⟨B.g, 2, none⟩ (.pointer (some ⟨g3, 0, none⟩))) :=
      (((hA5.kp.setNew _ hBg _).setNew _ hBg _).setNew _ hBg _).setNew _ hBg _
    have hwg5 : w.heap.size ≤ g5 := by have := hA1.kp.size; omega
    have hown : ∀ i, (⟨B.g, g5, k5, g3, b3, cap3⟩ : RB).own i → w.heap.size ≤ i := by
      rintro i (h | h | h | h)
      · change i = B.g at h; omega
      · change i = g5 at h; omega
      · change i = g3 at h; omega
      · change i = b3 at h; omega
    generalize (((w5.setCell ⟨B.g, 0, none⟩ (.int .u64 T)).setCell ⟨B.g, 1, none⟩ (.slice (some ⟨g5, 0, none⟩) H.length k5)).setCell ⟨B.g, 4, none⟩ (.bool cl)).setCell ⟨B.g, 2, none⟩ (.pointer (some ⟨g3, 0, none⟩)) = W at hRaw hbx hKW ⊢
    clear hA hA1 hA5 hK5 ho1 hS hS1 hH1 hst hst5 r0 r1 r2 r4 z0 z1 z2 z4 hgB hbB hgw hbw hge5 hb2g hBg hwg5 hqb hTd
    as_aux_lemma =>
      have c1' : W.cell? ⟨B.g, 1, none⟩ = some (.slice (some ⟨g5, 0, none⟩) H.length k5) := bk_cell hRaw.hd 1
      go_wp2
      clear c1'
      go_loopw [74] (fun v74 wr => ∃ j : Nat, j ≤ H.length ∧ v74 = .int .i64 j ∧ As (∀ i : Nat, i < j → H.getD i 0 ≤ T ∧ T - H.getD i 0 ≤ p) ∧ QD W wr) (fun v74 _ => H.length - (intOf v74).toNat)
      case atStart => exact ⟨0, Nat.zero_le _, rfl, ⟨fun i hi => by omega⟩, QD.refl _⟩
      case round =>
        as_aux_lemma =>
          obtain ⟨j, hj, rfl, hJ, hQ⟩ := hrel
          have hRr := hRaw.kp (Kp.of_qd (S := no) hQ) (fun _ _ x => x)
          by_cases hlt : j < H.length
          · have hc := or_cell hRr.hr _ _ (u64s_get H j hlt)
            change wr.cell? ⟨g5, j, none⟩ = _ at hc
            have e0 : wr.cell? ⟨B.g, 0, none⟩ = some (.int .u64 T) := bk_cell hRr.hd 0
            have e3 : wr.cell? ⟨B.g, 3, none⟩ = some (.int .u64 p) := bk_cell hRr.hd 3
            have hlt2 : (j : Int) < (H.length : Int) := by omega
            have hnn : (0 : Int) ≤ (j : Int) := by omega
            have hq0 := HHW.out (H.getD j 0) (by rw [List.getD_eq_getElem?_getD, List.getElem?_eq_getElem hlt]; exact List.getElem_mem _)
            generalize hqq : H.getD j 0 = x at hc hq0
            have HX := As.mk hqq
            have HX0 := As.mk hq0
            clear hqq hq0
            by_cases hx1 : x ≤ T
            · have hdx : decide (T < x) = false := decide_eq_false (by omega)
              have hw : IntKind.u64.wrap (T - x) = T - x := by have := HT.out; have := HX0.out; rw [IntKind.wrap_u64]; omega
              by_cases hx2 : T - x ≤ p
              · have hdx2 : decide ((p : Int) < T - x) = false := decide_eq_false (by omega)
                have hJ2 : As (∀ i : Nat, i < j + 1 → H.getD i 0 ≤ T ∧ T - H.getD i 0 ≤ p) := ⟨fun i hi => by
                  by_cases e : i = j
                  · rw [e, HX.out]; exact ⟨hx1, hx2⟩
                  · exact hJ.out i (by omega)⟩
                clear hx1 hx2 hJ
                go_wp2
                go_quiet (fail)
                go_wp2
                exact ⟨⟨j + 1, by omega, by go_num, hJ2, hQ.trans (QD.n _ _)⟩, by simp [intOf]; omega⟩
              · have hdx2 : decide ((p : Int) < T - x) = true := decide_eq_true (by omega)
                have hF : As (headsB T p H = false) := ⟨by
                  unfold headsB
                  rw [List.all_eq_false]
                  refine ⟨H[j], List.getElem_mem hlt, ?_⟩
                  have : H[j] = x := by rw [← HX.out]; simp [List.getD, hlt]
                  rw [this, decide_eq_true hx1, decide_eq_false hx2]; decide⟩
                have hP : ∀ n, RLPost w p T H cl M (.returned (.tuple #[.pointer none, .int .i64 3])) (wr.drewN n) := fun n => .inr ⟨by rw [hF.out, Bool.false_and], rfl, (hKW.qd hQ).drewN n⟩
                have HP := As.mk hP
                clear hx1 hx2 hJ hF hP hRaw hRr hKW hbx hown
                go_wp2
                go_quiet (fail)
                go_wp2
                go_ret2
                exact HP.out _
            · have hdx : decide (T < x) = true := decide_eq_true (by omega)
              have hF : As (headsB T p H = false) := ⟨by
                unfold headsB
                rw [List.all_eq_false]
                refine ⟨H[j], List.getElem_mem hlt, ?_⟩
                have : H[j] = x := by rw [← HX.out]; simp [List.getD, hlt]
                rw [this, decide_eq_false hx1]; simp⟩
              have hP : ∀ n, RLPost w p T H cl M (.returned (.tuple #[.pointer none, .int .i64 3])) (wr.drewN n) := fun n => .inr ⟨by rw [hF.out, Bool.false_and], rfl, (hKW.qd hQ).drewN n⟩
              have HP := As.mk hP
              clear hx1 hJ hF hP hRaw hRr hKW hbx hown
              go_wp2
              go_quiet (fail)
              go_wp2
              go_ret2
              exact HP.out _
          · have hjH : j = H.length := by omega
            have hJJ := hJ.out
            have hhd : headsB T p H = true := by
              unfold headsB
              rw [List.all_eq_true]
              intro x hx
              obtain ⟨i, hi, rfl⟩ := List.mem_iff_getElem.1 hx
              have := hJJ i (by omega)
              have e : H.getD i 0 = H[i] := by simp [List.getD, hi]
              rw [e] at this
              rw [decide_eq_true this.1, decide_eq_true this.2]; rfl
            have hML : M.length = p := by
              have := HL.out
              unfold loadB at this
              rw [Bool.and_eq_true] at this
              have h5 := beq_iff_eq.1 this.1
              omega
            have hR : RingIn wr ⟨B.g, g5, k5, g3, b3, cap3⟩ ⟨T, H, cl, M⟩ := hRr.ring hML HT.out.1 HT.out.2 (fun x hx => by
              obtain ⟨i, hi, rfl⟩ := List.mem_iff_getElem.1 hx
              have := hJJ i (by omega)
              have e : H.getD i 0 = H[i] := by simp [List.getD, hi]
              rw [e] at this
              exact ⟨(HHW.out _ hx).1, this.1⟩)
            have hok := loadB_ok (R := q) (by have := H3.out; omega) (by assumption) HL.out
            have hKr := hKW.qd hQ
            have hbr := bk_qd hbx hQ
            have d3 : wr.cell? ⟨b2, 3, none⟩ = some (.slice (some ⟨ab, ao, none⟩) M.length c2) := bk_cell hbr 3
            have hMr := HM.out.kp hKr (fun _ _ x => x)
            have HF1 := As.mk (And.intro hhd (And.intro hML hok))
            have hM64 : M.length ≤ 64 := by have := H3.out; omega
            have hlt3 : ¬ ((j : Int) < (H.length : Int)) := by omega
            clear hJ hJJ hhd hML hok hRaw hRr hKW hbx hQ hbr hjH
            go_wp2
            clear d3
            obtain ⟨wo, rfl⟩ : ∃ wo : World, wo = wr := ⟨_, rfl⟩
            go_loopw [103] (fun v103 wr => ∃ i : Nat, i ≤ M.length ∧ v103 = .int .i64 i ∧ As (∀ l : Nat, l < i → standB (M.getD l Sl.z) T p H = true) ∧ Kp no wo wr) (fun v103 _ => M.length - (intOf v103).toNat)
            case atStart => exact ⟨0, Nat.zero_le _, rfl, ⟨fun l hl => by omega⟩, Kp.refl _ _⟩
            case round =>
              as_aux_lemma =>
                obtain ⟨i, hi, rfl, hI, hKx⟩ := hrel
                obtain ⟨hhd, hML, hok⟩ := HF1.out
                by_cases hlt : i < M.length
                · have hRx := hR.kp hKx (fun _ _ x => x)
                  have h5 := slCells_get M i hlt
                  have kc : ∀ o u, w.cell? ⟨ab, o, none⟩ = some u → wr.cell? ⟨ab, o, none⟩ = some u := fun o u h => by
                    rw [World.cell?_of_block ((hKr.trans hKx).block ab (World.block_lt_of_cell? _ _ h) (fun x => x))]; exact h
                  have k0 := kc _ _ (HMc.out _ _ h5.1)
                  have k1 := kc _ _ (HMc.out _ _ h5.2.1)
                  have k2 := kc _ _ (HMc.out _ _ h5.2.2)
                  rw [← Nat.add_assoc] at k1 k2
                  have hxo := hok (M.getD i Sl.z) (by rw [List.getD_eq_getElem?_getD, List.getElem?_eq_getElem hlt]; exact List.getElem_mem _)
                  have hlt2 : (i : Int) < (M.length : Int) := by omega
                  have hnn : (0 : Int) ≤ (i : Int) := by omega
                  generalize hxx : M.getD i Sl.z = x at k0 k1 k2 hxo
                  have HX := As.mk hxx
                  have HO := As.mk hxo
                  have HML := As.mk hML
                  have hKf := hKr.trans hKx
                  clear hxx hxo kc h5 hok hML hhd hMr hKr
                  go_wp2_with fail
                  refine (stands_any (hRx.kp (Kp.alloc (Kp.refl no wr) _) (fun _ _ x => x)) x HO.out).mono ?_
                  rintro e w7 ⟨rfl, hK7⟩
                  have hK8 := (hKx.alloc _).trans hK7
                  have hK9 := (hKf.alloc _).trans hK7
                  clear k0 k1 k2 hK7 hKx hKf hRx
                  cases hsb : standB x T p H with
                  | true =>
                    have hsb2 : standB x T (M.length : Int) H = true := by rw [HML.out]; exact hsb
                    have hI2 : As (∀ l : Nat, l < i + 1 → standB (M.getD l Sl.z) T p H = true) := ⟨fun l hl => by
                      by_cases e : l = i
                      · rw [e, HX.out]; exact hsb
                      · exact hI.out l (by omega)⟩
                    have hsb3 : standB x (⟨T, H, cl, M⟩ : Rg).tail ((⟨T, H, cl, M⟩ : Rg).L.length : Int) (⟨T, H, cl, M⟩ : Rg).heads = true := hsb2
                    rw [hsb3]
                    clear hsb hsb2 hsb3 hI hR hown
                    go_wp2
                    exact ⟨⟨i + 1, by omega, by go_num, hI2, hK8⟩, by simp [intOf]; omega⟩
                  | false =>
                    have hsb2 : standB x T (M.length : Int) H = false := by rw [HML.out]; exact hsb
                    have hF : As (placesB T p H M = false) := ⟨by
                      unfold placesB
                      rw [List.all_eq_false]
                      refine ⟨M[i], List.getElem_mem hlt, ?_⟩
                      have : M[i] = x := by rw [← HX.out]; simp [List.getD, hlt]
                      rw [this, hsb]; decide⟩
                    have hP : RLPost w p T H cl M (.returned (.tuple #[.pointer none, .int .i64 3])) w7 := .inr ⟨by rw [hF.out, Bool.and_false], rfl, hK9⟩
                    have HP := As.mk hP
                    have hsb3 : standB x (⟨T, H, cl, M⟩ : Rg).tail ((⟨T, H, cl, M⟩ : Rg).L.length : Int) (⟨T, H, cl, M⟩ : Rg).heads = false := hsb2
                    rw [hsb3]
                    clear hsb hsb2 hsb3 hI hR hown hF hP hK8 hK9
                    go_wp2
                    go_ret2
                    exact HP.out
                · have hpl : placesB T p H M = true := by
                    unfold placesB
                    rw [List.all_eq_true]
                    intro x hx
                    obtain ⟨l, hl2, rfl⟩ := List.mem_iff_getElem.1 hx
                    have := hI.out l (by omega)
                    have e : M.getD l Sl.z = M[l] := by simp [List.getD, hl2]
                    rwa [e] at this
                  have hP : RLPost w p T H cl M (.returned (.tuple #[.pointer (some ⟨B.g, 0, none⟩), .int .i64 0])) wr :=
                    .inl ⟨hhd, hpl, ⟨B.g, g5, k5, g3, b3, cap3⟩, rfl, hR.kp hKx (fun _ _ x => x), hown, hKr.trans hKx⟩
                  have HP := As.mk hP
                  have hlt4 : ¬ ((i : Int) < (M.length : Int)) := by omega
                  clear hP hpl hR hMr hKr hKx hhd hML hok hI hown HF1
                  go_wp2
                  go_ret2
                  exact HP.out
  · exact absurd (hl.symm.trans HL.out) (by decide)
end Go.Proofs.Ytmejnhfggmmefaa.H
