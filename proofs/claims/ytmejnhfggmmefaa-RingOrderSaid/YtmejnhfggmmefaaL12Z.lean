/- Layer 12: SlotsOrder, walked. No condition. -/
import Derived.Test.YtmejnhfggmmefaaL12Y
namespace Go.Proofs.Ytmejnhfggmmefaa.H
open Go.RowKit
set_option linter.unusedVariables false
set_option linter.unusedSimpArgs false

theorem sPut_same {L : List Sl} {R : Nat} {t v : Int} (h : (sPut L R t v).1 ≠ 0) : (sPut L R t v).2 = L := by
  unfold sPut at h ⊢
  split
  · rename_i h1
    rw [if_pos h1] at h
    split
    · rfl
    · rename_i h2
      rw [if_neg h2] at h
      split
      · rfl
      · rename_i h3
        rw [if_neg h3] at h
        exact absurd rfl h
  · rfl
theorem sGet_same {L : List Sl} {R : Nat} {j t : Int} (h : (sGet L R j t).2.1 ≠ 0) : (sGet L R j t).2.2 = L := by
  unfold sGet at h ⊢
  split
  · rename_i h1
    rw [if_pos h1] at h
    exact absurd rfl h
  · rfl
open Go.Maps (Keyed) in
theorem CIn.run {w : World} {b n : Nat} {ct : Int → Int → Int} (h : CIn w b n ct) {j t : Int} (wj : (Lit.int .i64 j).wf = true) (wt : (Lit.int .u64 t).wf = true) :
    (Instr.lookup 64 (.map (some b)) (.agg #[.int .i64 0, .int .i64 j, .int .u64 t, .int .u64 0]) false).run Try.prog w = .ok (.int .i64 (ct j t)) w := by
  obtain ⟨D, hown, hD⟩ := h
  obtain ⟨c, hrun, hat, -⟩ := hown.lookup_int (Keyed.of_law lawOp) Try.underlying64 Try.underlying3 (zeroI w) (keyOp wj wt)
  rw [hD j t wj wt] at hat
  have e : ct j t = c := by simpa using hat
  rw [hrun, e]
structure X12 (w0 w : World) (g b cap : Nat) (L : List Sl) (R pb cb k : Nat) (pv : Int → Option Int) (ct : Int → Int → Int) : Prop where
  S : SlotsIn w g b cap L R
  I : OInv L R pv ct
  P : PIn w pb k pv
  C : CIn w cb k ct
  pc : pb ≠ cb
  gb : w0.heap.size ≤ b
  gp : w0.heap.size ≤ pb
  gc : w0.heap.size ≤ cb
  K : Kp no w0 w
section
variable {w0 w w' : World} {g b cap : Nat} {L : List Sl} {R pb cb k : Nat} {pv : Int → Option Int} {ct : Int → Int → Int}
theorem X12.kp (h : X12 w0 w g b cap L R pb cb k pv ct) (q : Kp no w w') : X12 w0 w' g b cap L R pb cb k pv ct :=
  ⟨h.S.kp q (fun x => x) (fun x => x), h.I, h.P.kp q (fun x => x), h.C.kp q (fun x => x), h.pc, h.gb, h.gp, h.gc, h.K.trans q⟩
theorem X12.mono {k' : Nat} (h : X12 w0 w g b cap L R pb cb k pv ct) (hk : k ≤ k') : X12 w0 w g b cap L R pb cb k' pv ct :=
  ⟨h.S, h.I, h.P.mono hk, h.C.mono hk, h.pc, h.gb, h.gp, h.gc, h.K⟩
/-- behind a call that changes the places -/
theorem X12.slots {L2 : List Sl} {pv2 : Int → Option Int} {ct2 : Int → Int → Int} (h : X12 w0 w g b cap L R pb cb k pv ct) (hS : SlotsIn w' g b cap L2 R) (q : Kp (· = b) w w') : SlotsIn w' g b cap L2 R ∧ PIn w' pb k pv ∧ CIn w' cb k ct ∧ Kp no w0 w' := by
  obtain ⟨cur, hc⟩ := or_bk h.S.bk (b := b) rfl
  exact ⟨hS, h.P.kp q (h.P.not_cells hc), h.C.kp q (h.C.not_cells hc), h.K.new q (fun i hi => by have := h.gb; omega)⟩
end
variable {w : World}

set_option maxRecDepth 100000 in
set_option maxHeartbeats 6400000 in
theorem SlotsOrder_calls (pa : Int) (w1 : (Lit.int .i64 pa).wf = true) (ra : Int) (w2 : (Lit.int .i64 ra).wf = true) {sv : Value} (ho : ∃ O : List O12, Rd w sv O.length (oCells O) ∧ ∀ o ∈ O, o.ok) :
    Calls Try.prog 8 #[.int .i64 pa, .int .i64 ra, sv] w fun e w' => e = .returned (.bool true) ∧ Kp no w w' := by
  obtain ⟨O, hs, hO⟩ := ho
  have hs0 := As.mk hs
  have HO := As.mk hO
  obtain ⟨A, c, rfl, hc1, hc2, -⟩ := hs
  unfold maxLen at hc2
  clear hO
  have hpa : 0 ≤ IntKind.u64.wrap pa := by rw [IntKind.wrap_u64]; omega
  have hra : 0 ≤ IntKind.u64.wrap ra := by rw [IntKind.wrap_u64]; omega
  obtain ⟨q, hq⟩ := Int.eq_ofNat_of_zero_le (show 0 ≤ IntKind.u64.wrap pa % 64 by omega)
  obtain ⟨s, hs⟩ := Int.eq_ofNat_of_zero_le (show 0 ≤ IntKind.u64.wrap ra % 8 by omega)
  have e1 : Int.tmod (IntKind.u64.wrap pa) 64 = (q : Int) := by rw [Int.tmod_eq_emod_of_nonneg hpa, hq]
  have e2 : Int.tmod (IntKind.u64.wrap ra) 8 = (s : Int) := by rw [Int.tmod_eq_emod_of_nonneg hra, hs]
  obtain ⟨P, hP⟩ : ∃ P : Nat, 1 + (q : Int) = (P : Int) := ⟨q + 1, by omega⟩
  obtain ⟨R, hR⟩ : ∃ R : Nat, 1 + (s : Int) = (R : Int) := ⟨s + 1, by omega⟩
  have hP1 : 1 ≤ P := by omega
  have hP64 : P ≤ 64 := by omega
  have hR1 : 1 ≤ R := by omega
  have hR8 : R ≤ 8 := by omega
  clear hq hs hpa hra w1 w2
  by_cases hl : O.length ≤ 200
  · have hd : decide (200 < O.length) = false := decide_eq_false (by omega)
    have hd2 : decide ((200 : Int) < (O.length : Int)) = false := decide_eq_false (by omega)
    have HL := As.mk hl
    clear hl hc1 hc2
    have hmm := @run_makeMap Try.prog
    go_enter Try.func8, Try.ntmps8
    go_wp2_with fail
    clear e1 e2
    refine awake12.mono ?_
    rintro e w1 ⟨rfl, hK1⟩
    go_wp2_with fail
    refine (SNew_ok P R hP1 hP64 hR1 hR8).mono ?_
    rintro e w2 ⟨g, b, rfl, hS, hg, hb, hK⟩

    clear hP hR
    go_upto_region 9 with fail
    have hz : (w2.alloc (Obj.map #[] 0)).heap.size = w2.heap.size + 1 := Array.size_push _
    have hX : X12 w ((w2.alloc (Obj.map #[] 0)).alloc (Obj.map #[] 0)) g b P (sNew P) R w2.heap.size (w2.heap.size + 1) 0 (fun _ => none) (fun _ _ => 0) := by
      have k1 := (Kp.refl no w2).alloc (Obj.map #[] 0)
      have k2 := (Kp.refl no (w2.alloc (Obj.map #[] 0))).alloc (Obj.map #[] 0)
      have k3 := hK1.size
      have k4 := hK.size
      have hC := CIn.made (w2.alloc (Obj.map #[] 0))
      rw [hz] at hC
      exact ⟨hS.kp (k1.trans k2) (fun x => x) (fun x => x), OInv.new hP1, (PIn.made w2).kp k2 (fun x => x), hC, by omega, by omega, by omega, by omega, (hK1.trans hK).trans (k1.trans k2)⟩
    generalize (w2.alloc (Obj.map #[] 0)).alloc (Obj.map #[] 0) = W at hX ⊢
    generalize w2.heap.size + 1 = cb at hX ⊢
    generalize w2.heap.size = pb at hX ⊢
    have HX := As.mk hX
    clear hX hz hS hg hb hK hK1 hd hd2 hmm
    go_wp2_with fail
    go_loopw [49] (fun v49 wr => ∃ (k : Nat) (L : List Sl) (pv : Int → Option Int) (ct : Int → Int → Int), k ≤ O.length ∧ v49 = .int .i64 k ∧ As (X12 w wr g b P L R pb cb k pv ct)) (fun v49 _ => O.length - (intOf v49).toNat)
    case atStart => exact ⟨0, _, _, _, Nat.zero_le _, rfl, HX⟩
    case round =>
      clear HX
      obtain ⟨k, L, pv, ct, hk, rfl, HX⟩ := hrel
      by_cases hlt : k < O.length
      · obtain ⟨sb, so, c', he, -, -, h3⟩ := hs0.out.form (by rw [oCells_len]; omega)
        have eA : A = some ⟨sb, so, none⟩ := by injection he
        subst eA
        clear he
        have hsl : sb < w.heap.size := World.block_lt_of_cell? _ _ (h3 0 _ (oCells_get O 0 (by omega)).1)
        have sc := fun j u hj => (World.cell?_of_block (HX.out.K.block sb hsl (fun x => x))).trans (h3 j u hj)
        obtain ⟨k0, k1, k2, k3⟩ := oCells_get O k hlt
        have c0 := sc _ _ k0
        have c1 := sc _ _ k1
        have c2 := sc _ _ k2
        have c3 := sc _ _ k3
        rw [← Nat.add_assoc] at c1 c2 c3
        have hok := HO.out _ (show O.getD k O12.z ∈ O by rw [List.getD_eq_getElem?_getD, List.getElem?_eq_getElem hlt]; exact List.getElem_mem _)
        unfold O12.ok at hok
        generalize (O.getD k O12.z).k = ok at c0 hok
        generalize (O.getD k O12.z).j = oj at c1 hok
        generalize (O.getD k O12.z).t = t at c2 hok
        generalize (O.getD k O12.z).v = ov at c3 hok
        obtain ⟨o1, o2, o3, o4, o5, o6, o7, o8⟩ := hok
        have HT := As.mk o1
        have HWT := As.mk (show (Lit.int .u64 t).wf = true by simp [Lit.wf, IntKind.min, IntKind.max, IntKind.signed, IntKind.bits]; omega)
        have HWV := As.mk (show (Lit.int .u64 ov).wf = true by simp [Lit.wf, IntKind.min, IntKind.max, IntKind.signed, IntKind.bits]; omega)
        have HWJ := As.mk (show (Lit.int .i64 oj).wf = true by simp [Lit.wf, IntKind.min, IntKind.max, IntKind.signed, IntKind.bits]; omega)
        clear k0 k1 k2 k3 h3 sc o1 o2 o3 o4 o7 o8
        go_upto_region 12 with fail
        obtain ⟨mO, hKO⟩ := alloc1 (w := wr) #[.int .i64 ok, .int .i64 oj, .int .u64 t, .int .u64 ov] 66
        replace HX := As.mk (HX.out.kp hKO)
        generalize wr.alloc (.cells #[.int .i64 ok, .int .i64 oj, .int .u64 t, .int .u64 ov] 66) = W1 at HX mO ⊢
        generalize wr.heap.size = go at mO ⊢
        have hgo : go ≠ b := by
          obtain ⟨cur, hc⟩ := or_bk HX.out.S.bk (b := b) rfl
          exact bk_ne mO hc (by decide)
        clear c0 c1 c2 c3 hKO
        have HM := As.mk mO
        have d0 := bk_cell mO 0
        have d1 := bk_cell mO 1
        have d2 := bk_cell mO 2
        have d3 := bk_cell mO 3
        clear mO
        have h200 := HL.out
        have hn : k < maxLen := by unfold maxLen; omega
        by_cases hk2 : (Int.tmod ok 2 == 0) = true
        · as_aux_lemma =>
            go_wp2_with fail
            refine (Put_any (v := ov) HX.out.S HT.out).mono ?_
            rintro e W7 ⟨rfl, hS7, hk7⟩
            obtain ⟨p1, p2, p3, p4⟩ := HX.out.slots (pv2 := pv) (ct2 := ct) hS7 hk7
            by_cases her : (sPut L R t ov).1 = 0
            · as_aux_lemma =>
                obtain ⟨i1, i2⟩ := HX.out.I.put HX.out.S.pos HT.out her
                rw [her]
                have mO := bk_kp (S := (· = b)) HM.out hk7 hgo
                have d2 := bk_cell mO 2
                have d3 := bk_cell mO 3
                clear mO hS7 hk7 her
                have HN := As.mk (fun (w8 : World) (hP8 : PIn w8 pb (k + 1) (upd1 pv t ov)) (hk8 : Kp (· = pb) W7 w8) => show X12 w w8 g b P (sPut L R t ov).2 R pb cb (k + 1) (upd1 pv t ov) ct from by
                  obtain ⟨cur, hc⟩ := or_bk p1.bk (b := b) rfl
                  have x := HX.out
                  exact ⟨p1.kp hk8 (fun e => p2.not_cells p1.hd e.symm) (fun e => p2.not_cells hc e.symm), i2, hP8, (p3.kp hk8 (fun e => x.pc e.symm)).mono (by omega), x.pc, x.gb, x.gp, x.gc, p4.new hk8 (fun i hi => by have := x.gp; omega)⟩)
                clear p1 p3 p4 i2 HX HM hgo
                go_wp2_with (first | (at_lookup; refine wp_look_no rfl _ _ rfl pb rfl p2 t HWT.out rfl i1 ?_; intro cz) | (at_mapUpdate; refine wp_put rfl _ _ _ rfl pb rfl hn p2 t ov HWT.out HWV.out rfl rfl ?_; intro w8 hP8 hk8) | fail)
                have HR := As.mk (HN.out w8 hP8 hk8)
                exact ⟨⟨k + 1, _, _, _, by omega, by go_num, HR⟩, by simp [intOf]; omega⟩
            · as_aux_lemma =>
                have hf : ((sPut L R t ov).1 == 0) = false := by simpa using her
                have hX : X12 w W7 g b P (sPut L R t ov).2 R pb cb (k + 1) pv ct := ⟨p1, by rw [sPut_same her]; exact HX.out.I, p2.mono (by omega), p3.mono (by omega), HX.out.pc, HX.out.gb, HX.out.gp, HX.out.gc, p4⟩
                have HN := As.mk hX
                clear hX her hS7 hk7 p1 p2 p3 p4 HX HM
                generalize (sPut L R t ov).1 = er at hf ⊢
                go_wp2
                exact ⟨⟨k + 1, _, _, _, by omega, by go_num, HN⟩, by simp [intOf]; omega⟩
        · as_aux_lemma =>
            go_wp2_with fail
            refine (Get_any (j := oj) HX.out.S HT.out).mono ?_
            rintro e W7 ⟨rfl, hS7, hk7⟩
            obtain ⟨p1, p2, p3, p4⟩ := HX.out.slots (pv2 := pv) (ct2 := ct) hS7 hk7
            by_cases her : (sGet L R oj t).2.1 = 0
            · as_aux_lemma =>
                obtain ⟨i1, i3, i2⟩ := HX.out.I.get HX.out.S.pos HX.out.S.hR HX.out.S.wf HT.out her
                rw [her]
                have mO := bk_kp (S := (· = b)) HM.out hk7 hgo
                have d1 := bk_cell mO 1
                have d2 := bk_cell mO 2
                have HO7 := As.mk mO
                clear mO hS7 hk7 her
                have HN := As.mk (fun (w8 : World) (hC8 : CIn w8 cb (k + 1) (upd2 ct oj t)) (hk8 : Kp (· = cb) W7 w8) => show X12 w w8 g b P (sGet L R oj t).2.2 R pb cb (k + 1) pv (upd2 ct oj t) from by
                  obtain ⟨cur, hc⟩ := or_bk p1.bk (b := b) rfl
                  have x := HX.out
                  exact ⟨p1.kp hk8 (fun e => p3.not_cells p1.hd e.symm) (fun e => p3.not_cells hc e.symm), i2, (p2.kp hk8 x.pc).mono (by omega), hC8, x.pc, x.gb, x.gp, x.gc, p4.new hk8 (fun i hi => by have := x.gc; omega)⟩)
                clear p1 p4 i2 HX HM hgo
                generalize (sGet L R oj t).1 = ev at i1 ⊢
                go_upto_region 21 with (first | (at_lookup; refine wp_look_yes rfl _ _ rfl pb rfl p2 t ev HWT.out rfl i1 ?_) | fail)
                have p3d := p3.kp ((Kp.refl no W7).drew) (fun x => x)
                obtain ⟨st, w8, w9, l1, m1, l2, s1, hC9, kk8, kk9⟩ := p3d.count hn HWJ.out HWT.out i3
                have mO7 := bk_qd HO7.out (QD.drew W7)
                have mO8 := bk_kp mO7 kk8 (fun e => p3d.not_cells mO7 e.symm)
                have mO9 := bk_kp mO7 kk9 (fun e => p3d.not_cells mO7 e.symm)
                have f1 := bk_cell mO8 1
                have f2 := bk_cell mO8 2
                have f3 := bk_cell mO9 1
                have f4 := bk_cell mO9 2
                have HR := As.mk (HN.out w9 hC9 (((Kp.refl (· = cb) W7).drew).trans kk9))
                clear HN mO7 mO8 mO9 kk8 kk9 HO7 p2 p3 i1 i3 p3d
                have hu : upd2 ct oj t oj t = 1 := if_pos ⟨rfl, rfl⟩
                have hne : (ev != ev) = false := by simp
                have l3 := hC9.run HWJ.out HWT.out
                rw [hu] at l3
                clear hu hC9
                go_region
                all_goals
                  go_wp2
                  exact ⟨⟨k + 1, _, _, _, by omega, by go_num, HR⟩, by simp [intOf]; omega⟩
            · as_aux_lemma =>
                have hf : ((sGet L R oj t).2.1 == 0) = false := by simpa using her
                have hX : X12 w W7 g b P (sGet L R oj t).2.2 R pb cb (k + 1) pv ct := ⟨p1, by rw [sGet_same her]; exact HX.out.I, p2.mono (by omega), p3.mono (by omega), HX.out.pc, HX.out.gb, HX.out.gp, HX.out.gc, p4⟩
                have HN := As.mk hX
                clear hX her hS7 hk7 p1 p2 p3 p4 HX HM
                generalize (sGet L R oj t).2.1 = er at hf ⊢
                generalize (sGet L R oj t).1 = ev
                go_wp2
                exact ⟨⟨k + 1, _, _, _, by omega, by go_num, HN⟩, by simp [intOf]; omega⟩
      · go_wp2
        go_ret
        exact ⟨rfl, HX.out.K⟩
  · have hd : decide (200 < O.length) = true := decide_eq_true (by omega)
    have hd2 : decide ((200 : Int) < (O.length : Int)) = true := decide_eq_true (by omega)
    clear hl hc1 hc2
    go_enter Try.func8, Try.ntmps8
    go_wp2_with fail
    refine awake12.mono ?_
    rintro e w1 ⟨rfl, hK1⟩
    go_wp2_with fail
    refine awake12.mono ?_
    rintro e w2 ⟨rfl, hK2⟩
    replace hK1 := hK1.trans hK2
    clear hK2
    go_wp2
    go_ret
    exact ⟨rfl, hK1⟩
end Go.Proofs.Ytmejnhfggmmefaa.H
