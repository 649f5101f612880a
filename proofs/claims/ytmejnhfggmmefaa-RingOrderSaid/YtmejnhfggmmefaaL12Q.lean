/- Layer 12's statements: plays, walked. No condition. -/
import Derived.Test.YtmejnhfggmmefaaL12P
namespace Go.Proofs.Ytmejnhfggmmefaa.H
open Go.RowKit
set_option linter.unusedVariables false
set_option linter.unusedSimpArgs false
variable {w : World} {L : List Sl} {R : Nat} {t v j : Int} {g b cap : Nat}

theorem alloc1 {w : World} (c0 : Array Value) (t0 : TypeId) : (w.alloc (.cells c0 t0)).heap[w.heap.size]? = some (.cells c0 t0 (0, 0)) ∧ Kp no w (w.alloc (.cells c0 t0)) := ⟨heap_alloc_new w _, (Kp.refl no w).alloc _⟩

theorem sGet_err (L : List Sl) (R : Nat) (j t : Int) : (sGet L R j t).2.1 = sGot L R j t := by
  unfold sGet; split
  · rename_i h; exact h.symm
  · rfl
theorem rd_ne2 {W : World} {v : Value} {n g4 : Nat} {M : List Sl} {A : Option Addr} {m c : Nat} {ty : TypeId} (h : Rd W v n (slCells M)) (hM : 0 < M.length) (hb : W.heap[g4]? = some (.cells #[.slice A m c, .int .i64 R] ty (0, 0))) : ∀ k, v.ownBlock = some k → k ≠ g4 := by
  intro k hk e
  subst e
  obtain ⟨ab, ao, c', rfl, _, _, hc⟩ := h.form (by rw [slCells_len]; omega)
  have hk2 : ab = k := by injection hk
  subst hk2
  have h0 := hc 0 _ (slCells_get M 0 hM).1
  rw [Nat.add_zero, bk_cell hb] at h0
  match ao with
  | 0 => simp at h0
  | 1 => simp at h0
  | i + 2 => simp at h0
/-- .. behind a ring's call, the reference's, and the copy of what it gave. -/
theorem P12.next {w0 W W7 W9 : World} {L2 : List Sl} {g4 : Nat} {vv v2 : Value} {O : List O12} {sb so : Nat} (h : P12 w0 W g b cap L R g4 vv O sb so) (hS : SlotsIn W7 g b cap L2 R) (h7 : Kp (· = b) W W7) (h9 : Kp no W7 W9) (hr : RS b W9 (.agg #[v2, .int .i64 R]) L2 R) :
    P12 w0 ((W9.setCell ⟨g4, 0, none⟩ v2).setCell ⟨g4, 1, none⟩ (.int .i64 R)) g b cap L2 R g4 v2 O sb so := by
  obtain ⟨p1, -, p3, p4, p5⟩ := h.put h7
  have hS9 := hS.kp h9 (fun x => x) (fun x => x)
  have q1 := bk_kp p1 h9 (fun x => x)
  have hb4 : b ≠ g4 := fun e => h.g4b e.symm
  have hg4 : g ≠ g4 := bk_ne hS9.hd q1 (by decide)
  have hKs := ((Kp.refl (· = g4) W9).setCell ⟨g4, 0, none⟩ rfl v2).setCell ⟨g4, 1, none⟩ rfl (.int .i64 R)
  have b1 := bk_set (cs' := #[v2, .int .i64 R]) q1 0 v2 rfl
  have b2 := bk_set (cs' := #[v2, .int .i64 R]) b1 1 (.int .i64 R) rfl
  have hlt : sb < W9.heap.size := Nat.lt_of_lt_of_le p4 h9.size
  have hK := (p5.step h9 (fun _ _ x => x.elim)).step hKs (fun i hi e => by have := h.new; omega)
  obtain ⟨v3, e3, hr2, hf2⟩ := hr
  have ev : v2 = v3 := by simpa using e3
  subst ev
  obtain ⟨vo, eo, hro, -⟩ := h.ref
  have evo : vv = vo := by simpa using eo
  subst evo
  obtain ⟨Ao, co, rfl, -⟩ := hro
  refine ⟨hS9.kp hKs hg4 hb4, b2, ⟨v2, rfl, ?_, hf2⟩, fun j u hj => ?_, h.sbb, h.sb4, Nat.lt_of_lt_of_le hlt hKs.size, h.new, hK⟩
  · exact hr2.kp hKs (fun k hk e => rd_ne2 hr2 hS.pos q1 k hk e)
  · rw [World.cell?_of_block (hKs.block sb hlt h.sb4), World.cell?_of_block (h9.block sb p4 (fun x => x))]; exact p3 j u hj
/-- .. and the op of the round. -/
structure Q12 (w0 w : World) (g b cap : Nat) (L : List Sl) (R : Nat) (g4 : Nat) (vv : Value) (O : List O12) (sb so go : Nat) (o : O12) : Prop where
  P : P12 w0 w g b cap L R g4 vv O sb so
  o : w.heap[go]? = some (.cells o.vals.toArray 66 (0, 0))
  n : go ≠ b
theorem Q12.kp {w0 w w' : World} {g4 go : Nat} {vv : Value} {O : List O12} {sb so : Nat} {o : O12} (h : Q12 w0 w g b cap L R g4 vv O sb so go o) (k : Kp no w w') : Q12 w0 w' g b cap L R g4 vv O sb so go o := ⟨h.P.kp k, bk_kp h.o k (fun x => x), h.n⟩
theorem Q12.qd {w0 w w' : World} {g4 go : Nat} {vv : Value} {O : List O12} {sb so : Nat} {o : O12} (h : Q12 w0 w g b cap L R g4 vv O sb so go o) (k : QD w w') : Q12 w0 w' g b cap L R g4 vv O sb so go o := h.kp (Kp.of_qd k)
theorem Q12.put {w0 w w' : World} {g4 go : Nat} {vv : Value} {O : List O12} {sb so : Nat} {o : O12} (h : Q12 w0 w g b cap L R g4 vv O sb so go o) (k : Kp (· = b) w w') : w'.heap[go]? = some (.cells o.vals.toArray 66 (0, 0)) ∧ w'.cell? ⟨go, 0, none⟩ = some (.int .i64 o.k) ∧ w'.cell? ⟨go, 1, none⟩ = some (.int .i64 o.j) ∧ w'.cell? ⟨go, 2, none⟩ = some (.int .u64 o.t) ∧ w'.cell? ⟨go, 3, none⟩ = some (.int .u64 o.v) :=
  have q := bk_kp (S := (· = b)) h.o k h.n
  ⟨q, bk_cell q 0, bk_cell q 1, bk_cell q 2, bk_cell q 3⟩
theorem Q12.c {w0 w : World} {g4 go : Nat} {vv : Value} {O : List O12} {sb so : Nat} {o : O12} (h : Q12 w0 w g b cap L R g4 vv O sb so go o) : w.cell? ⟨go, 0, none⟩ = some (.int .i64 o.k) ∧ w.cell? ⟨go, 1, none⟩ = some (.int .i64 o.j) ∧ w.cell? ⟨go, 2, none⟩ = some (.int .u64 o.t) ∧ w.cell? ⟨go, 3, none⟩ = some (.int .u64 o.v) := ⟨bk_cell h.o 0, bk_cell h.o 1, bk_cell h.o 2, bk_cell h.o 3⟩
set_option maxRecDepth 100000 in
set_option maxHeartbeats 6400000 in
theorem plays_any (h : SlotsIn w g b cap L R) {e0 : Value} (hr : RS b w e0 L R) (O : List O12) (hO : ∀ o ∈ O, 0 ≤ o.t) (sb so c : Nat) (hc : O.length ≤ c) (hO200 : O.length ≤ 200) (hsb : sb ≠ b) (hsl : sb < w.heap.size)
    (hs : ∀ j u, (oCells O)[j]? = some u → w.cell? ⟨sb, so + j, none⟩ = some u) :
    Calls Try.prog 35 #[.pointer (some ⟨g, 0, none⟩), e0, .slice (some ⟨sb, so, none⟩) O.length c] w fun e w' => e = .returned (.bool true) ∧ Kp (· = b) w w' := by
  obtain ⟨v0, rfl, hrd, hfar⟩ := hr
  have HO := As.mk hO
  have HH := As.mk (And.intro h (And.intro hrd (And.intro hfar hs)))
  clear h hrd hfar hs hO
  go_enter Try.func35, Try.ntmps35
  go_wp2
  obtain ⟨m0, hK⟩ := alloc1 (w := w) #[v0, .int .i64 R] 60
  generalize hW : w.alloc (Obj.cells #[v0, .int .i64 R] 60) = W at m0 hK ⊢
  generalize hg4 : w.heap.size = g4 at m0 hsl ⊢
  have hP : P12 w W g b cap L R g4 v0 O sb so := by
    obtain ⟨h, hrd, hfar, hs⟩ := HH.out
    refine ⟨h.kp hK (fun x => x) (fun x => x), m0, ⟨v0, rfl, hrd.kp hK (fun _ _ x => x), hfar⟩, fun j u hj => ?_, hsb, by omega, ?_, by omega, hK.mono (fun _ x => x.elim)⟩
    · rw [World.cell?_of_block (hK.block sb (by omega) (fun x => x))]; exact hs j u hj
    · have := hK.size; omega
  clear HH hW m0 hK
  have HP := As.mk hP
  clear hP
  go_loopw [24] (fun v24 wr => ∃ (k : Nat) (L' : List Sl) (vv : Value), k ≤ O.length ∧ v24 = .int .i64 k ∧ As (P12 w wr g b cap L' R g4 vv O sb so)) (fun v24 _ => O.length - (intOf v24).toNat)
  case atStart => exact ⟨0, L, v0, Nat.zero_le _, rfl, HP⟩
  case round =>
    clear HP
    obtain ⟨k, L', vv, hk, rfl, HP⟩ := hrel
    by_cases hlt : k < O.length
    · have P := HP.out
      obtain ⟨k0, k1, k2, k3⟩ := oCells_get O k hlt
      have c0 := P.sc _ _ k0
      have c1 := P.sc _ _ k1
      have c2 := P.sc _ _ k2
      have c3 := P.sc _ _ k3
      rw [← Nat.add_assoc] at c1 c2 c3
      have ht : 0 ≤ (O.getD k O12.z).t := HO.out _ (by rw [List.getD_eq_getElem?_getD, List.getElem?_eq_getElem hlt]; exact List.getElem_mem _)
      generalize (O.getD k O12.z).k = ok at c0
      generalize (O.getD k O12.z).j = oj at c1
      generalize (O.getD k O12.z).t = t at c2 ht
      generalize (O.getD k O12.z).v = ov at c3
      obtain ⟨vv', hve, hrd, hfar⟩ := P.ref
      have hvv : vv = vv' := by simpa using hve
      subst hvv
      have hx0 : 0 < (slCells L').length := by rw [slCells_len]; have := P.S.pos; omega
      obtain ⟨ab, ao, c', rfl, -, -, -⟩ := hrd.form hx0
      obtain ⟨hI, -, -, -, -, hsrc, q0, -, -⟩ := rfacts P.S.rarg hrd ht
      change wr.cell? _ = some (.int .u64 (slAt L' t).st) at q0
      have hpl := pl_lt P.S.pos t
      have e0 := bk_cell P.box 0
      have e1 := bk_cell P.box 1
      have h64 := P.S.le
      have g4lt := bk_lt P.box
      have hslt := P.slt
      generalize hst : (slAt L' t).st = st at q0
      generalize hpp : pl L' t = pp at hI q0 hpl
      have HST := As.mk hst
      have HPP := As.mk hpp
      clear k0 k1 k2 k3 hx0 hst hpp P hve hrd hfar
      have hpos : (0 : Int) < (L'.length : Int) := by omega
      clear hslt hsrc
      go_upto_region 5 with fail
      obtain ⟨mO, hKO⟩ := alloc1 (w := wr) #[.int .i64 ok, .int .i64 oj, .int .u64 t, .int .u64 ov] 66
      have hQ : Q12 w (wr.alloc (.cells #[.int .i64 ok, .int .i64 oj, .int .u64 t, .int .u64 ov] 66)) g b cap L' R g4 (.slice (some ⟨ab, ao, none⟩) L'.length c') O sb so wr.heap.size ⟨ok, oj, t, ov⟩ := ⟨HP.out.kp hKO, mO, by have := HP.out.S.blt; omega⟩
      have q0' := (World.cell?_of_block (hKO.block ab (World.block_lt_of_cell? _ _ q0) (fun x => x))).trans q0
      generalize wr.alloc (.cells #[.int .i64 ok, .int .i64 oj, .int .u64 t, .int .u64 ov] 66) = W1 at hQ q0' ⊢
      generalize wr.heap.size = go at hQ ⊢
      obtain ⟨d0, d1, d2, d3⟩ := hQ.c
      have hbox := bk_cell hQ.P.box 0
      have HQ := As.mk hQ
      clear mO hKO hQ c0 c1 c2 c3 e0 e1 q0 HP g4lt
      have HT := As.mk ht
      go_cut [10] from 25 to 135 (fun s10 wx => s10 = .bool (sFree L' t) ∧ QD W1 wx)
      case first =>
        as_aux_lemma =>
          by_cases hb : t < 4611686018427387904
          · have hd : decide (t < 4611686018427387904) = true := decide_eq_true hb
            have hm : IntKind.u64.wrap (2 * t) = 2 * t := by rw [IntKind.wrap_u64]; omega
            have HS := As.mk (show sFree L' t = (st == 2 * t) from by unfold sFree; rw [hd, Bool.true_and, HST.out])
            go_quiet (fail)
            go_wp2
            go_meet
            exact ⟨by rw [HS.out], QD.n _ _⟩
          · have hd : decide (t < 4611686018427387904) = false := decide_eq_false hb
            have HS := As.mk (show sFree L' t = false from by unfold sFree; rw [hd, Bool.false_and])
            clear hb
            go_quiet (fail)
            go_wp2
            go_meet
            exact ⟨by rw [HS.out], QD.n _ _⟩
      case rest =>
        as_aux_lemma =>
          obtain ⟨rfl, hq⟩ := hcut
          have hQ := HQ.out.qd hq
          clear hq d0 d1 d2 d3 hbox q0' HQ hI hpl hpos h64 HST HPP
          obtain ⟨d0, d1, d2, d3⟩ := hQ.c
          have hb0 := bk_cell hQ.P.box 0
          have hb1 := bk_cell hQ.P.box 1
          have HQ := As.mk hQ
          clear hQ
          go_wp2_with fail
          refine (RGet_any HQ.out.P.S.rarg HQ.out.P.ref HQ.out.P.S.blt HT.out).mono ?_
          rintro e W3 ⟨vv1, rfl, hr1, hk⟩
          obtain ⟨v1, rfl, hr1, -⟩ := hr1
          obtain ⟨A1, c1, rfl, -⟩ := hr1
          replace HQ := As.mk (HQ.out.kp hk)
          clear hk
          rw [sGet_err]
          go_upto_region 7 with fail
          have hK4 := (Kp.refl no W3).alloc (.cells #[.slice A1 (sGet L' R oj t).2.2.length c1, .int .i64 R] 60)
          replace HQ := As.mk (HQ.out.kp hK4)
          generalize W3.alloc (.cells #[.slice A1 (sGet L' R oj t).2.2.length c1, .int .i64 R] 60) = W4 at HQ ⊢
          clear hK4
          obtain ⟨d0, d1, d2, d3⟩ := HQ.out.c
          have hF := fun n => Free_ok (HQ.out.P.S.qd (QD.n W4 n)) HT.out
          have hH := fun n => Has_any (j := oj) (HQ.out.P.S.qd (QD.n W4 n)) HT.out
          generalize sFree L' t = fb at hF ⊢
          have hne : (fb != fb) = false := by cases fb <;> rfl
          have hne2 : ((sGot L' R oj t == 0) != (sGot L' R oj t == 0)) = false := by cases (sGot L' R oj t == 0) <;> rfl
          go_wp2_with fail
          refine (hF 0).mono ?_
          rintro e W5 ⟨rfl, hq⟩
          replace HQ := As.mk (HQ.out.qd hq)
          clear hq d0 d1 d2 d3 hF hH
          obtain ⟨d0, d1, d2, d3⟩ := HQ.out.c
          go_wp2_with fail
          refine (Has_any HQ.out.P.S HT.out).mono ?_
          rintro e W6 ⟨rfl, hq⟩
          replace HQ := As.mk (HQ.out.qd hq)
          clear hq d0 d1 d2 d3
          obtain ⟨d0, d1, d2, d3⟩ := HQ.out.c
          generalize sGot L' R oj t = gg at hne2 ⊢
          go_upto_if 81 with fail
          clear hne hne2
          generalize (sGet L' R oj t).1 = s11
          go_cut [14, 15, 16, 17, 18, 19, 20, 21] from 25 to 135 (fun s14 s15 s16 s17 s18 s19 s20 s21 wx => ∃ L2 v2, As (P12 w wx g b cap L2 R g4 v2 O sb so))
          case first =>
            by_cases hk2 : (Int.tmod ok 2 == 0) = true
            · as_aux_lemma =>
                go_wp2_with fail
                refine (Put_any (v := ov) HQ.out.P.S HT.out).mono ?_
                rintro e W7 ⟨rfl, hS7, hk7⟩
                obtain ⟨p1, p2, p3, p4, p5⟩ := HQ.out.P.put hk7
                obtain ⟨ho7, d0, d1, d2, d3⟩ := HQ.out.put hk7
                have b0 := bk_cell p1 0
                have b1 := bk_cell p1 1
                have HR := As.mk (And.intro p2 (And.intro p1 ho7))
                have HK := As.mk (And.intro hS7 hk7)
                clear hS7 hk7 p1 p2 p3 p4 p5 ho7
                go_wp2_with fail
                refine (RPut_any (v := ov) HQ.out.P.S.rarg HR.out.1 HK.out.1.blt HT.out).mono ?_
                rintro e W8 ⟨vv2, rfl, hr2, hk8⟩
                obtain ⟨v2, rfl, hrd2, hf2⟩ := hr2
                obtain ⟨A2, c2, rfl, -⟩ := id hrd2
                have hne := (show ((sPut L' R t ov).1 != (sPut L' R t ov).1) = false from by simp)
                generalize (sPut L' R t ov).1 = er at hne ⊢
                generalize (sPut L' R t ov).2 = L2 at HK hrd2 hf2 ⊢
                go_upto_region 12 with fail
                have hK9 := (Kp.refl no W8).alloc (.cells #[.slice A2 L2.length c2, .int .i64 R] 60)
                have m9 := heap_alloc_new W8 (.cells #[.slice A2 L2.length c2, .int .i64 R] 60)
                have HN := As.mk (HQ.out.P.next HK.out.1 HK.out.2 (hk8.trans hK9) (RS.kp ⟨_, rfl, hrd2, hf2⟩ hK9 (fun _ x => x.elim)))
                have p9 := bk_kp (bk_kp HR.out.2.1 hk8 (fun x => x)) hK9 (fun x => x)
                generalize W8.alloc (.cells #[.slice A2 L2.length c2, .int .i64 R] 60) = W9 at m9 p9 HN ⊢
                generalize W8.heap.size = g9 at m9 ⊢
                have a0 := bk_cell m9 0
                have a1 := bk_cell m9 1
                have b0 := bk_cell p9 0
                have b1 := bk_cell p9 1
                have z0 := bk_fz p9 0
                have z1 := bk_fz p9 1
                have HF := As.mk (And.intro m9 (And.intro p9 (And.intro hrd2 hf2)))
                clear m9 p9 hrd2 hf2 hk8 hK9
                go_wp2
                go_meet
                exact ⟨_, _, HN⟩
            · as_aux_lemma =>
                go_wp2_with fail
                refine (Get_any (j := oj) HQ.out.P.S HT.out).mono ?_
                rintro e W7 ⟨rfl, hS7, hk7⟩
                obtain ⟨p1, p2, p3, p4, p5⟩ := HQ.out.P.put hk7
                obtain ⟨ho7, d0, d1, d2, d3⟩ := HQ.out.put hk7
                have b0 := bk_cell p1 0
                have b1 := bk_cell p1 1
                have HR := As.mk (And.intro p2 (And.intro p1 ho7))
                have HK := As.mk (And.intro hS7 hk7)
                clear hS7 hk7 p1 p2 p3 p4 p5 ho7
                go_wp2_with fail
                refine (RGet_any (j := oj) HQ.out.P.S.rarg HR.out.1 HK.out.1.blt HT.out).mono ?_
                rintro e W8 ⟨vv2, rfl, hr2, hk8⟩
                obtain ⟨v2, rfl, hrd2, hf2⟩ := hr2
                obtain ⟨A2, c2, rfl, -⟩ := id hrd2
                have hne := (show ((sGet L' R oj t).2.1 != (sGet L' R oj t).2.1) = false from by simp)
                have hne2 := (show ((sGet L' R oj t).1 != (sGet L' R oj t).1) = false from by simp)
                generalize (sGet L' R oj t).1 = ev at hne2 ⊢
                generalize (sGet L' R oj t).2.1 = er at hne ⊢
                generalize (sGet L' R oj t).2.2 = L2 at HK hrd2 hf2 ⊢
                go_upto_region 17 with fail
                have hK9 := (Kp.refl no W8).alloc (.cells #[.slice A2 L2.length c2, .int .i64 R] 60)
                have m9 := heap_alloc_new W8 (.cells #[.slice A2 L2.length c2, .int .i64 R] 60)
                have HN := As.mk (HQ.out.P.next HK.out.1 HK.out.2 (hk8.trans hK9) (RS.kp ⟨_, rfl, hrd2, hf2⟩ hK9 (fun _ x => x.elim)))
                have p9 := bk_kp (bk_kp HR.out.2.1 hk8 (fun x => x)) hK9 (fun x => x)
                generalize W8.alloc (.cells #[.slice A2 L2.length c2, .int .i64 R] 60) = W9 at m9 p9 HN ⊢
                generalize W8.heap.size = g9 at m9 ⊢
                have a0 := bk_cell m9 0
                have a1 := bk_cell m9 1
                have b0 := bk_cell p9 0
                have b1 := bk_cell p9 1
                have z0 := bk_fz p9 0
                have z1 := bk_fz p9 1
                have HF := As.mk (And.intro m9 (And.intro p9 (And.intro hrd2 hf2)))
                clear m9 p9 hrd2 hf2 hk8 hK9
                go_wp2
                go_meet
                exact ⟨_, _, HN⟩
          case rest =>
            as_aux_lemma =>
              obtain ⟨L2, v2, hP⟩ := hcut
              clear d0 d1 d2 d3 HQ
              go_upto_region 20 with fail
              have hP1 := hP.out.qd (QD.drew wc)
              have hlp : 0 < L2.length := hP1.S.pos
              have hl64 : L2.length ≤ 64 := hP1.S.le
              obtain ⟨vr, er, hrd, -⟩ := hP1.ref
              have evr : v2 = vr := by simpa using er
              subst evr
              have hst := bk_cell hP1.box 0
              obtain ⟨A2, c2, rfl, -⟩ := id hrd
              have hS1 := hP1.S
              have HP2 := As.mk hP1
              clear er hP hP1
              go_region_held3 (fun w' => w'.cell? ⟨g4, 0, none⟩ = some (.slice A2 L2.length c2)) (first | exact hst4 | exact hst3 | exact hst)
                (first
                  | (go_at_call 41; refine (All_any hS1).mono ?_; rintro e w3 ⟨v3, rfl, ho3, hK3⟩; obtain ⟨A3, k3, rfl⟩ := or_form ho3; have HP3 := As.mk (HP2.out.kp hK3); have hst3 := bk_cell HP3.out.box 0)
                  | (go_at_call 74; refine (RSame (Rd.of_own ho3) (hrd.kp hK3 (fun _ _ x => x)) hlp hl64).mono ?_; rintro e w4 ⟨rfl, hq4⟩; have HP4 := As.mk (HP3.out.qd hq4); have hst4 := bk_cell HP4.out.box 0))
              clear hst hst3 hst4 hrd hS1 hK3 ho3 HP2 HP3 hq4
              go_wp2
              exact ⟨⟨k + 1, L2, _, by omega, by go_num, HP4⟩, by simp [intOf]; omega⟩
    · go_wp2
      go_ret
      exact ⟨rfl, HP.out.K⟩
end Go.Proofs.Ytmejnhfggmmefaa.H
