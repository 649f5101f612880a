/- Layer 14: what model's New, Put, Get, Close and Rest do. No condition. Layer 14: what model's Rest and New do. No condition. Layer 14: what model's New does. No condition. -/
import Derived.Test.YtmejnhfggmmefaaMd
namespace Go.Proofs.Ytmejnhfggmmefaa.H
open Go.RowKit
set_option linter.unusedVariables false
set_option linter.unusedSimpArgs false
variable {w : World} {B : MB} {m : Md} {t j v : Int}

theorem Try.infoInt : (Try.prog.info? 3).map (fun i => (i.zero, i.size, i.bytes)) = some (some (.int .i64 0), 1, 8) := by kernel_rfl

set_option maxRecDepth 100000 in
set_option maxHeartbeats 3200000 in
theorem MinI_ok (hb n c : Nat) (l : List Int) (hn : l.length = n) (h0 : 0 < n) (hm : n ≤ 9223372036854775807) (hx : ∀ i, i < n → w.cell? ⟨hb, i, none⟩ = some (.int .i64 (l.getD i 0))) :
    Calls Try.prog 67 #[.slice (some ⟨hb, 0, none⟩) n c] w fun e w' => e = .returned (.int .i64 (leastL l)) ∧ w' = w := by
  have hX := As.mk hx
  have hN := As.mk hn
  have c0 := hx 0 h0
  have h0' : (0 : Int) < (n : Int) := by omega
  clear hx hn
  go_enter Try.func67, Try.ntmps67
  go_wp2
  go_loop [3, 4] (fun v3 v4 => ∃ k : Nat, 1 ≤ k ∧ k ≤ n ∧ v4 = .int .i64 k ∧ v3 = .int .i64 (leastL (l.take k))) (fun _ v4 => n - (intOf v4).toNat)
  case atStart =>
    refine ⟨1, Nat.le_refl _, by omega, rfl, ?_⟩
    have hl := hN.out
    match l, hl with
    | [], hl => simp at hl; omega
    | a :: l, _ => simp [leastL]
  case round =>
    obtain ⟨k, hk1, hk, rfl, rfl⟩ := hrel
    by_cases hlt : k < n
    · have hc := hX.out k hlt
      have hlt2 : (k : Int) < (n : Int) := by omega
      have hnn : (0 : Int) ≤ (k : Int) := by omega
      have hs : As (min (leastL (l.take k)) (l.getD k 0) = leastL (l.take (k + 1))) := ⟨by
        have hl := hN.out
        match l, hl, hk1, hlt with
        | [], hl, _, hlt => simp at hl; omega
        | a :: l, hl, hk1, hlt =>
          obtain ⟨k, rfl⟩ : ∃ m, k = m + 1 := ⟨k - 1, by omega⟩
          have hkl : k < l.length := by simp at hl; omega
          simp only [List.take_succ_cons, leastL, List.getD_cons_succ]
          rw [List.take_succ_eq_append_getElem hkl, List.foldl_append]
          simp [List.getD, hkl]⟩
      clear c0
      go_wp2
      go_round
      case rel => exact ⟨k + 1, by omega, by omega, by go_num, by rw [← hs.out]; first | rfl | simp⟩
      case measure => simp [intOf]; omega
    · go_wp2
      go_ret
      have : k = n := by omega
      subst this
      have hl := hN.out
      exact ⟨by rw [List.take_of_length_le (by omega)]; rfl, rfl⟩

theorem MdIn.least (h : MdIn w B m) : 0 ≤ leastL m.got ∧ leastL m.got ≤ m.l.length := h.h0 _ (leastL_mem h.n0)
def MPutPost (w : World) (B : MB) (x : Int × Int × Md) (e : Ending) (w' : World) : Prop :=
  ∃ B', e = .returned (.tuple #[.int .u64 x.1, .int .i64 x.2.1]) ∧ MdIn w' B' x.2.2 ∧ B'.g = B.g ∧ (∀ k, B'.own k → B.own k ∨ w.heap.size ≤ k) ∧ Kp B.own w w'
theorem mput_same {w' : World} {e : Ending} (h : MdIn w B m) (a b : Int) (he : e = .returned (.tuple #[.int .u64 a, .int .i64 b])) (q : QD w w') : MPutPost w B (a, b, m) e w' :=
  ⟨B, he, h.qd q, rfl, fun k hk => .inl hk, Kp.of_qd q⟩
set_option maxRecDepth 100000 in
set_option maxHeartbeats 6400000 in
theorem MPut_any (h : MdIn w B m) (hb : m.l.length < 1000000) (v : Int) : Calls Try.prog 25 #[.pointer (some ⟨B.g, 0, none⟩), .int .u64 v] w fun e w' =>
    MPutPost w B (mPut m v) e w' := by
  have hs := h
  have c3 := h.c3
  unfold mPut
  cases hc : m.closed with
  | true =>
    rw [hc] at c3
    have HC := As.mk hc
    clear hc
    go_enter Try.func25, Try.ntmps25
    go_wp2
    go_ret2
    exact mput_same hs _ _ rfl (QD.refl _)
  | false =>
    rw [hc] at c3
    have HC := As.mk hc
    have hle := h.least
    have hw : IntKind.i64.wrap ((m.l.length : Int) - leastL m.got) = (m.l.length : Int) - leastL m.got := by rw [IntKind.wrap_i64]; omega
    have hmin := fun (n : Nat) => MinI_ok (w := w.drewN n) B.gb m.got.length B.gcap m.got rfl h.n0 (by have := h.n8; omega) (fun i hi => (h.qd (QD.n _ n)).cg hi)
    have HMIN := As.mk hmin
    have c0 := h.c0
    have c1 := h.c1
    have c2 := h.c2
    have hb' := As.mk hb
    clear hc hmin hle hb
    cases hf : mFull m with
    | true =>
      have hd : decide (m.most ≤ (m.l.length : Int) - leastL m.got) = true := hf
      clear hf
      go_enter Try.func25, Try.ntmps25
      go_wp2
      go_quiet ((go_at_call 67; exact Calls.quiet_of_same (HMIN.out _)))
      go_wp2
      go_ret2
      exact mput_same hs _ _ rfl (QD.n _ _)
    | false =>
      have hd : decide (m.most ≤ (m.l.length : Int) - leastL m.got) = false := hf
      obtain ⟨i0, hi, hz0, hz1, hz2⟩ := info_parts Try.infoU64
      clear hf
      go_enter Try.func25, Try.ntmps25
      go_wp2
      go_quiet ((go_at_call 67; exact Calls.quiet_of_same (HMIN.out _)))
      have hs2 := hs.qd (QD.n w nq)
      have hK0 : Kp B.own w (w.drewN nq) := Kp.of_qd (QD.n w nq)
      generalize w.drewN nq = w1 at hs2 hK0 ⊢
      clear c0 c1 c2 c3 HMIN hw hd
      have c1 := hs2.c1
      have hl := hs2.hl.alloc (.cells #[.int .u64 v] 36)
      have hn : ∀ (j : Nat) (u : Value), [Value.int .u64 v][j]? = some u → (w1.alloc (.cells #[.int .u64 v] 36)).cell? ((⟨w1.heap.size, 0, none⟩ : Addr).add j) = some u := fun j u hj => by
        match j, hj with
        | 0, hj => injection hj with hj; subst hj; rw [add_none]; exact bk_cell (heap_alloc_new _ _) 0
      have HN := As.mk (And.intro hl hn)
      have hg2 := hs2.hd
      have hK1 : Kp B.own w (w1.alloc (.cells #[.int .u64 v] 36)) := hK0.alloc _
      have hs3 := hs2.kp (Kp.alloc (Kp.refl no w1) (.cells #[.int .u64 v] 36)) (fun _ _ x => x)
      have hlt := As.mk hs2.lt
      clear hl hn hg2
      go_wp2_with (at_builtin; refine wpList_append_own_at _ (by rfl) _ _ 31 (by rfl) 0 36 i0 _ 1 8 Try.underlying31 hi hz0 hz1 hz2 (by rfl) (by decide) (B.v m.l.length) m.l.length (u64s m.l) (by rfl) HN.out.1 ⟨w1.heap.size, 0, none⟩ 1 1 [.int .u64 v] (by rfl) (by rfl) HN.out.2 (by simp [Value.oneCell']) (by have := hb'.out; unfold maxLen; omega) (by have := hb'.out; omega) (by simp) ?_; intro v' w' hown hgrow _ hat; obtain ⟨A', c', rfl⟩ := or_form hown; have hG := As.mk ((hgrow.block B.g (hs3.lt B.g (.inl rfl)) (fun e => hs3.g_l _ (by rw [← ownB B m.l.length]; exact e.symm) rfl)).trans hs3.hd); have e1 : w'.cell? ⟨B.g, 1, none⟩ = some (.slice B.A m.l.length B.c) := bk_cell hG.out 1; have z1 := bk_fz hG.out 1)
      go_ret2
      have hbig := hb'.out
      have e0 : IntKind.u64.wrap (wrap64 (m.l.length : Int)) = (m.l.length : Int) := by
        rw [IntKind.wrap_u64]; unfold wrap64; omega
      have hne : ∀ k, A'.map (·.block) = some k → B.g ≠ k := fun k hk => by
        obtain ⟨cur, hcur⟩ := or_bk hown (b := k) (by rw [← hk]; cases A' <;> rfl)
        exact bk_ne hG.out hcur (by decide)
      have hKs := Kp.set1 w' B.g 1 (.slice A' (m.l.length + 1) c')
      have hsz : w.heap.size ≤ (w1.alloc (.cells #[.int .u64 v] 36)).heap.size := hK1.size
      have hB := bk_set (cs' := #[.int .i64 m.most, .slice A' (m.l.length + 1) c', .slice (some ⟨B.gb, 0, none⟩) m.got.length B.gcap, .bool m.closed]) hG.out 1 (.slice A' (m.l.length + 1) c') rfl
      have hF : MdIn (w'.setCell ⟨B.g, 1, none⟩ (.slice A' (m.l.length + 1) c')) ⟨B.g, A', c', B.gb, B.gcap⟩ { m with l := m.l ++ [v] } := by
        refine ⟨?_, ?_, ?_, hs.n0, hs.n8, by show (m.l ++ [v]).length ≤ 1000000; rw [List.length_append]; simp; omega, hs.m0, hs.m1, fun x hx => ⟨(hs.h0 x hx).1, by have := (hs.h0 x hx).2; show x ≤ ((m.l ++ [v]).length : Int); rw [List.length_append]; simp; omega⟩⟩
        · have : (m.l ++ [v]).length = m.l.length + 1 := by simp
          simpa [Md.cells, MB.v, this] using hB
        · have h1 := or_kp hown hKs (fun b hb e => hne b (by rw [← hb]; cases A' <;> rfl) e.symm)
          have h2 : u64s (m.l ++ [v]) = u64s m.l ++ [.int .u64 v] := by simp [u64s]
          show (w'.setCell _ _).ownsRow 0 36 1 (.slice A' (m.l ++ [v]).length c') (m.l ++ [v]).length (u64s (m.l ++ [v]))
          rw [h2, List.length_append]; exact h1
        · have h1 := hs3.hg.kept hgrow (.inr (by
            intro e
            exact hs3.gb_l B.gb (by rw [← ownB B m.l.length, ← e]; rfl) rfl))
          exact or_kp h1 hKs (by intro c hc; cases hc; exact fun e => hs3.g_gb e.symm)
      rw [HC.out] at hF
      refine ⟨⟨B.g, A', c', B.gb, B.gcap⟩, by simp [e0], hF, rfl, ?_, (hK1.grown hgrow (fun k hk _ => .inr (.inr (by rw [← ownB B m.l.length]; exact hk)))).setCell _ (.inl rfl) _⟩
      rintro k (h | h | h)
      · exact .inl (.inl h)
      · exact .inl (.inr (.inl h))
      · change A'.map (·.block) = some k at h
        have h2 : (Value.slice A' (m.l.length + 1) c').ownBlock = some k := by rw [← h]; cases A' <;> rfl
        rcases hat with ha | ha
        · rw [h2, ownB] at ha; exact .inl (.inr (.inr ha.symm))
        · rw [h2] at ha; injection ha with ha; exact .inr (by omega)
theorem MPut_nil : Calls Try.prog 25 #[.pointer none, .int .u64 v] w fun e w' => e = .returned (.tuple #[.int .u64 0, .int .i64 15]) ∧ QD w w' := by
  go_enter Try.func25, Try.ntmps25
  go_wp2
  go_ret2
  exact ⟨rfl, QD.refl _⟩
set_option maxRecDepth 100000 in
set_option maxHeartbeats 3200000 in
theorem MGet_arg (h : MdIn w B m) (hj : mIs m j = false) : Calls Try.prog 27 #[.pointer (some ⟨B.g, 0, none⟩), .int .i64 j] w fun e w' => e = .returned (.tuple #[.int .u64 0, .int .i64 1]) ∧ QD w w' := by
  have c2 := h.c2
  by_cases h1 : j < 0
  · have d1 : decide (j < 0) = true := decide_eq_true h1
    clear h1 hj
    go_enter Try.func27, Try.ntmps27
    go_wp2
    go_ret2
    exact ⟨rfl, QD.refl _⟩
  · have d1 : decide (j < 0) = false := decide_eq_false h1
    have h2 : (m.got.length : Int) ≤ j := by unfold mIs at hj; rw [decide_eq_true (by omega)] at hj; simp at hj; omega
    have d2 : decide ((m.got.length : Int) ≤ j) = true := decide_eq_true h2
    clear h1 h2 hj
    go_enter Try.func27, Try.ntmps27
    go_wp2
    go_ret2
    exact ⟨rfl, QD.refl _⟩
set_option maxRecDepth 100000 in
set_option maxHeartbeats 3200000 in
theorem MGet_none (h : MdIn w B m) (hj : mIs m j = true) (he : mGot m j = m.l.length) : Calls Try.prog 27 #[.pointer (some ⟨B.g, 0, none⟩), .int .i64 j] w fun e w' => e = .returned (.tuple #[.int .u64 0, .int .i64 (if m.closed then 10 else 9)]) ∧ QD w w' := by
  have c1 := h.c1
  have c2 := h.c2
  have c3 := h.c3
  have hs := h
  have hb : (0 : Int) ≤ j ∧ j < (m.got.length : Int) := by simp [mIs] at hj; exact hj
  obtain ⟨hb0, hb1⟩ := hb
  have d1 : decide (j < 0) = false := decide_eq_false (by omega)
  have d2 : decide ((m.got.length : Int) ≤ j) = false := decide_eq_false (by omega)
  have hc := h.cg (i := j.toNat) (by omega)
  change w.cell? _ = some (.int .i64 (mGot m j)) at hc
  rw [he] at hc
  have HE := As.mk he
  clear hj he
  cases hcl : m.closed with
  | true =>
    rw [hcl] at c3
    clear hcl
    go_enter Try.func27, Try.ntmps27
    go_wp2
    go_quiet (fail)
    go_wp2
    go_ret2
    exact ⟨rfl, QD.n _ _⟩
  | false =>
    rw [hcl] at c3
    clear hcl
    go_enter Try.func27, Try.ntmps27
    go_wp2
    go_quiet (fail)
    generalize hq : w.drewN nq = w1
    replace hq : QD w w1 := ⟨nq, hq.symm⟩
    have hs1 := hs.qd hq
    clear c1 c2 c3 hc
    have c1 := hs1.c1
    have c2 := hs1.c2
    have hc := hs1.cg (i := j.toNat) (by omega)
    change w1.cell? _ = some (.int .i64 (mGot m j)) at hc
    rw [HE.out] at hc
    go_wp2
    go_quiet (fail)
    go_wp2
    go_ret2
    exact ⟨rfl, hq.trans (QD.n _ _)⟩
set_option maxRecDepth 100000 in
set_option maxHeartbeats 3200000 in
theorem MGet_some (h : MdIn w B m) (hj : mIs m j = true) (he : mGot m j ≠ m.l.length) : Calls Try.prog 27 #[.pointer (some ⟨B.g, 0, none⟩), .int .i64 j] w fun e w' => e = .returned (.tuple #[.int .u64 (m.l.getD (mGot m j).toNat 0), .int .i64 0]) ∧ MdIn w' B { m with got := m.got.set j.toNat (mGot m j + 1) } ∧ Kp B.own w w' := by
  have c1 := h.c1
  have c2 := h.c2
  have c3 := h.c3
  have hs := h
  have hb : (0 : Int) ≤ j ∧ j < (m.got.length : Int) := by simp [mIs] at hj; exact hj
  obtain ⟨hb0, hb1⟩ := hb
  have d1 : decide (j < 0) = false := decide_eq_false (by omega)
  have d2 : decide ((m.got.length : Int) ≤ j) = false := decide_eq_false (by omega)
  have hjl : j.toNat < m.got.length := by omega
  have hin := h.h0 (mGot m j) (by unfold mGot; rw [List.getD_eq_getElem?_getD, List.getElem?_eq_getElem hjl]; exact List.getElem_mem _)
  have hc := h.cg hjl
  change w.cell? _ = some (.int .i64 (mGot m j)) at hc
  have hbig := h.big
  obtain ⟨G, hG⟩ := Int.eq_ofNat_of_zero_le hin.1
  have hGl : G < m.l.length := by omega
  rw [hG] at hc
  have HG := As.mk hG
  have HGL := As.mk hGl
  have dne : ((G : Int) == (m.l.length : Int)) = false := by simp; omega
  have HJL := As.mk hjl
  have hw1 : IntKind.i64.wrap ((G : Int) + 1) = (G : Int) + 1 := by rw [IntKind.wrap_i64]; omega
  have hw2 : IntKind.i64.wrap ((G : Int) + 1 - 1) = (G : Int) := by rw [IntKind.wrap_i64]; omega
  have hGb : As ((G : Int) < 1000001) := ⟨by omega⟩
  clear hj he hin hG hGl hjl hbig
  go_enter Try.func27, Try.ntmps27
  go_wp2
  go_quiet (fail)
  generalize hq : w.drewN nq = w1
  replace hq : QD w w1 := ⟨nq, hq.symm⟩
  have hs1 := hs.qd hq
  clear c1 c2 c3 hc
  have c1 := hs1.c1
  have c2 := hs1.c2
  have hc := hs1.cg HJL.out
  change w1.cell? _ = some (.int .i64 (mGot m j)) at hc
  rw [HG.out] at hc
  go_wp2
  go_quiet (fail)
  generalize hq2 : w1.drewN nq = w2
  replace hq2 : QD w1 w2 := ⟨nq, hq2.symm⟩
  have hs2 := hs1.qd hq2
  have hQ := hq.trans hq2
  clear c1 c2 hc hs1 hq hq2
  have c2 := hs2.c2
  have hc := hs2.cg HJL.out
  change w2.cell? _ = some (.int .i64 (mGot m j)) at hc
  rw [HG.out] at hc
  have hfz := hs2.gfz j.toNat
  have hF := hs2.setGot HJL.out (t := (G : Int) + 1) (by omega) (by have := HGL.out; omega)
  have hGb' := hGb.out
  go_wp2
  have hKF : Kp B.own w (w2.setCell ⟨B.gb, j.toNat, none⟩ (.int .i64 ((G : Int) + 1))) := (Kp.of_qd hQ).setCell _ (.inr (.inl rfl)) _
  generalize w2.setCell ⟨B.gb, j.toNat, none⟩ (.int .i64 ((G : Int) + 1)) = W at hF hKF ⊢
  clear c2 hc hfz hs2
  have hG2 := HG.out
  rw [← hG2] at hF
  obtain ⟨lb, lc, hv, _⟩ := or_some hF.hl (by have := HGL.out; show 0 < m.l.length; omega)
  obtain ⟨Bg, BA, Bc, Bgb, Bgc⟩ := B
  injection hv with hv1 hv2 hv3
  change BA = _ at hv1
  change Bc = _ at hv3
  subst hv1 hv3
  have c1 : W.cell? ⟨Bg, 1, none⟩ = some (.slice (some ⟨lb, 0, none⟩) m.l.length Bc) := hF.c1
  have c2 : W.cell? ⟨Bg, 2, none⟩ = some (.slice (some ⟨Bgb, 0, none⟩) m.got.length Bgc) := by have := hF.c2; simpa using this
  have hc : W.cell? ⟨Bgb, j.toNat, none⟩ = some (.int .i64 ((G : Int) + 1)) := by
    have := hF.cg (i := j.toNat) (by simpa using HJL.out)
    have e : (m.got.set j.toNat (mGot m j + 1)).getD j.toNat 0 = (G : Int) + 1 := by
      have := HJL.out
      simp [List.getD, this, hG2]
    change W.cell? _ = some (.int .i64 ((m.got.set j.toNat (mGot m j + 1)).getD j.toNat 0)) at this
    rw [e] at this; exact this
  have hcl : W.cell? ⟨lb, G, none⟩ = some (.int .u64 (m.l.getD G 0)) := or_cell hF.hl _ _ (u64s_get _ _ HGL.out)
  have hGl2 : (G : Int) < (m.l.length : Int) := by have := HGL.out; omega
  have hG0 : (0 : Int) ≤ (G : Int) := by omega
  have hgt : (mGot m j).toNat = G := by rw [hG2]; rfl
  have HGT := As.mk hgt
  have HFF := As.mk hF
  generalize hlg : m.l.getD G 0 = lg at hcl
  have HLG := As.mk hlg
  clear hlg hF hgt hG2
  go_quiet (fail)
  go_wp2
  go_ret2
  exact ⟨by rw [HGT.out]; simp [← HLG.out], HFF.out.qd (QD.n _ _), hKF.drewN _⟩
theorem MGet_any (h : MdIn w B m) (j : Int) : Calls Try.prog 27 #[.pointer (some ⟨B.g, 0, none⟩), .int .i64 j] w fun e w' => e = .returned (.tuple #[.int .u64 (mGet m j).1, .int .i64 (mGet m j).2.1]) ∧ MdIn w' B (mGet m j).2.2 ∧ Kp B.own w w' := by
  unfold mGet
  cases hj : mIs m j with
  | false =>
    refine (MGet_arg h hj).mono ?_
    rintro e w' ⟨rfl, hq⟩
    exact ⟨rfl, h.qd hq, Kp.of_qd hq⟩
  | true =>
    rw [if_pos rfl]
    by_cases he : mGot m j = m.l.length
    · rw [if_pos he]
      refine (MGet_none h hj he).mono ?_
      rintro e w' ⟨rfl, hq⟩
      exact ⟨rfl, h.qd hq, Kp.of_qd hq⟩
    · rw [if_neg he]
      exact MGet_some h hj he
theorem MGet_nil : Calls Try.prog 27 #[.pointer none, .int .i64 j] w fun e w' => e = .returned (.tuple #[.int .u64 0, .int .i64 15]) ∧ QD w w' := by
  go_enter Try.func27, Try.ntmps27
  go_wp2
  go_ret2
  exact ⟨rfl, QD.refl _⟩
theorem MClose_any (h : MdIn w B m) : Calls Try.prog 29 #[.pointer (some ⟨B.g, 0, none⟩)] w fun e w' => e = .returned (.int .i64 0) ∧ MdIn w' B { m with closed := true } ∧ Kp B.own w w' := by
  have c3 := h.c3
  have f3 := h.fz 3
  have hs := h
  go_enter Try.func29, Try.ntmps29
  go_wp2
  go_ret
  exact ⟨rfl, hs.setClosed true, (Kp.refl _ _).setCell _ (.inl rfl) _⟩
theorem MClose_nil : Calls Try.prog 29 #[.pointer none] w fun e w' => e = .returned (.int .i64 15) ∧ QD w w' := by
  go_enter Try.func29, Try.ntmps29
  go_wp2
  go_ret
  exact ⟨rfl, QD.refl _⟩
set_option maxRecDepth 100000 in
set_option maxHeartbeats 3200000 in
theorem MRest_none (h : MdIn w B m) (hj : mIs m j = false) : Calls Try.prog 31 #[.pointer (some ⟨B.g, 0, none⟩), .int .i64 j] w fun e w' => e = .returned (.slice none 0 0) ∧ QD w w' := by
  have c2 := h.c2
  by_cases h1 : j < 0
  · have d1 : decide (j < 0) = true := decide_eq_true h1
    clear h1 hj
    go_enter Try.func31, Try.ntmps31
    go_wp2
    go_ret
    exact ⟨rfl, QD.refl _⟩
  · have d1 : decide (j < 0) = false := decide_eq_false h1
    have h2 : (m.got.length : Int) ≤ j := by unfold mIs at hj; rw [decide_eq_true (by omega)] at hj; simp at hj; omega
    have d2 : decide ((m.got.length : Int) ≤ j) = true := decide_eq_true h2
    clear h1 h2 hj
    go_enter Try.func31, Try.ntmps31
    go_wp2
    go_ret
    exact ⟨rfl, QD.refl _⟩
theorem MRest_nil : Calls Try.prog 31 #[.pointer none, .int .i64 j] w fun e w' => e = .returned (.slice none 0 0) ∧ QD w w' := by
  go_enter Try.func31, Try.ntmps31
  go_wp2
  go_ret
  exact ⟨rfl, QD.refl _⟩
end Go.Proofs.Ytmejnhfggmmefaa.H
namespace Go.Proofs.Ytmejnhfggmmefaa.H
open Go.RowKit
set_option linter.unusedVariables false
set_option linter.unusedSimpArgs false
variable {w : World} {B : MB} {m : Md} {t j v : Int}

set_option maxRecDepth 100000 in
set_option maxHeartbeats 3200000 in
theorem MRest_at (h : MdIn w B m) (hj : mIs m j = true) (lb : Nat) (hA : B.A = some ⟨lb, 0, none⟩) : Calls Try.prog 31 #[.pointer (some ⟨B.g, 0, none⟩), .int .i64 j] w fun e w' => ∃ v, e = .returned v ∧ w'.ownsRow w.heap.size 36 1 v (mRest m j).length (u64s (mRest m j)) ∧ Kp no w w' := by
  obtain ⟨Bg, BA, Bc, Bgb, Bgc⟩ := B
  change BA = _ at hA
  subst hA
  have c1 : w.cell? ⟨Bg, 1, none⟩ = some (.slice (some ⟨lb, 0, none⟩) m.l.length Bc) := h.c1
  have c2 : w.cell? ⟨Bg, 2, none⟩ = some (.slice (some ⟨Bgb, 0, none⟩) m.got.length Bgc) := h.c2
  have hs := h
  have hb : (0 : Int) ≤ j ∧ j < (m.got.length : Int) := by simp [mIs] at hj; exact hj
  obtain ⟨hb0, hb1⟩ := hb
  have d1 : decide (j < 0) = false := decide_eq_false (by omega)
  have d2 : decide ((m.got.length : Int) ≤ j) = false := decide_eq_false (by omega)
  have hjl : j.toNat < m.got.length := by omega
  have hin := h.h0 (mGot m j) (by unfold mGot; rw [List.getD_eq_getElem?_getD, List.getElem?_eq_getElem hjl]; exact List.getElem_mem _)
  have hc := h.cg hjl
  change w.cell? ⟨Bgb, j.toNat, none⟩ = some (.int .i64 (mGot m j)) at hc
  obtain ⟨G, hG⟩ := Int.eq_ofNat_of_zero_le hin.1
  have hGl : G ≤ m.l.length := by omega
  rw [hG] at hc
  have HG := As.mk hG
  have HJ := As.mk hjl
  have hM := As.mk (show mRest m j = m.l.drop G from by unfold mRest; rw [hj, hG]; simp)
  have hcap : m.l.length ≤ Bc := by
    rcases hs.hl.2 with ⟨h0, _⟩ | ⟨g, cap, cur, hv, _, _, h1, _⟩
    · cases h0
    · injection hv with _ _ h3; subst h3; exact h1
  have hGb0 : (0 : Int) ≤ (G : Int) := by omega
  have hGb1 : (G : Int) ≤ (m.l.length : Int) := by omega
  have hGb2 : (G : Int) ≤ (Bc : Int) := by omega
  clear hj hin hG
  go_enter Try.func31, Try.ntmps31
  go_wp2
  refine wp_region_still_tail 12 (by kernel_rfl) (by kernel_rfl) ?_
  generalize hq : ({ w with drawn := w.drawn + 1 } : World) = w1
  replace hq : QD w w1 := ⟨1, hq.symm⟩
  have hs1 := hs.qd hq
  clear c1 c2 hc
  have c1 : w1.cell? ⟨Bg, 1, none⟩ = some (.slice (some ⟨lb, 0, none⟩) m.l.length Bc) := hs1.c1
  have c2 : w1.cell? ⟨Bg, 2, none⟩ = some (.slice (some ⟨Bgb, 0, none⟩) m.got.length Bgc) := hs1.c2
  have hc := hs1.cg HJ.out
  change w1.cell? ⟨Bgb, j.toNat, none⟩ = some (.int .i64 (mGot m j)) at hc
  rw [HG.out] at hc
  simp only [List.take_succ_cons, List.take_zero, List.drop_succ_cons, List.drop_zero]
  repeat still_step
  refine wpStill_nil ?_
  have hQ := As.mk hq
  have hH := As.mk hs1
  clear c1 c2 hc hs1 hq
  go_wp2_with fail
  all_goals
    refine (CloneU_some _ _ _ (u64s (mRest m j)) (by rw [hM.out]; simp [u64s]) (u64s_one _) (by have := hs.big; omega) ?_).mono ?_
  · intro i u hi
    exfalso
    rw [hM.out, List.drop_of_length_le (by omega)] at hi
    simp [u64s] at hi
  · rintro e w2 ⟨v, rfl, hown, hK⟩
    have hK2 : Kp no w w2 := (Kp.of_qd hQ.out).trans hK
    have hw : w1.heap.size = w.heap.size := by obtain ⟨n, rfl⟩ := hQ.out; rfl
    rw [hw] at hown
    have hl : (mRest m j).length = m.l.length - G := by rw [hM.out, List.length_drop]
    rw [← hl] at hown
    go_wp2
    go_ret
    exact ⟨v, rfl, hown, hK2⟩
  · intro i u hi
    rw [hM.out] at hi
    rw [add_none]
    refine or_cell hH.out.hl (G + i) u ?_
    rw [← hi]
    simp [u64s, List.getElem?_drop]
  · rintro e w2 ⟨v, rfl, hown, hK⟩
    have hK2 : Kp no w w2 := (Kp.of_qd hQ.out).trans hK
    have hw : w1.heap.size = w.heap.size := by obtain ⟨n, rfl⟩ := hQ.out; rfl
    rw [hw] at hown
    have hl : (mRest m j).length = m.l.length - G := by rw [hM.out, List.length_drop]
    rw [← hl] at hown
    go_wp2
    go_ret
    exact ⟨v, rfl, hown, hK2⟩
set_option maxRecDepth 100000 in
set_option maxHeartbeats 3200000 in
theorem MRest_0 (h : MdIn w B m) (hj : mIs m j = true) (hA : B.A = none) : Calls Try.prog 31 #[.pointer (some ⟨B.g, 0, none⟩), .int .i64 j] w fun e w' => e = .returned (.slice none 0 0) ∧ m.l.length = 0 ∧ QD w w' := by
  obtain ⟨Bg, BA, Bc, Bgb, Bgc⟩ := B
  change BA = _ at hA
  subst hA
  have hz : m.l.length = 0 ∧ Bc = 0 := by
    rcases h.hl.2 with ⟨h0, h1⟩ | ⟨g, cap, cur, hv, _⟩
    · injection h0 with _ _ h3; exact ⟨h1, h3⟩
    · injection hv with h1; cases h1
  obtain ⟨hz1, hz2⟩ := hz
  subst hz2
  have c1 : w.cell? ⟨Bg, 1, none⟩ = some (.slice none 0 0) := by have := h.c1; rw [hz1] at this; exact this
  have c2 : w.cell? ⟨Bg, 2, none⟩ = some (.slice (some ⟨Bgb, 0, none⟩) m.got.length Bgc) := h.c2
  have hs := h
  have hb : (0 : Int) ≤ j ∧ j < (m.got.length : Int) := by simp [mIs] at hj; exact hj
  obtain ⟨hb0, hb1⟩ := hb
  have d1 : decide (j < 0) = false := decide_eq_false (by omega)
  have d2 : decide ((m.got.length : Int) ≤ j) = false := decide_eq_false (by omega)
  have hjl : j.toNat < m.got.length := by omega
  have hin := h.h0 (mGot m j) (by unfold mGot; rw [List.getD_eq_getElem?_getD, List.getElem?_eq_getElem hjl]; exact List.getElem_mem _)
  have hc := h.cg hjl
  change w.cell? ⟨Bgb, j.toNat, none⟩ = some (.int .i64 (mGot m j)) at hc
  rw [show mGot m j = 0 from by omega] at hc
  have HG := As.mk (show mGot m j = 0 from by omega)
  have HJ := As.mk hjl
  have HZ := As.mk hz1
  clear hj hin hz1 hjl
  go_enter Try.func31, Try.ntmps31
  go_wp2
  refine wp_region_still_tail 12 (by kernel_rfl) (by kernel_rfl) ?_
  generalize hq : ({ w with drawn := w.drawn + 1 } : World) = w1
  replace hq : QD w w1 := ⟨1, hq.symm⟩
  have hs1 := hs.qd hq
  clear c1 c2 hc
  have c1 : w1.cell? ⟨Bg, 1, none⟩ = some (.slice none 0 0) := by have := hs1.c1; rw [HZ.out] at this; exact this
  have c2 : w1.cell? ⟨Bg, 2, none⟩ = some (.slice (some ⟨Bgb, 0, none⟩) m.got.length Bgc) := hs1.c2
  have hc := hs1.cg HJ.out
  change w1.cell? ⟨Bgb, j.toNat, none⟩ = some (.int .i64 (mGot m j)) at hc
  rw [HG.out] at hc
  simp only [List.take_succ_cons, List.take_zero, List.drop_succ_cons, List.drop_zero]
  repeat still_step
  refine wpStill_nil ?_
  go_wp2_with fail
  refine CloneU_nil.mono ?_
  rintro e w2 ⟨rfl, hq2⟩
  go_wp2
  go_ret
  exact ⟨rfl, HZ.out, hq.trans hq2⟩
/-- Rest, whatever it is asked. -/
theorem MRest_any (h : MdIn w B m) (j : Int) : Calls Try.prog 31 #[.pointer (some ⟨B.g, 0, none⟩), .int .i64 j] w fun e w' => ∃ v, e = .returned v ∧ w'.ownsRow w.heap.size 36 1 v (mRest m j).length (u64s (mRest m j)) ∧ Kp no w w' := by
  cases hj : mIs m j with
  | false =>
    refine (MRest_none h hj).mono ?_
    rintro e w' ⟨rfl, hq⟩
    have : mRest m j = [] := by unfold mRest; rw [hj]; rfl
    rw [this]
    exact ⟨_, rfl, World.ownsRow_nil _ _ _ _, Kp.of_qd hq⟩
  | true =>
    cases hA : B.A with
    | none =>
      refine (MRest_0 h hj hA).mono ?_
      rintro e w' ⟨rfl, h0, hq⟩
      have : mRest m j = [] := by unfold mRest; rw [hj, List.eq_nil_of_length_eq_zero h0]; simp
      rw [this]
      exact ⟨_, rfl, World.ownsRow_nil _ _ _ _, Kp.of_qd hq⟩
    | some ad =>
      have hv := h.hl.2
      rcases hv with ⟨h0, _⟩ | ⟨g, cap, cur, h0, _⟩
      · unfold MB.v at h0; rw [hA] at h0; injection h0 with h1; cases h1
      · unfold MB.v at h0; rw [hA] at h0; injection h0 with h1; injection h1 with h1
        exact MRest_at h hj g (by rw [hA, h1])
end Go.Proofs.Ytmejnhfggmmefaa.H
namespace Go.Proofs.Ytmejnhfggmmefaa.H
open Go.RowKit
set_option linter.unusedVariables false
set_option linter.unusedSimpArgs false
variable {w : World}

set_option maxRecDepth 100000 in
set_option maxHeartbeats 1600000 in
theorem MNew_no (k c R : Int) (h : rMay k c R = false) : Calls Try.prog 22 #[.agg #[.int .i64 k, .int .i64 c, .int .i64 R]] w fun e w' => e = .returned (.tuple #[.pointer none, .int .i64 1]) ∧ Kp no w w' := by
  have H := As.mk h
  clear h
  go_enter Try.func22, Try.ntmps22
  go_wp2_with fail
  refine (RNew_no k c R H.out).mono ?_
  rintro e w1 ⟨rfl, hK⟩
  go_wp2
  go_ret2
  exact ⟨rfl, ((Kp.refl _ _).alloc _).trans hK⟩
set_option maxRecDepth 100000 in
set_option maxHeartbeats 3200000 in
theorem MNew_ok (k : Int) (p q : Nat) (h : rMay k p q = true) : Calls Try.prog 22 #[.agg #[.int .i64 k, .int .i64 p, .int .i64 q]] w fun e w' => ∃ B, e = .returned (.tuple #[.pointer (some ⟨B.g, 0, none⟩), .int .i64 0]) ∧
    MdIn w' B ⟨p, [], List.replicate q 0, false⟩ ∧ (∀ i, B.own i → w.heap.size ≤ i) ∧ Kp no w w' := by
  have h1 : mayB p q = true := by unfold rMay at h; rw [Bool.and_eq_true] at h; exact h.1
  have h3 : 1 ≤ (p : Int) ∧ (p : Int) ≤ 64 ∧ 1 ≤ (q : Int) ∧ (q : Int) ≤ 8 := of_decide_eq_true h1
  obtain ⟨i0, hi, hz0, hz1, hz2⟩ := info_parts Try.infoInt
  have H := As.mk h
  have H3 := As.mk h3
  have hmk := fun (w : World) => run_makeSlice_full (P := Try.prog) w w.heap.size 32 3 i0 _ 1 Try.underlying32 hi hz0 hz1 .i64 .i64 q (by omega) (by rw [hz2]; omega) (by unfold maxLen; omega) (Nat.le_refl _)
  have HM := As.mk hmk
  clear h h1 h3 hmk hi hz0 hz1 hz2
  go_enter Try.func22, Try.ntmps22
  go_wp2_with fail
  refine (RNew_ok k p q H.out).mono ?_
  rintro e w2 ⟨RBk, rfl, _, hn, hK⟩
  have hK4 := ((Kp.refl no w).alloc _).trans hK
  have hbk2 : w2.heap[w.heap.size]? = some (.cells #[.int .i64 k, .int .i64 p, .int .i64 q] 23 (0, 0)) := bk_kp (heap_alloc_new _ _) hK (fun x => x)
  have c1 := bk_cell hbk2 1
  have c2 := bk_cell hbk2 2
  change w2.cell? _ = some (.int .i64 p) at c1
  change w2.cell? _ = some (.int .i64 q) at c2
  clear hn hK
  go_wp2
  obtain ⟨w3, hmk, hown, hgr⟩ := HM.out w2.drew
  have hbk3 : w3.heap[w.heap.size]? = some (.cells #[.int .i64 k, .int .i64 p, .int .i64 q] 23 (0, 0)) := (hgr.block _ (bk_lt hbk2) (by simp)).trans hbk2
  have e1 := bk_cell hbk3 1
  have e2 := bk_cell hbk3 2
  change w3.cell? _ = some (.int .i64 p) at e1
  change w3.cell? _ = some (.int .i64 q) at e2
  have hK5 : Kp no w2 w3 := ((Kp.refl no w2).drew).grown hgr (fun k hk => by cases hk)
  have hO := As.mk hown
  have HP := As.mk (show w.heap.size ≤ w2.heap.size from hK4.size)
  clear hown hgr hbk3 hbk2
  change (Instr.makeSlice 32 (.int .i64 (q : Int)) (.int .i64 (q : Int))).run Try.prog w2.drew = .ok (.slice (some ⟨w2.heap.size, 0, none⟩) q q) w3 at hmk
  generalize hpb : w.heap.size = pb at c1 c2 e1 e2 ⊢
  go_region_held3 (fun w' => w'.cell? ⟨pb, 1, none⟩ = some (.int .i64 p) ∧ w'.cell? ⟨pb, 2, none⟩ = some (.int .i64 q)) (first | go_keep | exact ⟨e1, e2⟩) (fail)
  clear hmk c1 c2 e1 e2
  have h4 := H3.out
  have hsz := hK5.size
  have hrow : ints (List.replicate q 0) = (madeCells (Value.int .i64 0).cells (q * 1)).toList := by
    rw [Nat.mul_one]
    exact ((toList_madeCells_one (Value.int .i64 0) q).trans (by simp [ints])).symm
  have hR : MdIn (w3.alloc (.cells #[.int .i64 p, .slice none 0 0, .slice (some ⟨w2.heap.size, 0, none⟩) q q, .bool false] 114)) ⟨w3.heap.size, none, 0, w2.heap.size, q⟩ ⟨p, [], List.replicate q 0, false⟩ := by
    refine ⟨?_, World.ownsRow_nil _ _ _ _, ?_, by show 0 < (List.replicate q (0 : Int)).length; rw [List.length_replicate]; omega, by show (List.replicate q (0 : Int)).length ≤ 8; rw [List.length_replicate]; omega, Nat.zero_le _, by show (1 : Int) ≤ p; omega, by show (p : Int) ≤ 64; omega, ?_⟩
    · have := heap_alloc_new w3 (.cells #[.int .i64 p, .slice none 0 0, .slice (some ⟨w2.heap.size, 0, none⟩) q q, .bool false] 114)
      simpa [Md.cells, MB.v] using this
    · show (w3.alloc _).ownsRow 0 3 1 (.slice (some ⟨w2.heap.size, 0, none⟩) (List.replicate q (0 : Int)).length q) (List.replicate q (0 : Int)).length (ints (List.replicate q 0))
      rw [List.length_replicate, hrow]
      exact or_base (hO.out.alloc _) (Nat.zero_le _)
    · intro x hx
      obtain ⟨_, rfl⟩ := List.mem_replicate.1 hx
      exact ⟨Int.le_refl 0, Int.le_refl 0⟩
  have hown : ∀ i, (⟨w3.heap.size, none, 0, w2.heap.size, q⟩ : MB).own i → w.heap.size ≤ i := by
    have q1 := HP.out
    rintro i (h | h | h)
    · change i = w3.heap.size at h; omega
    · change i = w2.heap.size at h; omega
    · cases h
  have hK6 := (hK4.trans hK5).alloc (.cells #[.int .i64 p, .slice none 0 0, .slice (some ⟨w2.heap.size, 0, none⟩) q q, .bool false] 114)
  clear hO hK4 hK5 hrow hsz
  go_wp2
  go_ret2
  exact ⟨⟨w3.heap.size, none, 0, w2.heap.size, q⟩, rfl, hR, hown, hK6⟩
end Go.Proofs.Ytmejnhfggmmefaa.H
