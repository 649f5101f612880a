/- Layer 14: ModelReaders: each reader gets just what was put, in order, whatever the others do. No condition. -/
import Derived.Test.YtmejnhfggmmefaaL14A
import Derived.Test.YtmejnhfggmmefaaL13B
namespace Go.Proofs.Ytmejnhfggmmefaa.H
open Go.RowKit
set_option linter.unusedVariables false
set_option linter.unusedSimpArgs false
variable {w : World}


theorem oCells14_get (l : List O14) (i : Nat) (h : i < l.length) : (oCells14 l)[i * 3]? = some (.int .i64 (l.getD i O14.z).k) ∧ (oCells14 l)[i * 3 + 1]? = some (.int .i64 (l.getD i O14.z).j) ∧ (oCells14 l)[i * 3 + 2]? = some (.int .u64 (l.getD i O14.z).v) := by
  have hk : ∀ o : O14, o.vals.length = 3 := fun _ => rfl
  have e : l.getD i O14.z = l[i] := by simp [List.getD, h]
  rw [e]
  refine ⟨?_, ?_, ?_⟩
  · rw [oCells14, flat_get O14.vals 3 hk, if_neg (by decide), show i * 3 / 3 = i by omega, show i * 3 % 3 = 0 by omega, List.getElem?_eq_getElem h]; rfl
  · rw [oCells14, flat_get O14.vals 3 hk, if_neg (by decide), show (i * 3 + 1) / 3 = i by omega, show (i * 3 + 1) % 3 = 1 by omega, List.getElem?_eq_getElem h]; rfl
  · rw [oCells14, flat_get O14.vals 3 hk, if_neg (by decide), show (i * 3 + 2) / 3 = i by omega, show (i * 3 + 2) % 3 = 2 by omega, List.getElem?_eq_getElem h]; rfl
theorem oCells14_len (l : List O14) : (oCells14 l).length = l.length * 3 := by
  unfold oCells14
  induction l with
  | nil => rfl
  | cons x l ih => rw [List.flatMap_cons, List.length_append, ih]; simp [O14.vals]; omega
theorem oCells14_at {w : World} {ab ao : Nat} {O : List O14} (hc : ∀ j u, (oCells14 O)[j]? = some u → w.cell? ⟨ab, ao + j, none⟩ = some u) {i : Nat} (h : i < O.length) :
    ∃ k j v, O.getD i O14.z = ⟨k, j, v⟩ ∧ w.cell? ⟨ab, ao + i * 3, none⟩ = some (.int .i64 k) ∧ w.cell? ⟨ab, ao + i * 3 + 1, none⟩ = some (.int .i64 j) ∧ w.cell? ⟨ab, ao + i * 3 + 2, none⟩ = some (.int .u64 v) := by
  obtain ⟨k0, k1, k2⟩ := oCells14_get O i h
  generalize O.getD i O14.z = o at k0 k1 k2
  obtain ⟨k, j, v⟩ := o
  exact ⟨k, j, v, rfl, hc _ _ k0, by rw [Nat.add_assoc]; exact hc _ _ k1, by rw [Nat.add_assoc]; exact hc _ _ k2⟩
theorem mem_getD14 {O : List O14} {i : Nat} (h : i < O.length) : O.getD i O14.z ∈ O := by
  rw [List.getD_eq_getElem?_getD, List.getElem?_eq_getElem h]; exact List.getElem_mem h
/-- What a put, and a get, may come to. -/
theorem mPut_tells (m : Md) (v : Int) : ((mPut m v).2.1 = 0 ∧ (mPut m v).1 = m.l.length ∧ m.closed = false ∧ mFull m = false ∧ (mPut m v).2.2 = { m with l := m.l ++ [v] }) ∨ ((mPut m v).2.1 ≠ 0 ∧ (mPut m v).2.2 = m) := by
  unfold mPut
  cases hc : m.closed with
  | true => right; rw [if_pos rfl]; exact ⟨by show (10 : Int) ≠ 0; decide, rfl⟩
  | false =>
    rw [if_neg (by decide)]
    cases hf : mFull m with
    | true => right; rw [if_pos rfl]; exact ⟨by show (8 : Int) ≠ 0; decide, rfl⟩
    | false => left; rw [if_neg (by decide)]; exact ⟨rfl, rfl, rfl, rfl, rfl⟩
theorem mGet_tells (m : Md) (j : Int) : ((mGet m j).2.1 = 0 ∧ mIs m j = true ∧ mGot m j ≠ m.l.length ∧ (mGet m j).1 = m.l.getD (mGot m j).toNat 0 ∧ (mGet m j).2.2 = { m with got := m.got.set j.toNat (mGot m j + 1) }) ∨ ((mGet m j).2.1 ≠ 0 ∧ (mGet m j).2.2 = m) := by
  unfold mGet
  cases hj : mIs m j with
  | false => right; rw [if_neg (by decide)]; exact ⟨by show (1 : Int) ≠ 0; decide, rfl⟩
  | true =>
    rw [if_pos rfl]
    by_cases he : mGot m j = m.l.length
    · right; rw [if_pos he]; exact ⟨by show (if m.closed = true then (10 : Int) else 9) ≠ 0; split <;> decide, rfl⟩
    · left; rw [if_neg he]; exact ⟨rfl, rfl, he, rfl, rfl⟩
theorem ne_selfm (x : Int) : (x != x) = false := by simp
/-- What holds in a round. -/
structure D14 (W wr : World) (G : Nat) (B : MB) (m : Md) (q hb : Nat) (v : Value) (i : Nat) : Prop where
  M : MdNew W wr B m
  g : G = B.g
  al : wr.ownsRow W.heap.size 36 1 v m.l.length (u64s m.l)
  gt : wr.ownsRow W.heap.size 3 1 (.slice (some ⟨hb, 0, none⟩) q q) q (ints m.got)
  n1 : ∀ k, v.ownBlock = some k → ¬ B.own k
  n2 : ¬ B.own hb
  ql : m.got.length = q
  le : m.l.length ≤ i
theorem D14.kp {W w w' : World} {G : Nat} {B : MB} {m : Md} {q hb : Nat} {v : Value} {i : Nat} (h : D14 W w G B m q hb v i) (k : Kp no w w') : D14 W w' G B m q hb v i :=
  ⟨h.M.kp k, h.g, or_kp h.al k (fun _ _ x => x), or_kp h.gt k (fun _ _ x => x), h.n1, h.n2, h.ql, h.le⟩

set_option maxRecDepth 100000 in
set_option maxHeartbeats 6400000 in
theorem ModelReaders_calls {v0 v1 : Value} (ho : ∃ o : Rc, v0 = .agg o.vals.toArray ∧ o.ok) (hs : ∃ O : List O14, Rd w v1 O.length (oCells14 O) ∧ ∀ o ∈ O, o.ok) : Calls Try.prog 5 #[v0, v1] w fun e w' => e = .returned (.bool true) ∧ Kp no w w' := by
  obtain ⟨⟨k, c, R⟩, rfl, -⟩ := ho
  obtain ⟨O, hrd, hok⟩ := hs
  have hrd0 := As.mk hrd
  have HO := As.mk hok
  obtain ⟨A, cap, rfl, hn1, hn2, -⟩ := hrd
  unfold maxLen at hn2
  change Calls Try.prog 5 #[.agg #[.int .i64 k, .int .i64 c, .int .i64 R], _] w _
  clear hok
  go_enter Try.func5, Try.ntmps5
  go_wp2_with fail
  obtain ⟨m0, hK⟩ := box1 (w := w) #[.int .i64 k, .int .i64 c, .int .i64 R] 23
  generalize w.alloc (.cells #[.int .i64 k, .int .i64 c, .int .i64 R] 23) = W at m0 hK ⊢
  generalize w.heap.size = g0 at m0 ⊢
  refine awake14.mono ?_
  rintro e w1 ⟨rfl, hk⟩
  replace m0 := bk_kp m0 hk (fun x => x)
  replace hK := hK.trans hk
  clear hk
  by_cases hl : O.length ≤ 300
  · have hd : decide ((300 : Int) < (O.length : Int)) = false := decide_eq_false (by omega)
    have d0 := bk_cell m0 0
    have d1 := bk_cell m0 1
    have d2 := bk_cell m0 2
    clear hn1 hn2
    go_wp2_with fail
    refine (RMay_any k c R).mono ?_
    rintro e w2 ⟨rfl, hk⟩
    replace m0 := bk_kp m0 hk (fun x => x)
    replace hK := hK.trans hk
    clear hk d0 d1 d2
    cases hm : rMay k c R with
    | false =>
      as_aux_lemma =>
        clear hrd0 m0 hd hl
        go_wp2_with fail
        refine awake14.mono ?_
        rintro e w3 ⟨rfl, hk⟩
        replace hK := hK.trans hk
        clear hk
        go_wp2
        go_ret
        exact ⟨rfl, hK⟩
    | true =>
      obtain ⟨p, q, rfl, rfl, hp1, hp2, hq1, hq2⟩ := rMay_nat hm
      have d0 := bk_cell m0 0
      have d1 := bk_cell m0 1
      have d2 := bk_cell m0 2
      have hHm := As.mk hm
      have hP := As.mk (And.intro hp1 (And.intro hp2 (And.intro hq1 hq2)))
      clear hm hd
      replace hrd0 := As.mk (hrd0.out.kp hK (fun _ _ x => x))
      go_wp2_with fail
      refine (MNew_new k p q hHm.out (Kp.refl no w2)).mono ?_
      rintro e w3 ⟨B, rfl, hR, -, -⟩
      have HR := As.mk hR
      have HM := As.mk m0
      obtain ⟨i0, hi, hz0, hz1, hz2⟩ := info_parts Try.infoInt
      obtain ⟨w4, hmk, hown, hgr⟩ := run_makeSlice_full (P := Try.prog) w3 w3.heap.size 32 3 i0 _ 1 Try.underlying32 hi hz0 hz1 .i64 .i64 q (by omega) (by rw [hz2]; omega) (by unfold maxLen; omega) (Nat.le_refl _)
      have m3 := bk_kp m0 hR.K (fun x => x)
      have e2 := bk_cell m3 2
      have hrow : ints (List.replicate q 0) = (madeCells (Value.int .i64 0).cells (q * 1)).toList := by
        rw [Nat.mul_one]
        exact ((toList_madeCells_one (Value.int .i64 0) q).trans (by simp [ints])).symm
      rw [← hrow] at hown
      have hk4 : Kp no w3 w4 := (Kp.refl no w3).grown hgr (fun k hk => by cases hk)
      have hs3 := hR.K.size
      have HC : As (D14 w2 w4 B.g B ⟨p, [], List.replicate q 0, false⟩ q w3.heap.size (.slice none 0 0) 0) := ⟨hR.kp hk4, rfl, World.ownsRow_nil _ _ _ _, or_base hown hs3, (fun k hk => by cases hk), fun h => by have := hR.i.lt _ h; omega, by simp, Nat.le_refl _⟩
      clear hR d0 d1 d2 m0 m3 hown hgr hrow hk4 hs3 hi hz0 hz1 hz2 hp1 hp2 hq1 hq2
      go_wp2
      clear e2 hmk HR
      generalize w3.heap.size = hb at HC ⊢
      generalize hBg : B.g = G at HC ⊢
      go_loopw [7, 40] (fun v7 v40 wr => ∃ (i : Nat) (B : MB) (m : Md), i ≤ O.length ∧ v40 = .int .i64 i ∧ As (D14 w2 wr G B m q hb v7 i)) (fun _ v40 _ => O.length - (intOf v40).toNat)
      case atStart => exact ⟨0, _, _, Nat.zero_le _, rfl, HC⟩
      case round =>
        as_aux_lemma =>
          clear HC hBg
          obtain ⟨i, B', m, hi, rfl, HI⟩ := hrel
          by_cases hlt : i < O.length
          · have hr := hrd0.out.kp HI.out.M.K (fun _ _ x => x)
            obtain ⟨ab, ao, c', he, -, -, hc⟩ := hr.form (by rw [oCells14_len]; omega)
            injection he with e1 e2 e3
            subst e1; subst e3; clear e2
            obtain ⟨ok, oj, ov, hO, c0, c1, c2⟩ := oCells14_at hc hlt
            obtain ⟨A7, k7, hv7⟩ := or_form HI.out.al
            subst hv7
            clear hr hc hO
            go_upto_region 11 with fail
            obtain ⟨mo, hko⟩ := box1 (w := wr) #[.int .i64 ok, .int .i64 oj, .int .u64 ov] 38
            have hgo : ¬ B'.own wr.heap.size := fun h => by have := HI.out.M.i.lt _ h; omega
            have HI2 := As.mk (HI.out.kp hko)
            generalize wr.alloc (.cells #[.int .i64 ok, .int .i64 oj, .int .u64 ov] 38) = W2 at mo HI2 ⊢
            generalize wr.heap.size = go at mo hgo ⊢
            clear hko c0 c1 c2 HI
            have HG := As.mk HI2.out.g
            have d0 := bk_cell mo 0
            have d1 := bk_cell mo 1
            have d2 := bk_cell mo 2
            by_cases hk2 : (Int.tmod ok 2 == 0) = true
            · as_aux_lemma =>
                go_wp2_with fail
                have hcc := MPut_new HI2.out.M (by have := HI2.out.le; omega) ov
                rw [← HG.out] at hcc
                refine hcc.mono ?_
                clear hcc
                have hT := mPut_tells m ov
                rintro e w5 ⟨B2, rfl, hg2, hM5, hsub, hk5⟩
                generalize (mPut m ov).2.2 = m' at hT hM5
                generalize (mPut m ov).2.1 = er at hT ⊢
                generalize (mPut m ov).1 = xr at hT ⊢
                have m5 := bk_kp (S := B'.own) mo hk5 hgo
                have f2 := bk_cell m5 2
                have hal := or_kp HI2.out.al hk5 HI2.out.n1
                have hgt := or_kp HI2.out.gt hk5 (fun b hb e => by injection hb with hb; subst hb; exact HI2.out.n2 e)
                have hn1 : ∀ k, (Value.slice A7 m.l.length k7).ownBlock = some k → ¬ B2.own k := fun k hk h => (hsub k h).elim (HI2.out.n1 k hk) (fun h => by have := (HI2.out.al.lt k hk).2; omega)
                have hn2 : ¬ B2.own hb := fun h => (hsub hb h).elim HI2.out.n2 (fun h => by have := (HI2.out.gt.lt hb rfl).2; omega)
                rcases hT with ⟨rfl, rfl, hcl, -, rfl⟩ | ⟨hne, rfl⟩
                · have hl300 : m.l.length ≤ 300 := by have := HI2.out.le; omega
                  have hne := ne_selfm (m.l.length : Int)
                  obtain ⟨i0, hi0, hz0, hz1, hz2⟩ := info_parts Try.infoU64
                  have hl := hal.alloc (.cells #[.int .u64 ov] 36)
                  have hn : ∀ (j : Nat) (u : Value), [Value.int .u64 ov][j]? = some u → (w5.alloc (.cells #[.int .u64 ov] 36)).cell? ((⟨w5.heap.size, 0, none⟩ : Addr).add j) = some u := fun j u hj => by
                    match j, hj with
                    | 0, hj => injection hj with hj; subst hj; rw [add_none]; exact bk_cell (heap_alloc_new _ _) 0
                  have HN := As.mk (And.intro hl hn)
                  have hka := Kp.alloc (Kp.refl no w5) (.cells #[.int .u64 ov] 36)
                  have hM6 := hM5.kp hka
                  have hgt6 := or_kp hgt hka (fun _ _ x => x)
                  have HX := As.mk (And.intro hM6 (And.intro hgt6 (And.intro hn1 (And.intro hn2 (And.intro hal hgt)))))
                  clear hl hn hka hM6 hgt6 hM5 hal hgt hn1 hn2 d0 d1 d2 mo m5
                  go_wp2_with (at_builtin; refine wpList_append_own_at _ (by rfl) _ _ 31 (by rfl) w2.heap.size 36 i0 _ 1 8 Try.underlying31 hi0 hz0 hz1 hz2 (by rfl) (by decide) (.slice A7 m.l.length k7) m.l.length (u64s m.l) (by rfl) HN.out.1 ⟨w5.heap.size, 0, none⟩ 1 1 [.int .u64 ov] (by rfl) (by rfl) HN.out.2 (by simp [Value.oneCell']) (by unfold maxLen; omega) (by omega) (by have := HX.out.1.K.size; simpa using this) ?_; intro v' w' hown hgrow _ hat; obtain ⟨A', c', rfl⟩ := or_form hown; have HF := As.mk (And.intro hown (And.intro hgrow hat)); clear hown hgrow hat)
                  have hF : D14 w2 w' G B2 { m with l := m.l ++ [ov] } q hb (.slice A' (m.l.length + 1) c') (i + 1) := by
                    obtain ⟨hown, hgrow, hat⟩ := HF.out
                    obtain ⟨hM6, hgt6, hn1, hn2, hal, hgt⟩ := HX.out
                    have hlen : (m.l ++ [ov]).length = m.l.length + 1 := by simp
                    have h2 : u64s (m.l ++ [ov]) = u64s m.l ++ [.int .u64 ov] := by simp [u64s]
                    have hsz := hM6.K.size
                    refine ⟨⟨hM6.i.kp ((Kp.refl (fun k => (Value.slice A7 m.l.length k7).ownBlock = some k) _).grown hgrow (fun k hk _ => hk)) (fun k hk e => hn1 k e hk), hM6.n, hM6.K.grown hgrow (fun k hk hlt => by have := (hal.lt k hk).1; omega)⟩, HG.out.trans hg2, by rw [h2]; simpa using hown, or_kp hgt6 ((Kp.refl (fun k => (Value.slice A7 m.l.length k7).ownBlock = some k) _).grown hgrow (fun k hk _ => hk)) (fun b hb e => ?_), fun k hk h => ?_, hn2, HI2.out.ql, by dsimp only; rw [hlen]; have := HI2.out.le; omega⟩
                    · obtain ⟨c1, h3⟩ := or_bk hal e
                      obtain ⟨c2, h4⟩ := or_bk hgt hb
                      exact absurd rfl (bk_ne h3 h4 (by decide))
                    · rcases hat with ha | ha
                      · rw [hk] at ha; exact hn1 k ha.symm h
                      · rw [hk] at ha; injection ha with ha
                        have := hM6.i.lt k h
                        rw [ha] at this; exact Nat.lt_irrefl _ this
                  have HFF := As.mk hF
                  clear hF HF HX HN
                  go_wp2
                  exact ⟨⟨i + 1, B2, _, by omega, by go_num, HFF⟩, by simp [intOf]; omega⟩
                · have hne2 : (er == 0) = false := by simpa using hne
                  have hF : D14 w2 w5 G B2 m' q hb (.slice A7 m'.l.length k7) (i + 1) := ⟨hM5, HG.out.trans hg2, hal, hgt, hn1, hn2, HI2.out.ql, by have := HI2.out.le; omega⟩
                  have HFF := As.mk hF
                  clear hF hM5 hal hgt hn1 hn2 hne d0 d1 d2 f2 mo m5
                  go_wp2
                  exact ⟨⟨i + 1, B2, _, by omega, by go_num, HFF⟩, by simp [intOf]; omega⟩
            · as_aux_lemma =>
                have hk3 : (Int.tmod ok 2 == 0) = false := by simpa using hk2
                clear hk2
                go_wp2_with fail
                have hcc := MGet_new HI2.out.M oj
                rw [← HG.out] at hcc
                refine hcc.mono ?_
                clear hcc
                have hT := mGet_tells m oj
                rintro e w5 ⟨rfl, hM5, hk5⟩
                generalize (mGet m oj).2.2 = m' at hT hM5
                generalize (mGet m oj).2.1 = er at hT ⊢
                generalize (mGet m oj).1 = xr at hT ⊢
                have m5 := bk_kp (S := B'.own) mo hk5 hgo
                have b5 := bk_kp HM.out hM5.K (fun x => x)
                have hal := or_kp HI2.out.al hk5 HI2.out.n1
                have hgt := or_kp HI2.out.gt hk5 (fun b hb e => by injection hb with hb; subst hb; exact HI2.out.n2 e)
                have hne9 := HI2.out.M.i.h0
                rcases hT with ⟨rfl, hj, hgl, rfl, rfl⟩ | ⟨hne, rfl⟩
                · have hj2 : (0 : Int) ≤ oj ∧ oj < (m.got.length : Int) := by simpa [mIs] using hj
                  obtain ⟨jn, rfl⟩ := Int.eq_ofNat_of_zero_le hj2.1
                  have hjq : jn < q := by have := HI2.out.ql; omega
                  have hq9 : decide (q ≤ jn) = false := decide_eq_false (by omega)
                  have hc1 : w5.cell? ⟨hb, jn, none⟩ = some (.int .i64 (m.got.getD jn 0)) := or_cell hgt _ _ (ints_get m.got jn (by omega))
                  have hgd : mGot m (jn : Int) = m.got.getD jn 0 := by unfold mGot; rw [Int.toNat_natCast]
                  have hmem : m.got.getD jn 0 ∈ m.got := by
                    rw [List.getD_eq_getElem?_getD, List.getElem?_eq_getElem (show jn < m.got.length by omega)]; exact List.getElem_mem _
                  have hb9 := hne9 _ hmem
                  rw [hgd] at hgl
                  obtain ⟨gn, hgn⟩ := Int.eq_ofNat_of_zero_le hb9.1
                  rw [hgn] at hgl hb9 hc1 hgd
                  have hgnl : gn < m.l.length := by omega
                  obtain ⟨g7, k8, hv7, hg7⟩ := or_some hal (by omega)
                  injection hv7 with e1 e2 e3
                  subst e1; subst e3; clear e2
                  have hc2 : w5.cell? ⟨g7, gn, none⟩ = some (.int .u64 (m.l.getD gn 0)) := or_cell hal _ _ (u64s_get m.l gn hgnl)
                  have hfz : w5.frozen? ⟨hb, jn, none⟩ = false := hgt.frozenAt jn
                  have hl9 : decide (m.l.length ≤ gn) = false := decide_eq_false (by omega)
                  rw [hgd, Int.toNat_natCast]
                  have hl300 : m.l.length ≤ 300 := by have := HI2.out.le; omega
                  have HF := As.mk (show D14 w2 (w5.setCell ⟨hb, jn, none⟩ (.int .i64 ((gn : Int) + 1))) G B' { m with got := m.got.set (jn : Int).toNat ((gn : Int) + 1) } q hb (.slice (some ⟨g7, 0, none⟩) m.l.length k7) (i + 1) from by
                    have h2 := (hgt.stored jn (.int .i64 ((gn : Int) + 1))).1
                    rw [ints_set] at h2
                    have hks := Kp.set1 w5 hb jn (.int .i64 ((gn : Int) + 1))
                    have hlt := hgt.lt hb rfl
                    rw [hgd] at hM5
                    refine ⟨⟨hM5.i.kp hks (fun k hk e => HI2.out.n2 (by rw [← e]; exact hk)), hM5.n, hM5.K.setNew ⟨hb, jn, none⟩ hlt.1 _⟩, HG.out, or_kp hal hks (fun k hk e => ?_), ?_, HI2.out.n1, HI2.out.n2, by have := HI2.out.ql; simpa using this, by have := HI2.out.le; dsimp only; omega⟩
                    · obtain ⟨c1, h3⟩ := or_bk hal hk
                      obtain ⟨c2, h4⟩ := or_bk hgt (b := hb) rfl
                      exact absurd e (bk_ne h3 h4 (by decide))
                    · dsimp only; rw [Int.toNat_natCast]; exact h2)
                  have f1 := bk_cell m5 1
                  have e2 := bk_cell b5 2
                  generalize m.l.getD gn 0 = x at hc2 ⊢
                  have hne := ne_selfm x
                  clear hj hj2 hgl hmem hb9 hgn hgd hM5 hal hgt hne9 d0 d1 d2 mo m5 b5 hg7
                  go_wp2
                  exact ⟨⟨i + 1, B', _, by omega, by go_num, HF⟩, by simp [intOf]; omega⟩
                · have hne2 : (er != 0) = true := by simpa using hne
                  have hF : D14 w2 w5 G B' m' q hb (.slice A7 m'.l.length k7) (i + 1) := ⟨hM5, HG.out, hal, hgt, HI2.out.n1, HI2.out.n2, HI2.out.ql, by have := HI2.out.le; omega⟩
                  have HFF := As.mk hF
                  clear hF hM5 hal hgt hne d0 d1 d2 mo m5 b5 hne9
                  go_wp2
                  exact ⟨⟨i + 1, B', _, by omega, by go_num, HFF⟩, by simp [intOf]; omega⟩
          · go_wp2
            go_ret
            exact ⟨rfl, hK.trans HI.out.M.K⟩
  · as_aux_lemma =>
      have hd : decide ((300 : Int) < (O.length : Int)) = true := decide_eq_true (by omega)
      clear hl hn1 hn2 hrd0 m0
      go_wp2_with fail
      refine awake14.mono ?_
      rintro e w3 ⟨rfl, hk⟩
      replace hK := hK.trans hk
      clear hk
      go_wp2
      go_ret
      exact ⟨rfl, hK⟩
end Go.Proofs.Ytmejnhfggmmefaa.H
