/- Layer 13: how a ring's places stand, whatever was done: it can always be loaded; two states that are the same. No condition. -/
import Derived.Test.YtmejnhfggmmefaaL13D
import Derived.Test.YtmejnhfggmmefaaR12H
namespace Go.Proofs.Ytmejnhfggmmefaa.H
open Go.RowKit
set_option linter.unusedVariables false
set_option linter.unusedSimpArgs false
variable {w : World}

/-- How a place may stand. -/
structure PlOk (p q : Nat) (T : Int) (H : List Int) (i : Nat) (x : Sl) : Prop where
  s0 : 0 ≤ x.st
  s1 : x.st < 9223372036854775808
  at_ : x.st / 2 % (p : Int) = i
  fr : x.st % 2 = 0 → x.v = 0 ∧ x.left = 0 ∧ ∀ j, j < q → (p : Int) ≤ x.st / 2 → x.st / 2 - p < H.getD j 0
  hd : x.st % 2 = 1 → 1 ≤ x.left ∧ x.left < 2 ^ q ∧ x.st / 2 < T ∧ ∀ j, j < q → bitOf x.left (j : Int) = true ∨ x.st / 2 < H.getD j 0
/-- How all places, and the counts, stand. -/
structure WInv (p q i : Nat) (r : Rg) : Prop where
  I : RInv p q i r
  P : ∀ k, k < p → PlOk p q r.tail r.heads k (r.L.getD k Sl.z)
theorem WInv.new {p q : Nat} (hp : p ≤ 64) : WInv p q 0 ⟨0, List.replicate q 0, false, sNew p⟩ := by
  refine ⟨RInv.new p q, fun k hk => ?_⟩
  have e : (sNew p).getD k Sl.z = ⟨2 * (k : Int), 0, 0⟩ := by simp [sNew, List.getD, hk]
  rw [e]
  refine ⟨by dsimp only; omega, by dsimp only; omega, ?_, fun _ => ⟨rfl, rfl, fun j hj h => ?_⟩, fun h => ?_⟩
  · dsimp only; rw [show 2 * (k : Int) / 2 = k by omega]; exact Int.emod_eq_of_lt (by omega) (by omega)
  · dsimp only at h; omega
  · dsimp only at h; omega
theorem bits_new : ∀ q : Fin 9, ∀ j : Fin 8, j.val < q.val → bitOf (2 ^ q.val - 1) (j.val : Int) = true := by decide
theorem pow_ge1 : ∀ q : Fin 9, 1 ≤ q.val → (1 : Int) ≤ 2 ^ q.val - 1 ∧ (2 : Int) ^ q.val - 1 < 2 ^ q.val := by decide
theorem bits_less : ∀ l : Fin 256, ∀ j k : Fin 8, bitOf (l.val : Int) (j.val : Int) = true → 0 ≤ (l.val : Int) - 2 ^ j.val ∧ (k ≠ j → bitOf ((l.val : Int) - 2 ^ j.val) (k.val : Int) = bitOf (l.val : Int) (k.val : Int)) ∧ ((l.val : Int) - 2 ^ j.val = 0 → k ≠ j → bitOf (l.val : Int) (k.val : Int) = false) := by decide +kernel
theorem getD_mono {H : List Int} {j k : Nat} {x : Int} (hj : j < H.length) (hx : H.getD j 0 ≤ x) (hk : k < H.length) : H.getD k 0 ≤ (H.set j x).getD k 0 := by
  rw [getD_set hj hk]; split
  · rename_i e; subst e; exact hx
  · exact Int.le_refl _
theorem WInv.step {p q i : Nat} {r : Rg} (h : WInv p q i r) (hp : 1 ≤ p) (hp64 : p ≤ 64) (hq : 1 ≤ q) (hq8 : q ≤ 8) (hi : i ≤ 1000) (o : O12) (ht : 0 ≤ o.t) : WInv p q (i + 1) (rDo r o).2.2 := by
  refine ⟨h.I.step o, ?_⟩
  have hk := kd_le o
  have hLl := h.I.Ll
  have hHl := h.I.hl
  have hti := h.I.ti
  rcases (show kd o = 0 ∨ kd o = 1 ∨ kd o = 2 ∨ kd o = 3 ∨ kd o = 4 by omega) with hk | hk | hk | hk | hk
  · rcases (rDo_tells r o).k0 hk with ⟨-, -, -, -, hr⟩ | ⟨-, hr⟩
    · rw [hr]
      intro k hk
      obtain ⟨a1, a2, a3, a4, a5⟩ := h.P k hk
      exact ⟨a1, a2, a3, a4, fun hm => ⟨(a5 hm).1, (a5 hm).2.1, by have := (a5 hm).2.2.1; dsimp only; omega, (a5 hm).2.2.2⟩⟩
    · rw [hr]; exact h.P
  · have hr : (rDo r o).2.2 = (rPublish r o.t o.v).2 := by unfold rDo; rw [if_neg (by omega), if_pos hk]
    rw [hr]; unfold rPublish
    by_cases h1 : r.tail ≤ o.t
    · rw [if_pos h1]; exact h.P
    · rw [if_neg h1]
      dsimp only
      unfold sPut
      rw [if_pos (by omega)]
      by_cases h2 : (slAt r.L o.t).st < 2 * o.t
      · rw [if_pos h2]; exact h.P
      · rw [if_neg h2]
        by_cases h3 : 2 * o.t < (slAt r.L o.t).st
        · rw [if_pos h3]; exact h.P
        · rw [if_neg h3]
          dsimp only
          have hpl : pl r.L o.t < r.L.length := pl_lt (by omega) _
          intro k hk
          rw [getD_set hpl (by omega)]
          by_cases e : k = pl r.L o.t
          · rw [if_pos e, hHl]
            have h4 := pow_ge1 ⟨q, by omega⟩ hq
            dsimp only at h4
            refine ⟨by dsimp only; omega, by dsimp only; omega, ?_, fun hm => ?_, fun hm => ⟨h4.1, h4.2, ?_, fun j hj => .inl ?_⟩⟩
            · dsimp only
              rw [show (2 * o.t + 1) / 2 = o.t by omega, e]
              unfold pl
              rw [hLl]
              have := Int.emod_nonneg o.t (show (p : Int) ≠ 0 by omega)
              omega
            · dsimp only at hm; omega
            · dsimp only; omega
            · exact bits_new ⟨q, by omega⟩ ⟨j, by omega⟩ hj
          · rw [if_neg e]; exact h.P k hk
  · rcases (rDo_tells r o).k2 hk with ⟨-, hj, hx, hne, hr⟩ | ⟨-, hr⟩
    · rw [hr]
      have hj2 : (0 : Int) ≤ o.j ∧ o.j < (r.heads.length : Int) := by simpa [rIs] using hj
      intro k hk
      obtain ⟨a1, a2, a3, a4, a5⟩ := h.P k hk
      have hm : ∀ x, x < q → r.heads.getD x 0 ≤ (r.heads.set o.j.toNat ((rDo r o).1 + 1)).getD x 0 := fun x hxq => by
        refine getD_mono (by omega) ?_ (by omega)
        rw [hx]; unfold rHead; omega
      refine ⟨a1, a2, a3, fun hz => ⟨(a4 hz).1, (a4 hz).2.1, fun j hj hle => ?_⟩, fun hz => ⟨(a5 hz).1, (a5 hz).2.1, (a5 hz).2.2.1, fun j hj => ?_⟩⟩
      · have := (a4 hz).2.2 j hj hle
        have := hm j hj
        dsimp only; omega
      · rcases (a5 hz).2.2.2 j hj with hb | hb
        · exact .inl hb
        · have := hm j hj
          right; dsimp only; omega
    · rw [hr]; exact h.P
  · have hr : (rDo r o).2.2 = (rRelease r o.j o.t).2.2 := by unfold rDo; rw [if_neg (by omega), if_neg (by omega), if_neg (by omega), if_pos hk]
    rw [hr]; unfold rRelease
    by_cases hj : rIs r o.j = true
    · rw [if_pos hj]
      have hj2 : (0 : Int) ≤ o.j ∧ o.j < (r.heads.length : Int) := by simpa [rIs] using hj
      by_cases h1 : rHead r o.j ≤ o.t
      · rw [if_pos h1]; exact h.P
      · rw [if_neg h1]
        dsimp only
        unfold sGet
        by_cases hg : sGot r.L r.heads.length o.j o.t = 0
        · rw [if_pos hg]
          dsimp only
          have hpl : pl r.L o.t < r.L.length := pl_lt (by omega) _
          have hat : slAt r.L o.t = r.L.getD (pl r.L o.t) Sl.z := rfl
          obtain ⟨a1, a2, a3, a4, a5⟩ := h.P (pl r.L o.t) (by omega)
          rw [← hat] at a1 a2 a3 a4 a5
          have hst : (slAt r.L o.t).st = 2 * o.t + 1 ∧ bitOf (slAt r.L o.t).left o.j = true := by
            unfold sGot at hg
            rw [hHl] at hg
            split at hg
            · split at hg
              · cases hg
              · split at hg
                · cases hg
                · split at hg
                  · rename_i hb; exact ⟨by omega, hb⟩
                  · cases hg
            · cases hg
          obtain ⟨hst, hbit⟩ := hst
          obtain ⟨b1, b2, b3, b4⟩ := a5 (by omega)
          obtain ⟨jn, hjn⟩ := Int.eq_ofNat_of_zero_le hj2.1
          have hjq : jn < q := by omega
          obtain ⟨l, hl⟩ := Int.eq_ofNat_of_zero_le (show 0 ≤ (slAt r.L o.t).left by omega)
          have hp8 : (2 : Int) ^ q ≤ 256 := pow_le8 hq8
          have hbl := fun k : Fin 8 => bits_less ⟨l, by omega⟩ ⟨jn, by omega⟩ k (by dsimp only; rw [← hl, ← hjn]; exact hbit)
          dsimp only at hbl
          have hpos : (0 : Int) < 2 ^ jn := pow_pos' jn
          have hhj : o.t < r.heads.getD jn 0 := by
            unfold rHead at h1; rw [hjn, Int.toNat_natCast] at h1; omega
          have hmod : o.t % (p : Int) = (pl r.L o.t : Nat) := by rw [← a3, hst]; rw [show (2 * o.t + 1) / 2 = o.t by omega]
          intro k hk
          rw [getD_set hpl (by omega)]
          by_cases e : k = pl r.L o.t
          · rw [if_pos e, hjn, Int.toNat_natCast, hl]
            by_cases hz : (l : Int) - 2 ^ jn = 0
            · rw [if_pos hz, hLl]
              refine ⟨by dsimp only; omega, by dsimp only; omega, ?_, fun _ => ⟨rfl, rfl, fun j hj _ => ?_⟩, fun hm => ?_⟩
              · dsimp only
                rw [show 2 * (o.t + (p : Int)) / 2 = o.t + p by omega, Int.add_emod_right, hmod, e]
              · dsimp only
                rw [show 2 * (o.t + (p : Int)) / 2 - p = o.t by omega]
                by_cases ej : j = jn
                · subst ej; exact hhj
                · rcases b4 j hj with hb | hb
                  · have := (hbl ⟨j, by omega⟩).2.2 hz (fun x => ej (by simpa using x))
                    rw [hl] at hb
                    dsimp only at this
                    rw [this] at hb; cases hb
                  · rw [hst] at hb; omega
              · dsimp only at hm; omega
            · rw [if_neg hz]
              have h0 := (hbl ⟨0, by omega⟩).1
              refine ⟨a1, a2, by rw [e]; exact a3, fun hm => ?_, fun _ => ⟨by dsimp only; omega, by dsimp only; omega, b3, fun j hj => ?_⟩⟩
              · dsimp only at hm; omega
              · by_cases ej : j = jn
                · right; dsimp only; rw [hst, ej]; omega
                · have h5 := (hbl ⟨j, by omega⟩).2.1 (fun x => ej (by simpa using x))
                  dsimp only at h5
                  rcases b4 j hj with hb | hb
                  · left; dsimp only; rw [h5, ← hl]; exact hb
                  · right; exact hb
          · rw [if_neg e]; exact h.P k hk
        · rw [if_neg hg]; exact h.P
    · rw [if_neg hj]; exact h.P
  · have := (rDo_tells r o).k4 hk
    rw [this]
    exact h.P
theorem WInv.loads {p q i : Nat} {r : Rg} (h : WInv p q i r) {k : Int} (hm : rMay k p q = true) (hi : i ≤ 1000) : rLoadsB k p q r.tail r.heads r.L = true := by
  have hti := h.I.ti
  unfold rLoadsB
  rw [hm, Bool.true_and]
  have h1 : loadB p q r.L = true := by
    unfold loadB
    rw [h.I.Ll]
    simp only [beq_self_eq_true, Bool.true_and]
    refine List.all_eq_true.2 fun k hk => ?_
    obtain ⟨a1, a2, a3, a4, a5⟩ := h.P k (List.mem_range.1 hk)
    unfold rightB
    rw [decide_eq_true a2, a3, Int.toNat_natCast]
    by_cases hz : (r.L.getD k Sl.z).st % 2 = 0
    · rw [if_pos hz, (a4 hz).1, (a4 hz).2.1]; simp
    · obtain ⟨b1, b2, -, -⟩ := a5 (by omega)
      rw [if_neg hz, decide_eq_true b1, decide_eq_true b2]; simp
  have h2 : headsB r.tail p r.heads = true := by
    unfold headsB
    refine List.all_eq_true.2 fun x hx => ?_
    have := h.I.h0 x hx
    rw [decide_eq_true (by omega), decide_eq_true (by omega)]; rfl
  have h3 : placesB r.tail p r.heads r.L = true := by
    unfold placesB
    refine List.all_eq_true.2 fun x hx => ?_
    obtain ⟨n, hn, rfl⟩ := List.mem_iff_getElem.1 hx
    have e : r.L.getD n Sl.z = r.L[n] := by simp [List.getD, hn]
    obtain ⟨a1, a2, a3, a4, a5⟩ := h.P n (by have := h.I.Ll; omega)
    rw [e] at a1 a2 a3 a4 a5
    unfold standB
    by_cases hz : r.L[n].st % 2 = 1
    · obtain ⟨-, -, b3, b4⟩ := a5 hz
      rw [if_pos hz, decide_eq_true b3, Bool.true_and]
      refine List.all_eq_true.2 fun j hj => ?_
      have hjq : j < q := by have := List.mem_range.1 hj; have := h.I.hl; omega
      rcases b4 j hjq with hb | hb
      · rw [hb]; rfl
      · rw [decide_eq_true hb, Bool.or_true]
    · rw [if_neg hz]
      refine List.all_eq_true.2 fun j hj => ?_
      have hjq : j < q := by have := List.mem_range.1 hj; have := h.I.hl; omega
      by_cases hle : (p : Int) ≤ r.L[n].st / 2
      · have := (a4 (by omega)).2.2 j hjq hle
        rw [decide_eq_false (show ¬ r.heads.getD j 0 ≤ r.L[n].st / 2 - p by omega), Bool.and_false]; rfl
      · rw [decide_eq_false hle, Bool.false_and]; rfl
  rw [h1, h2, h3, decide_eq_true (by omega), h.I.hl]
  simp
theorem rpub_free (r : Rg) (t v : Int) (hT : r.tail < 4611686018427387904) : ((rPublish r t v).1 == 0) = rFree r t := by
  unfold rPublish rFree sFree
  by_cases h1 : r.tail ≤ t
  · rw [if_pos h1, decide_eq_false (by omega)]; rfl
  · rw [if_neg h1, decide_eq_true (by omega), decide_eq_true (show t < 4611686018427387904 by omega), Bool.true_and, Bool.true_and]
    unfold sPut
    rw [if_pos (by omega)]
    by_cases h2 : (slAt r.L t).st < 2 * t
    · rw [if_pos h2]; symm; show _ = ((8 : Int) == 0); rw [show ((8 : Int) == 0) = false from rfl]; simp; omega
    · rw [if_neg h2]
      by_cases h3 : 2 * t < (slAt r.L t).st
      · rw [if_pos h3]; symm; show _ = ((11 : Int) == 0); rw [show ((11 : Int) == 0) = false from rfl]; simp; omega
      · rw [if_neg h3]; symm; show _ = ((0 : Int) == 0); rw [show ((0 : Int) == 0) = true from rfl]; simp; omega
theorem sGet_er (L : List Sl) (R : Nat) (j t : Int) : (sGet L R j t).2.1 = sGot L R j t := by
  unfold sGet; split
  · rename_i h; exact h.symm
  · rfl
theorem rrel_has (r : Rg) (j t : Int) : ((rRelease r j t).2.1 == 0) = rHas r j t := by
  unfold rRelease rHas
  cases hj : rIs r j with
  | false => rw [if_neg (by decide)]; rfl
  | true =>
    rw [if_pos rfl, Bool.true_and]
    by_cases h1 : rHead r j ≤ t
    · rw [if_pos h1, decide_eq_false (by omega)]; rfl
    · rw [if_neg h1, decide_eq_true (by omega), Bool.true_and]
      dsimp only
      rw [sGet_er]

set_option maxRecDepth 100000 in
set_option maxHeartbeats 6400000 in
theorem RSame13 {v1 v2 u1 u2 : Value} {r : Rg} (h1 : Rd w v1 r.heads.length (u64s r.heads)) (h2 : Rd w v2 r.L.length (slCells r.L)) (g1 : Rd w u1 r.heads.length (u64s r.heads)) (g2 : Rd w u2 r.L.length (slCells r.L)) (hH : 0 < r.heads.length) (hH8 : r.heads.length ≤ 8) (hL : 0 < r.L.length) (hle : r.L.length ≤ 64) :
    Calls Try.prog 57 #[stVal v1 v2 r, stVal u1 u2 r] w fun e w' => e = .returned (.bool true) ∧ Kp no w w' := by
  obtain ⟨a, ao, c, rfl, -, -, hc⟩ := h1.form (by rw [u64s_len]; omega)
  obtain ⟨b, bo, d, rfl, -, -, hd⟩ := g1.form (by rw [u64s_len]; omega)
  obtain ⟨A2, c2, rfl, -⟩ := id h2
  obtain ⟨B2, d2, rfl, -⟩ := id g2
  obtain ⟨T, H, cl, L⟩ := r
  unfold stVal
  dsimp only at h1 h2 g1 g2 hc hd hH hH8 hL hle ⊢
  have HL := As.mk (And.intro hL hle)
  clear hL hle
  go_enter Try.func57, Try.ntmps57
  go_wp2_with fail
  obtain ⟨m1, k1⟩ := box1 (w := w) #[.int .u64 T, .slice (some ⟨a, ao, none⟩) H.length c, .bool cl, .slice A2 L.length c2] 92
  generalize hW1 : w.alloc (.cells #[.int .u64 T, .slice (some ⟨a, ao, none⟩) H.length c, .bool cl, .slice A2 L.length c2] 92) = W1 at m1 k1 ⊢
  have e1 : W1.heap.size = w.heap.size + 1 := by rw [← hW1]; simp
  try rw [← e1]
  obtain ⟨m2, k2⟩ := box1 (w := W1) #[.int .u64 T, .slice (some ⟨b, bo, none⟩) H.length d, .bool cl, .slice B2 L.length d2] 92
  replace m1 := bk_kp m1 k2 (fun x => x)
  generalize W1.alloc (.cells #[.int .u64 T, .slice (some ⟨b, bo, none⟩) H.length d, .bool cl, .slice B2 L.length d2] 92) = W2 at m1 m2 k2 ⊢
  generalize W1.heap.size = x2 at m2 e1 ⊢
  generalize w.heap.size = x1 at m1 e1 ⊢
  have hk := k1.trans k2
  refine (RSame (h2.kp hk (fun _ _ x => x)) (g2.kp hk (fun _ _ x => x)) HL.out.1 HL.out.2).mono ?_
  rintro e W3 ⟨rfl, hq⟩
  have HA := As.mk (And.intro h1 (And.intro g1 (hk.qd hq)))
  have HM := As.mk (And.intro (bk_qd m1 hq) (bk_qd m2 hq))
  have d1 := bk_cell HM.out.1 1
  have d2 := bk_cell HM.out.2 1
  clear m1 m2 hW1 k1 k2 e1 hk hq hc hd h1 h2 g1 g2
  go_wp2
  clear d1 d2
  go_loopw [5] (fun v5 wr => ∃ k : Nat, k ≤ H.length ∧ v5 = .int .i64 k ∧ QD W3 wr) (fun v5 _ => H.length - (intOf v5).toNat)
  case atStart => exact ⟨0, Nat.zero_le _, rfl, QD.refl _⟩
  case round =>
    as_aux_lemma =>
      obtain ⟨k, hk, rfl, hq⟩ := hrel
      have b1 := bk_cell (bk_qd HM.out.1 hq) 1
      have b2 := bk_cell (bk_qd HM.out.2 hq) 1
      by_cases hlt : k < H.length
      · have K := HA.out.2.2.qd hq
        obtain ⟨_, _, e1, -, -, -, hc⟩ := HA.out.1.kp K (fun _ _ x => x)
        obtain ⟨_, _, e2, -, -, -, hd⟩ := HA.out.2.1.kp K (fun _ _ x => x)
        cases e1; cases e2
        have c0 := hc _ rfl k _ (u64s_get H k hlt)
        have c1 := hd _ rfl k _ (u64s_get H k hlt)
        rw [add_none] at c0 c1
        have hne := ne_self (H.getD k 0)
        generalize H.getD k 0 = x at c0 c1 hne
        clear hc hd K
        go_wp2
        go_quiet (fail)
        go_wp2
        exact ⟨⟨k + 1, by omega, by go_num, hq.trans (QD.n _ _)⟩, by simp [intOf]; omega⟩
      · go_wp2
        go_ret
        exact ⟨rfl, HA.out.2.2.qd hq⟩
end Go.Proofs.Ytmejnhfggmmefaa.H
