/- Layer 12: what slots' Get of the program does. No condition. -/
import Derived.Test.YtmejnhfggmmefaaSlB
namespace Go.Proofs.Ytmejnhfggmmefaa.H
open Go.RowKit
set_option linter.unusedVariables false
set_option linter.unusedSimpArgs false
variable {w : World} {g b cap : Nat} {L : List Sl} {R : Nat} {t j : Int}

set_option maxRecDepth 100000 in
set_option maxHeartbeats 3200000 in
theorem Get_more (h : SlotsIn w g b cap L R) (ht : 0 ≤ t) (h1 : t < 4611686018427387904) (hj0 : 0 ≤ j) (hj8 : j < 8) (h2 : sGot L R j t = 0) (hb : (slAt L t).left / 2 ^ j.toNat % 2 = 1) (hz : (slAt L t).left - 2 ^ j.toNat ≠ 0) :
    Calls Try.prog 38 #[.pointer (some ⟨g, 0, none⟩), .int .i64 j, .int .u64 t] w fun e w' => e = .returned (.tuple #[.int .u64 (slAt L t).v, .int .i64 0]) ∧
      SlotsIn w' g b cap (L.set (pl L t) ⟨(slAt L t).st, (slAt L t).v, (slAt L t).left - 2 ^ j.toNat⟩) R ∧ Kp (· = b) w w' := by
  have hok := h.at_ (pl_lt h.pos t)
  have hwr : IntKind.i64.wrap (2 ^ j.toNat) = 2 ^ j.toNat := by
    have q1 := pow_le8 (R := j.toNat) (by omega); have q2 := pow_pos' j.toNat; rw [IntKind.wrap_i64]; omega
  have hand : bits .andNot .i64 (slAt L t).left (2 ^ j.toNat) = (slAt L t).left - 2 ^ j.toNat ∧ 0 ≤ (slAt L t).left - 2 ^ j.toNat := by
    obtain ⟨J, rfl⟩ := Int.eq_ofNat_of_zero_le hj0
    obtain ⟨l, hl⟩ := Int.eq_ofNat_of_zero_le hok.2.2.1
    have hl2 := hok.2.2.2
    change (slAt L (t)).left = _ at hl
    change (slAt L (t)).left < _ at hl2
    rw [hl] at hl2 hb ⊢
    exact bits_off l J (by omega) (by omega) hb
  obtain ⟨hand, hnn⟩ := hand
  have hlt : (slAt L t).left - 2 ^ j.toNat < 256 := by
    have q1 := hok.2.2.2; have q2 := pow_pos' j.toNat; change (slAt L t).left < 256 at q1; omega
  have hzb : ((slAt L t).left - 2 ^ j.toNat == 0) = false := by simpa using hz
  have hgot := As.mk h2
  have hF := As.mk (And.intro hwr (And.intro hand hzb))
  clear hok hb hz h2 hwr hand hzb
  go_enter Try.func38, Try.ntmps38
  go_wp2_with fail
  refine (got_any h ht).mono ?_
  rintro e w1 ⟨rfl, hq⟩
  rw [hgot.out]
  have hK := (Kp.refl (· = b) w).qd hq
  replace h := h.qd hq
  clear hq
  go_wp2_with fail
  refine (place_ok h ht).mono ?_
  rintro e w2 ⟨rfl, hq⟩
  replace hK := hK.qd hq
  replace h := h.qd hq
  clear hq
  obtain ⟨c0, c1, c2⟩ := h.cell (pl_lt h.pos t)
  change w2.cell? _ = some (.int .i64 (slAt L t).left) at c2
  change w2.cell? _ = some (.int .u64 (slAt L t).v) at c1
  go_wp2
  refine wp_region_still_tail 9 (by kernel_rfl) (by kernel_rfl) ?_
  generalize hq : ({ w2 with drawn := w2.drawn + 1 } : World) = w3
  replace hq : QD w2 w3 := ⟨1, hq.symm⟩
  replace hK := hK.qd hq
  replace h := h.qd hq
  clear hq c0 c1 c2
  obtain ⟨c0, c1, c2⟩ := h.cell (pl_lt h.pos t)
  change w3.cell? _ = some (.int .i64 (slAt L t).left) at c2
  have f2 := h.fz (pl L t * 3 + 2)
  obtain ⟨hwr, hand, hzb⟩ := hF.out
  simp only [List.take_succ_cons, List.take_zero, List.drop_succ_cons, List.drop_zero]
  repeat still_step
  refine wpStill_nil ?_
  go_wp2
  go_ret2
  exact ⟨rfl, h.put2 (pl_lt h.pos t) hnn hlt, hK.setCell _ rfl _⟩
set_option maxRecDepth 100000 in
set_option maxHeartbeats 3200000 in
theorem Get_last (h : SlotsIn w g b cap L R) (ht : 0 ≤ t) (h1 : t < 4611686018427387904) (hj0 : 0 ≤ j) (hj8 : j < 8) (h2 : sGot L R j t = 0) (hb : (slAt L t).left / 2 ^ j.toNat % 2 = 1) (hz : (slAt L t).left - 2 ^ j.toNat = 0) :
    Calls Try.prog 38 #[.pointer (some ⟨g, 0, none⟩), .int .i64 j, .int .u64 t] w fun e w' => e = .returned (.tuple #[.int .u64 (slAt L t).v, .int .i64 0]) ∧
      SlotsIn w' g b cap (L.set (pl L t) ⟨2 * (t + L.length), 0, 0⟩) R ∧ Kp (· = b) w w' := by
  have hok := h.at_ (pl_lt h.pos t)
  have hwr : IntKind.i64.wrap (2 ^ j.toNat) = 2 ^ j.toNat := by
    have q1 := pow_le8 (R := j.toNat) (by omega); have q2 := pow_pos' j.toNat; rw [IntKind.wrap_i64]; omega
  have hand : bits .andNot .i64 (slAt L t).left (2 ^ j.toNat) = (slAt L t).left - 2 ^ j.toNat ∧ 0 ≤ (slAt L t).left - 2 ^ j.toNat := by
    obtain ⟨J, rfl⟩ := Int.eq_ofNat_of_zero_le hj0
    obtain ⟨l, hl⟩ := Int.eq_ofNat_of_zero_le hok.2.2.1
    have hl2 := hok.2.2.2
    change (slAt L (t)).left = _ at hl
    change (slAt L (t)).left < _ at hl2
    rw [hl] at hl2 hb ⊢
    exact bits_off l J (by omega) (by omega) hb
  obtain ⟨hand, hnn⟩ := hand
  have hlt : (slAt L t).left - 2 ^ j.toNat < 256 := by
    have q1 := hok.2.2.2; have q2 := pow_pos' j.toNat; change (slAt L t).left < 256 at q1; omega
  have hw : IntKind.u64.wrap (L.length : Int) = (L.length : Int) := by have := h.le; rw [IntKind.wrap_u64]; omega
  have hw2 : IntKind.u64.wrap (t + (L.length : Int)) = t + (L.length : Int) := by have := h.le; rw [IntKind.wrap_u64]; omega
  have hle := As.mk h.le
  have hn := As.mk (show 0 ≤ t + (L.length : Int) ∧ t + (L.length : Int) < 9223372036854775808 from by have := h.le; omega)
  have hgot := As.mk h2
  have hF := As.mk (And.intro hwr (And.intro (hand.trans hz) (And.intro hw hw2)))
  clear hok hb hz h2 hwr hand hw hw2 hlt hnn
  go_enter Try.func38, Try.ntmps38
  go_wp2_with fail
  refine (got_any h ht).mono ?_
  rintro e w1 ⟨rfl, hq⟩
  rw [hgot.out]
  have hK := (Kp.refl (· = b) w).qd hq
  replace h := h.qd hq
  clear hq
  go_wp2_with fail
  refine (place_ok h ht).mono ?_
  rintro e w2 ⟨rfl, hq⟩
  replace hK := hK.qd hq
  replace h := h.qd hq
  clear hq
  obtain ⟨c0, c1, c2⟩ := h.cell (pl_lt h.pos t)
  change w2.cell? _ = some (.int .i64 (slAt L t).left) at c2
  change w2.cell? _ = some (.int .u64 (slAt L t).v) at c1
  go_wp2
  refine wp_region_still_tail 9 (by kernel_rfl) (by kernel_rfl) ?_
  generalize hq : ({ w2 with drawn := w2.drawn + 1 } : World) = w3
  replace hq : QD w2 w3 := ⟨1, hq.symm⟩
  replace hK := hK.qd hq
  replace h := h.qd hq
  clear hq c0 c1 c2
  obtain ⟨c0, c1, c2⟩ := h.cell (pl_lt h.pos t)
  change w3.cell? _ = some (.int .i64 (slAt L t).left) at c2
  have f2 := h.fz (pl L t * 3 + 2)
  obtain ⟨hwr, hand, hw, hw2⟩ := hF.out
  clear c1
  simp only [List.take_succ_cons, List.take_zero, List.drop_succ_cons, List.drop_zero]
  repeat still_step
  refine wpStill_nil ?_
  have hd0 := h.c0
  have f0 := h.fz (pl L t * 3)
  have f1 := h.fz (pl L t * 3 + 1)
  have d1 := (h.cell (pl_lt h.pos t)).2.1
  go_wp2_with fail
  refine (free_ok _ _ hn.out.1 hn.out.2).mono ?_
  rintro e w' ⟨rfl, rfl⟩
  go_wp2
  go_ret2
  have hlt := pl_lt h.pos t
  have h2 := h.put2 hlt (Int.le_refl 0) (by decide)
  have hlt2 := pl_lt h2.pos t
  have h3 := h2.put3 (i := pl L t) (by simpa using hlt) (s := 2 * (t + L.length)) (v := 0) (l := 0) ⟨by show (0 : Int) ≤ 2 * (t + L.length); have := hn.out; omega, by show 2 * (t + (L.length : Int)) < 18446744073709551616; have := hn.out; omega, Int.le_refl 0, by show (0 : Int) < 256; decide⟩
  rw [List.set_set] at h3
  exact ⟨rfl, h3, (((hK.setCell _ rfl _).setCell _ rfl _).setCell _ rfl _).setCell _ rfl _⟩
/-- Get, whatever it is asked. -/
theorem Get_any (h : SlotsIn w g b cap L R) (ht : 0 ≤ t) :
    Calls Try.prog 38 #[.pointer (some ⟨g, 0, none⟩), .int .i64 j, .int .u64 t] w fun e w' => e = .returned (.tuple #[.int .u64 (sGet L R j t).1, .int .i64 (sGet L R j t).2.1]) ∧ SlotsIn w' g b cap (sGet L R j t).2.2 R ∧ Kp (· = b) w w' := by
  by_cases h0 : sGot L R j t = 0
  · have h2 := h0
    unfold sGot at h2
    have e : sGet L R j t = ((slAt L t).v, 0, L.set (pl L t) (if (slAt L t).left - 2 ^ j.toNat = 0 then ⟨2 * (t + L.length), 0, 0⟩ else ⟨(slAt L t).st, (slAt L t).v, (slAt L t).left - 2 ^ j.toNat⟩)) := by unfold sGet; rw [if_pos h0]
    rw [e]
    by_cases h1 : t < 4611686018427387904 ∧ 0 ≤ j ∧ j < (R : Int)
    · rw [if_pos h1] at h2
      have hb : (slAt L t).left / 2 ^ j.toNat % 2 = 1 := by
        by_cases h4 : (slAt L t).st < 2 * t + 1
        · rw [if_pos h4] at h2; cases h2
        · rw [if_neg h4] at h2
          by_cases h5 : 2 * t + 1 < (slAt L t).st
          · rw [if_pos h5] at h2; cases h2
          · rw [if_neg h5] at h2
            by_cases h6 : bitOf (slAt L t).left j = true
            · simpa [bitOf] using h6
            · rw [if_neg h6] at h2; cases h2
      have h8 := h.hR
      by_cases hz : (slAt L t).left - 2 ^ j.toNat = 0
      · rw [if_pos hz]; exact Get_last h ht h1.1 h1.2.1 (by omega) h0 hb hz
      · rw [if_neg hz]; exact Get_more h ht h1.1 h1.2.1 (by omega) h0 hb hz
    · rw [if_neg h1] at h2; cases h2
  · have e : sGet L R j t = (0, sGot L R j t, L) := by unfold sGet; rw [if_neg h0]
    rw [e]
    have hs := h
    go_enter Try.func38, Try.ntmps38
    go_wp2_with fail
    refine (got_any h ht).mono ?_
    rintro e w1 ⟨rfl, hq⟩
    have hb : (sGot L R j t != 0) = true := by simpa using h0
    go_wp2
    go_ret2
    exact ⟨rfl, hs.qd hq, Kp.of_qd hq⟩
theorem Get_nil : Calls Try.prog 38 #[.pointer none, .int .i64 j, .int .u64 t] w fun e w' => e = .returned (.tuple #[.int .u64 0, .int .i64 15]) ∧ QD w w' :=
  Get_no 15 (by decide) _ (fun _ => got_nil)
end Go.Proofs.Ytmejnhfggmmefaa.H
