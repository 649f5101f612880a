/- Layer 12: what slots' Get of the program does. No condition. Layer 12: what slots' may, right, All and slices.Clone at api.Slot do. No condition. -/
import Derived.Test.YtmejnhfggmmefaaSlB
namespace Go.Proofs.Ytmejnhfggmmefaa.H
open Go.RowKit
set_option linter.unusedVariables false
set_option linter.unusedSimpArgs false
variable {w : World} {g b cap : Nat} {L : List Sl} {R : Nat} {t j : Int}

set_option maxRecDepth 100000 in
set_option maxHeartbeats 3200000 in
theorem Get_more (h : SlotsIn w g b cap L R) (ht : 0 ≤ t) (h1 : t < 4611686018427387904) (hj0 : 0 ≤ j) (hj8 : j < 8) (h2 : sGot L R j t = 0) (hb : (slAt L t).left / 2 ^ j.toNat % 2 = 1) (hz : (slAt L t).left - 2 ^ j.toNat ≠ 0) :
    Calls Try.prog 38 #[.pointer (some ⟨g, 0, none⟩), .int .i64 j, .int .u64 t] w fun e w' => e = .returned (.tuple #[.int .u64 (slAt L t).v, .int .i64 0]) ∧
      SlotsIn w' g b cap (L.set (pl L t) ⟨(slAt L t).st, (slAt L t).v, (slAt L t).left - 2 ^ j.toNat⟩) R ∧ Kp (· = b) w w' := by
  have hok := h.at_ (pl_lt h.pos t)
  have hwr : IntKind.i64.wrap (2 ^ j.toNat) = 2 ^ j.toNat := by
    have q1 := pow_le8 (R := j.toNat) (by omega); have q2 := pow_pos' j.toNat; rw [IntKind.wrap_i64]; omega
  have hand : bits .andNot .i64 (slAt L t).left (2 ^ j.toNat) = (slAt L t).left - 2 ^ j.toNat ∧ 0 ≤ (slAt L t).left - 2 ^ j.toNat := by
    obtain ⟨J, rfl⟩ := Int.eq_ofNat_of_zero_le hj0
    obtain ⟨l, hl⟩ := Int.eq_ofNat_of_zero_le hok.2.2.1
    have hl2 := hok.2.2.2
    change (slAt L (t)).left = _ at hl
    change (slAt L (t)).left < _ at hl2
    rw [hl] at hl2 hb ⊢
    exact bits_off l J (by omega) (by omega) hb
  obtain ⟨hand, hnn⟩ := hand
  have hlt : (slAt L t).left - 2 ^ j.toNat < 256 := by
    have q1 := hok.2.2.2; have q2 := pow_pos' j.toNat; change (slAt L t).left < 256 at q1; omega
  have hzb : ((slAt L t).left - 2 ^ j.toNat == 0) = false := by simpa using hz
  have hgot := As.mk h2
  have hF := As.mk (And.intro hwr (And.intro hand hzb))
  clear hok hb hz h2 hwr hand hzb
  go_enter Try.func38, Try.ntmps38
  go_wp2_with fail
  refine (got_any h ht).mono ?_
  rintro e w1 ⟨rfl, hq⟩
  rw [hgot.out]
  have hK := (Kp.refl (· = b) w).qd hq
  replace h := h.qd hq
  clear hq
  go_wp2_with fail
  refine (place_ok h ht).mono ?_
  rintro e w2 ⟨rfl, hq⟩
  replace hK := hK.qd hq
  replace h := h.qd hq
  clear hq
  obtain ⟨c0, c1, c2⟩ := h.cell (pl_lt h.pos t)
  change w2.cell? _ = some (.int .i64 (slAt L t).left) at c2
  change w2.cell? _ = some (.int .u64 (slAt L t).v) at c1
  go_wp2
  refine wp_region_still_tail 9 (by kernel_rfl) (by kernel_rfl) ?_
  generalize hq : ({ w2 with drawn := w2.drawn + 1 } : World) = w3
  replace hq : QD w2 w3 := ⟨1, hq.symm⟩
  replace hK := hK.qd hq
  replace h := h.qd hq
  clear hq c0 c1 c2
  obtain ⟨c0, c1, c2⟩ := h.cell (pl_lt h.pos t)
  change w3.cell? _ = some (.int .i64 (slAt L t).left) at c2
  have f2 := h.fz (pl L t * 3 + 2)
  obtain ⟨hwr, hand, hzb⟩ := hF.out
  simp only [List.take_succ_cons, List.take_zero, List.drop_succ_cons, List.drop_zero]
  repeat still_step
  refine wpStill_nil ?_
  go_wp2
  go_ret2
  exact ⟨rfl, h.put2 (pl_lt h.pos t) hnn hlt, hK.setCell _ rfl _⟩
set_option maxRecDepth 100000 in
set_option maxHeartbeats 3200000 in
theorem Get_last (h : SlotsIn w g b cap L R) (ht : 0 ≤ t) (h1 : t < 4611686018427387904) (hj0 : 0 ≤ j) (hj8 : j < 8) (h2 : sGot L R j t = 0) (hb : (slAt L t).left / 2 ^ j.toNat % 2 = 1) (hz : (slAt L t).left - 2 ^ j.toNat = 0) :
    Calls Try.prog 38 #[.pointer (some ⟨g, 0, none⟩), .int .i64 j, .int .u64 t] w fun e w' => e = .returned (.tuple #[.int .u64 (slAt L t).v, .int .i64 0]) ∧
      SlotsIn w' g b cap (L.set (pl L t) ⟨2 * (t + L.length), 0, 0⟩) R ∧ Kp (· = b) w w' := by
  have hok := h.at_ (pl_lt h.pos t)
  have hwr : IntKind.i64.wrap (2 ^ j.toNat) = 2 ^ j.toNat := by
    have q1 := pow_le8 (R := j.toNat) (by omega); have q2 := pow_pos' j.toNat; rw [IntKind.wrap_i64]; omega
  have hand : bits .andNot .i64 (slAt L t).left (2 ^ j.toNat) = (slAt L t).left - 2 ^ j.toNat ∧ 0 ≤ (slAt L t).left - 2 ^ j.toNat := by
    obtain ⟨J, rfl⟩ := Int.eq_ofNat_of_zero_le hj0
    obtain ⟨l, hl⟩ := Int.eq_ofNat_of_zero_le hok.2.2.1
    have hl2 := hok.2.2.2
    change (slAt L (t)).left = _ at hl
    change (slAt L (t)).left < _ at hl2
    rw [hl] at hl2 hb ⊢
    exact bits_off l J (by omega) (by omega) hb
  obtain ⟨hand, hnn⟩ := hand
  have hlt : (slAt L t).left - 2 ^ j.toNat < 256 := by
    have q1 := hok.2.2.2; have q2 := pow_pos' j.toNat; change (slAt L t).left < 256 at q1; omega
  have hw : IntKind.u64.wrap (L.length : Int) = (L.length : Int) := by have := h.le; rw [IntKind.wrap_u64]; omega
  have hw2 : IntKind.u64.wrap (t + (L.length : Int)) = t + (L.length : Int) := by have := h.le; rw [IntKind.wrap_u64]; omega
  have hle := As.mk h.le
  have hn := As.mk (show 0 ≤ t + (L.length : Int) ∧ t + (L.length : Int) < 9223372036854775808 from by have := h.le; omega)
  have hgot := As.mk h2
  have hF := As.mk (And.intro hwr (And.intro (hand.trans hz) (And.intro hw hw2)))
  clear hok hb hz h2 hwr hand hw hw2 hlt hnn
  go_enter Try.func38, Try.ntmps38
  go_wp2_with fail
  refine (got_any h ht).mono ?_
  rintro e w1 ⟨rfl, hq⟩
  rw [hgot.out]
  have hK := (Kp.refl (· = b) w).qd hq
  replace h := h.qd hq
  clear hq
  go_wp2_with fail
  refine (place_ok h ht).mono ?_
  rintro e w2 ⟨rfl, hq⟩
  replace hK := hK.qd hq
  replace h := h.qd hq
  clear hq
  obtain ⟨c0, c1, c2⟩ := h.cell (pl_lt h.pos t)
  change w2.cell? _ = some (.int .i64 (slAt L t).left) at c2
  change w2.cell? _ = some (.int .u64 (slAt L t).v) at c1
  go_wp2
  refine wp_region_still_tail 9 (by kernel_rfl) (by kernel_rfl) ?_
  generalize hq : ({ w2 with drawn := w2.drawn + 1 } : World) = w3
  replace hq : QD w2 w3 := ⟨1, hq.symm⟩
  replace hK := hK.qd hq
  replace h := h.qd hq
  clear hq c0 c1 c2
  obtain ⟨c0, c1, c2⟩ := h.cell (pl_lt h.pos t)
  change w3.cell? _ = some (.int .i64 (slAt L t).left) at c2
  have f2 := h.fz (pl L t * 3 + 2)
  obtain ⟨hwr, hand, hw, hw2⟩ := hF.out
  clear c1
  simp only [List.take_succ_cons, List.take_zero, List.drop_succ_cons, List.drop_zero]
  repeat still_step
  refine wpStill_nil ?_
  have hd0 := h.c0
  have f0 := h.fz (pl L t * 3)
  have f1 := h.fz (pl L t * 3 + 1)
  have d1 := (h.cell (pl_lt h.pos t)).2.1
  go_wp2_with fail
  refine (free_ok _ _ hn.out.1 hn.out.2).mono ?_
  rintro e w' ⟨rfl, rfl⟩
  go_wp2
  go_ret2
  have hlt := pl_lt h.pos t
  have h2 := h.put2 hlt (Int.le_refl 0) (by decide)
  have hlt2 := pl_lt h2.pos t
  have h3 := h2.put3 (i := pl L t) (by simpa using hlt) (s := 2 * (t + L.length)) (v := 0) (l := 0) ⟨by show (0 : Int) ≤ 2 * (t + L.length); have := hn.out; omega, by show 2 * (t + (L.length : Int)) < 18446744073709551616; have := hn.out; omega, Int.le_refl 0, by show (0 : Int) < 256; decide⟩
  rw [List.set_set] at h3
  exact ⟨rfl, h3, (((hK.setCell _ rfl _).setCell _ rfl _).setCell _ rfl _).setCell _ rfl _⟩
/-- Get, whatever it is asked. -/
theorem Get_any (h : SlotsIn w g b cap L R) (ht : 0 ≤ t) :
    Calls Try.prog 38 #[.pointer (some ⟨g, 0, none⟩), .int .i64 j, .int .u64 t] w fun e w' => e = .returned (.tuple #[.int .u64 (sGet L R j t).1, .int .i64 (sGet L R j t).2.1]) ∧ SlotsIn w' g b cap (sGet L R j t).2.2 R ∧ Kp (· = b) w w' := by
  by_cases h0 : sGot L R j t = 0
  · have h2 := h0
    unfold sGot at h2
    have e : sGet L R j t = ((slAt L t).v, 0, L.set (pl L t) (if (slAt L t).left - 2 ^ j.toNat = 0 then ⟨2 * (t + L.length), 0, 0⟩ else ⟨(slAt L t).st, (slAt L t).v, (slAt L t).left - 2 ^ j.toNat⟩)) := by unfold sGet; rw [if_pos h0]
    rw [e]
    by_cases h1 : t < 4611686018427387904 ∧ 0 ≤ j ∧ j < (R : Int)
    · rw [if_pos h1] at h2
      have hb : (slAt L t).left / 2 ^ j.toNat % 2 = 1 := by
        by_cases h4 : (slAt L t).st < 2 * t + 1
        · rw [if_pos h4] at h2; cases h2
        · rw [if_neg h4] at h2
          by_cases h5 : 2 * t + 1 < (slAt L t).st
          · rw [if_pos h5] at h2; cases h2
          · rw [if_neg h5] at h2
            by_cases h6 : bitOf (slAt L t).left j = true
            · simpa [bitOf] using h6
            · rw [if_neg h6] at h2; cases h2
      have h8 := h.hR
      by_cases hz : (slAt L t).left - 2 ^ j.toNat = 0
      · rw [if_pos hz]; exact Get_last h ht h1.1 h1.2.1 (by omega) h0 hb hz
      · rw [if_neg hz]; exact Get_more h ht h1.1 h1.2.1 (by omega) h0 hb hz
    · rw [if_neg h1] at h2; cases h2
  · have e : sGet L R j t = (0, sGot L R j t, L) := by unfold sGet; rw [if_neg h0]
    rw [e]
    have hs := h
    go_enter Try.func38, Try.ntmps38
    go_wp2_with fail
    refine (got_any h ht).mono ?_
    rintro e w1 ⟨rfl, hq⟩
    have hb : (sGot L R j t != 0) = true := by simpa using h0
    go_wp2
    go_ret2
    exact ⟨rfl, hs.qd hq, Kp.of_qd hq⟩
theorem Get_nil : Calls Try.prog 38 #[.pointer none, .int .i64 j, .int .u64 t] w fun e w' => e = .returned (.tuple #[.int .u64 0, .int .i64 15]) ∧ QD w w' :=
  Get_no 15 (by decide) _ (fun _ => got_nil)
end Go.Proofs.Ytmejnhfggmmefaa.H
namespace Go.Proofs.Ytmejnhfggmmefaa.H
open Go.RowKit
set_option linter.unusedVariables false
set_option linter.unusedSimpArgs false
theorem Try.eqnil (t e : TypeId) (h : Try.prog.underlying t = some (.slice e)) (a : Option Addr) (n c : Nat) (w : World) : (binOp .eql t (.slice a n c) (.slice none 0 0)).run Try.prog w = .ok (.bool a.isNone) w := Lib.run_eql_slice_nil w t e a n c 0 0 h
variable {w : World} {g b cap : Nat} {L : List Sl} {R : Nat} {t j : Int}

theorem Try.infoSlot : (Try.prog.info? 119).map (fun i => (i.zero, i.size, i.bytes)) = some (some (.agg #[.int .u64 0, .int .u64 0, .int .i64 0]), 3, 24) := by kernel_rfl

set_option maxRecDepth 100000 in
set_option maxHeartbeats 1600000 in
theorem CloneSlot_nil : Calls Try.prog 78 #[.slice none 0 0] w fun e w' => e = .returned (.slice none 0 0) ∧ QD w w' := by
  have he := Try.eqnil 58 119 Try.underlying58 none 0 0
  go_enter Try.func78, Try.ntmps78
  go_wp2
  go_ret
  exact ⟨rfl, QD.refl _⟩
set_option maxRecDepth 100000 in
set_option maxHeartbeats 1600000 in
theorem CloneSlot_some (ad : Addr) (n c : Nat) (xs : List Value) (hl : xs.length = n * 3) (h1 : ∀ u ∈ xs, u.oneCell' = true) (hn : n ≤ 5864062014805)
    (hx : ∀ j u, xs[j]? = some u → w.cell? (ad.add j) = some u) :
    Calls Try.prog 78 #[.slice (some ad) n c] w fun e w' => ∃ v, e = .returned v ∧ w'.ownsRow w.heap.size 119 3 v n xs ∧ Kp no w w' := by
  obtain ⟨i0, hi, hz0, hz1, hz2⟩ := info_parts Try.infoSlot
  have hX := As.mk hx
  clear hx
  have he := Try.eqnil 58 119 Try.underlying58 (some ad) n c
  go_enter Try.func78, Try.ntmps78
  have hcell : ∀ j u, xs[j]? = some u → (w.alloc (.cells #[] 119)).cell? (ad.add j) = some u := fun j u hj => by
    have := hX.out j u hj
    rw [World.cell?_of_block (Below.heap_alloc w _ _ (World.block_lt_of_cell? _ _ this))]; exact this
  have hC := As.mk hcell
  clear hcell
  go_wp2_with (at_builtin; refine wpList_append_own_at _ (by rfl) _ _ 58 (by rfl) w.heap.size 119 i0 _ 3 24 Try.underlying58 hi hz0 hz1 hz2 (by rfl) (by decide) (.slice (some ⟨w.heap.size, 0, none⟩) 0 0) 0 [] (by rfl) (World.ownsRow_made w #[] 0 (Nat.le_refl _) (Nat.zero_le _) rfl) ad n c xs (by rfl) hl hC.out h1 (by unfold maxLen; omega) (by omega) (by simp) ?_; intro v' w' hown hgrow _ _)
  go_ret
  exact ⟨v', rfl, by simpa using hown, ((Kp.refl no w).alloc _).grown hgrow (fun k hk hlt => by simp [Value.ownBlock] at hk; omega)⟩
/-- Clone of places that can be read. -/
theorem CloneSlot_any {v : Value} {n : Nat} {xs : List Value} (h : Rd w v n xs) (hl : xs.length = n * 3) (h1 : ∀ u ∈ xs, u.oneCell' = true) (hn : n ≤ 5864062014805) :
    Calls Try.prog 78 #[v] w fun e w' => ∃ v, e = .returned v ∧ w'.ownsRow w.heap.size 119 3 v n xs ∧ Kp no w w' := by
  obtain ⟨A, c, rfl, _, _, h3, h4⟩ := h
  cases A with
  | none =>
    obtain ⟨rfl, rfl, rfl⟩ := h3 rfl
    refine CloneSlot_nil.mono ?_
    rintro e w' ⟨rfl, hq⟩
    exact ⟨_, rfl, World.ownsRow_nil _ _ _ _, Kp.of_qd hq⟩
  | some ad => exact CloneSlot_some ad n c xs hl h1 hn (h4 ad rfl)

set_option maxRecDepth 100000 in
set_option maxHeartbeats 1600000 in
theorem All_any (h : SlotsIn w g b cap L R) : Calls Try.prog 41 #[.pointer (some ⟨g, 0, none⟩)] w fun e w' => ∃ v, e = .returned v ∧ w'.ownsRow w.heap.size 119 3 v L.length (slCells L) ∧ Kp no w w' := by
  have hc := h.c0
  have hle := h.le
  have hs := h
  go_enter Try.func41, Try.ntmps41
  go_wp2_with fail
  refine (CloneSlot_any (Rd.of_own hs.bk) (slCells_len L) (slCells_one L) (by omega)).mono ?_
  rintro e w1 ⟨v, rfl, hown, hK⟩
  go_wp2
  go_ret
  exact ⟨v, rfl, hown, hK⟩
set_option maxRecDepth 100000 in
set_option maxHeartbeats 1600000 in
theorem All_nil : Calls Try.prog 41 #[.pointer none] w fun e w' => e = .returned (.slice none 0 0) ∧ QD w w' := by
  go_enter Try.func41, Try.ntmps41
  go_wp2
  go_ret
  exact ⟨rfl, QD.refl _⟩

def mayB (p r : Int) : Bool := decide (1 ≤ p ∧ p ≤ 64 ∧ 1 ≤ r ∧ r ≤ 8)
set_option maxRecDepth 100000 in
set_option maxHeartbeats 1600000 in
theorem may_any (p r : Int) : Calls Try.prog 70 #[.int .i64 p, .int .i64 r] w fun e w' => e = .returned (.bool (mayB p r)) ∧ w' = w := by
  by_cases h1 : 1 ≤ p
  · have d1 : decide (1 ≤ p) = true := decide_eq_true h1
    by_cases h2 : p ≤ 64
    · have d2 : decide (p ≤ 64) = true := decide_eq_true h2
      by_cases h3 : 1 ≤ r
      · have d3 : decide (1 ≤ r) = true := decide_eq_true h3
        have e : mayB p r = decide (r ≤ 8) := by unfold mayB; exact decide_eq_decide.2 (by omega)
        rw [e]
        clear h1 h2 h3 e
        go_enter Try.func70, Try.ntmps70
        go_wp2
        go_ret
        exact ⟨rfl, rfl⟩
      · have d3 : decide (1 ≤ r) = false := decide_eq_false h3
        have e : mayB p r = false := by unfold mayB; exact decide_eq_false (by omega)
        rw [e]
        clear h1 h2 h3 e
        go_enter Try.func70, Try.ntmps70
        go_wp2
        go_ret
        exact ⟨rfl, rfl⟩
    · have d2 : decide (p ≤ 64) = false := decide_eq_false h2
      have e : mayB p r = false := by unfold mayB; exact decide_eq_false (by omega)
      rw [e]
      clear h1 h2 e
      go_enter Try.func70, Try.ntmps70
      go_wp2
      go_ret
      exact ⟨rfl, rfl⟩
  · have d1 : decide (1 ≤ p) = false := decide_eq_false h1
    have e : mayB p r = false := by unfold mayB; exact decide_eq_false (by omega)
    rw [e]
    clear h1 e
    go_enter Try.func70, Try.ntmps70
    go_wp2
    go_ret
    exact ⟨rfl, rfl⟩
set_option maxRecDepth 100000 in
set_option maxHeartbeats 1600000 in
theorem SNew_no (p r : Int) (h : mayB p r = false) : Calls Try.prog 34 #[.int .i64 p, .int .i64 r] w fun e w' => e = .returned (.tuple #[.pointer none, .int .i64 1]) ∧ QD w w' := by
  have H := As.mk h
  clear h
  go_enter Try.func34, Try.ntmps34
  go_wp2_with fail
  refine (may_any p r).mono ?_
  rintro e w1 ⟨rfl, rfl⟩
  rw [H.out]
  go_wp2
  go_ret2
  exact ⟨rfl, QD.refl _⟩

/-- The places while New fills them. -/
def sNewTo (n k : Nat) : List Sl := (List.range n).map fun (i : Nat) => if i < k then ⟨2 * (i : Int), 0, 0⟩ else ⟨0, 0, 0⟩
theorem sNewTo_len (n k : Nat) : (sNewTo n k).length = n := by simp [sNewTo]
theorem sNewTo_zero (n : Nat) : sNewTo n 0 = List.replicate n Sl.z := by
  apply List.ext_getElem?; intro i
  simp [sNewTo, List.getElem?_replicate, List.getElem?_range]
  by_cases h : i < n <;> simp [h, Sl.z]
theorem sNewTo_all (n : Nat) : sNewTo n n = sNew n := by
  unfold sNewTo sNew
  apply List.map_congr_left
  intro i hi
  rw [if_pos (List.mem_range.1 hi)]
theorem sNewTo_step (n k : Nat) (h : k < n) : (sNewTo n k).set k ⟨2 * (k : Int), 0, 0⟩ = sNewTo n (k + 1) := by
  apply List.ext_getElem?; intro i
  simp only [sNewTo, List.getElem?_set, List.getElem?_map, List.length_map, List.length_range]
  by_cases e : k = i
  · subst e; simp [h]
  · rw [if_neg e]
    by_cases hi : i < n
    · simp only [List.getElem?_range hi, Option.map_some]
      by_cases h2 : i < k
      · rw [if_pos h2, if_pos (by omega)]
      · rw [if_neg h2, if_neg (by omega)]
    · simp [List.getElem?_eq_none (l := List.range n) (by simpa using hi)]
theorem sNewTo_at (n k : Nat) (h : k < n) : (sNewTo n k).getD k Sl.z = ⟨0, 0, 0⟩ := by simp [sNewTo, List.getD, h]
theorem sNewTo_ok (n k : Nat) (hn : n ≤ 64) : ∀ x ∈ sNewTo n k, x.ok := by
  intro x hx
  obtain ⟨i, hi, rfl⟩ := List.mem_map.1 hx
  have := List.mem_range.1 hi
  split <;> (unfold Sl.ok; simp; try omega)
theorem slCells_rep (n : Nat) : slCells (List.replicate n Sl.z) = (madeCells #[.int .u64 0, .int .u64 0, .int .i64 0] (n * 3)).toList := by
  apply List.ext_getElem?
  intro j
  have hl := slCells_len (List.replicate n Sl.z)
  rw [List.length_replicate] at hl
  have hm : (madeCells #[.int .u64 0, .int .u64 0, .int .i64 0] (n * 3)).toList.length = n * 3 := by simp [size_madeCells]
  by_cases h : j < n * 3
  · have h3 := slCells_get (List.replicate n Sl.z) (j / 3) (by rw [List.length_replicate]; omega)
    have hz : (List.replicate n Sl.z).getD (j / 3) Sl.z = Sl.z := by
      have h4 : j / 3 < n := by omega
      simp [List.getD, List.getElem?_replicate, h4]
    rw [hz] at h3
    have hr : (madeCells #[.int .u64 0, .int .u64 0, .int .i64 0] (n * 3)).toList[j]? = some ((#[.int .u64 0, .int .u64 0, .int .i64 0] : Array Value)[j % 3]!) := by
      simp [madeCells, h]
    rw [hr]
    have h5 : j % 3 = 0 ∨ j % 3 = 1 ∨ j % 3 = 2 := by omega
    rcases h5 with h5 | h5 | h5
    · rw [h5, show j = j / 3 * 3 from by omega, h3.1]; rfl
    · rw [h5, show j = j / 3 * 3 + 1 from by omega, h3.2.1]; rfl
    · rw [h5, show j = j / 3 * 3 + 2 from by omega, h3.2.2]; rfl
  · rw [List.getElem?_eq_none (by omega), List.getElem?_eq_none (by omega)]

set_option maxRecDepth 100000 in
set_option maxHeartbeats 3200000 in
theorem SNew_ok (p R : Nat) (h1 : 1 ≤ p) (h2 : p ≤ 64) (h3 : 1 ≤ R) (h4 : R ≤ 8) : Calls Try.prog 34 #[.int .i64 p, .int .i64 R] w fun e w' => ∃ g b, e = .returned (.tuple #[.pointer (some ⟨g, 0, none⟩), .int .i64 0]) ∧
    SlotsIn w' g b p (sNew p) R ∧ w.heap.size ≤ g ∧ w.heap.size ≤ b ∧ Kp no w w' := by
  have H := As.mk (show mayB p R = true from decide_eq_true (by omega))
  obtain ⟨i0, hi, hz0, hz1, hz2⟩ := info_parts Try.infoSlot
  obtain ⟨w1, hmk, hown, hgr⟩ := run_makeSlice_full (P := Try.prog) w w.heap.size 58 119 i0 _ 3 Try.underlying58 hi hz0 hz1 .i64 .i64 p (by omega) (by rw [hz2]; omega) (by unfold maxLen; omega) (Nat.le_refl _)
  have hO := As.mk hown
  clear hown hi hz0 hz1 hz2
  go_enter Try.func34, Try.ntmps34
  go_wp2_with fail
  refine (may_any p R).mono ?_
  rintro e w2 ⟨rfl, rfl⟩
  rw [H.out]
  go_wp2
  have hsz := hgr.size
  have hS : SlotsIn (w1.alloc (.cells #[.slice (some ⟨w2.heap.size, 0, none⟩) p p, .int .i64 R] 122)) w1.heap.size w2.heap.size p (sNewTo p 0) R := by
    refine ⟨?_, ?_, by rw [sNewTo_len]; omega, by rw [sNewTo_len]; omega, h4, h3, sNewTo_ok p 0 h2⟩
    · rw [sNewTo_len]; exact heap_alloc_new _ _
    · rw [sNewTo_len, sNewTo_zero, slCells_rep]
      exact or_base (hO.out.alloc _) (Nat.zero_le _)
  have hK : Kp no w2 (w1.alloc (.cells #[.slice (some ⟨w2.heap.size, 0, none⟩) p p, .int .i64 R] 122)) := ((Kp.refl no w2).grown hgr (fun k hk => by cases hk)).alloc _
  generalize w1.alloc (.cells #[.slice (some ⟨w2.heap.size, 0, none⟩) p p, .int .i64 R] 122) = W at hS hK ⊢
  clear hmk hgr hO
  generalize hg : w1.heap.size = g at hS hsz ⊢
  generalize hb : w2.heap.size = b at hS ⊢
  have hbl : w2.heap.size ≤ b := by omega
  clear hg hb
  go_loopw [22] (fun v22 wr => ∃ k : Nat, k ≤ p ∧ v22 = .int .i64 k ∧ SlotsIn wr g b p (sNewTo p k) R ∧ Kp no w2 wr) (fun v22 _ => p - (intOf v22).toNat)
  case atStart => exact ⟨0, Nat.zero_le _, rfl, hS, hK⟩
  case round =>
    clear hS hK
    obtain ⟨k, hk, rfl, hS, hK⟩ := hrel
    by_cases hlt : k < p
    · go_wp2
      refine wp_region_still_tail 10 (by kernel_rfl) (by kernel_rfl) ?_
      generalize hq : ({ wr with drawn := wr.drawn + 1 } : World) = w3
      replace hq : QD wr w3 := ⟨1, hq.symm⟩
      replace hK := hK.qd hq
      replace hS := hS.qd hq
      clear hq
      have hlen := sNewTo_len p k
      have c0 := hS.c0
      rw [hlen] at c0
      have c1 := (hS.cell (i := k) (by omega)).1
      have f0 := hS.fz (k * 3)
      have hw : IntKind.u64.wrap (k : Int) = (k : Int) := by rw [IntKind.wrap_u64]; omega
      have hHl := As.mk hlen
      have hnn : (0 : Int) ≤ (k : Int) := by omega
      have hlt2 : (k : Int) < (p : Int) := by omega
      have hfr : (k : Int) < 9223372036854775808 := by omega
      clear hlen
      simp only [List.take_succ_cons, List.take_zero, List.drop_succ_cons, List.drop_zero]
      repeat still_step
      still_call (free_ok _ _ hnn hfr)
      repeat still_step
      refine wpStill_nil ?_
      go_wp2
      have hf := hS.put0 (i := k) (by rw [sNewTo_len]; exact hlt) (s := 2 * (k : Int)) (by omega) (by omega)
      rw [sNewTo_at p k hlt, sNewTo_step p k hlt] at hf
      exact ⟨⟨k + 1, by omega, by go_num, hf, hK.setNew _ hbl _⟩, by simp [intOf]; omega⟩
    · go_wp2
      go_ret2
      have : k = p := by omega
      subst this
      rw [sNewTo_all] at hS
      exact ⟨g, b, rfl, hS, hsz, hbl, hK⟩
end Go.Proofs.Ytmejnhfggmmefaa.H
