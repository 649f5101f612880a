/- Layer 13: RingClosed: a ring that is closed gives out what was claimed, and then tells each reader that it is closed. No condition. -/
import Derived.Test.YtmejnhfggmmefaaL13A
import Derived.Test.YtmejnhfggmmefaaOpn13
namespace Go.Proofs.Ytmejnhfggmmefaa.H
open Go.RowKit
set_option linter.unusedVariables false
set_option linter.unusedSimpArgs false
variable {w : World}

set_option maxRecDepth 100000 in
set_option maxHeartbeats 3200000 in
theorem RMay_any (k c R : Int) : Calls Try.prog 23 #[.agg #[.int .i64 k, .int .i64 c, .int .i64 R]] w fun e w' => e = .returned (.bool (rMay k c R)) ∧ Kp no w w' := by
  by_cases h1 : 1 ≤ c
  · have d1 : decide (1 ≤ c) = true := decide_eq_true h1
    by_cases h2 : c ≤ 64
    · have d2 : decide (c ≤ 64) = true := decide_eq_true h2
      by_cases h3 : k = 1
      · have d3 : (k == 1) = true := by simpa using h3
        by_cases h4 : R = 1
        · have d4 : (R == 1) = true := by simpa using h4
          have e : rMay k c R = true := by unfold rMay mayB rmayB; simp; omega
          rw [e]
          clear e h1 h2 h3 h4
          go_enter Try.func23, Try.ntmps23
          go_wp2
          go_ret
          exact ⟨rfl, (Kp.refl _ _).alloc _⟩
        · have d4 : (R == 1) = false := by simpa using h4
          have d5 : (k == 2) = false := by simp; omega
          have e : rMay k c R = false := by unfold rMay mayB rmayB; simp; omega
          rw [e]
          clear e h1 h2 h3 h4
          go_enter Try.func23, Try.ntmps23
          go_wp2
          go_ret
          exact ⟨rfl, (Kp.refl _ _).alloc _⟩
      · have d3 : (k == 1) = false := by simpa using h3
        by_cases h4 : k = 2
        · have d4 : (k == 2) = true := by simpa using h4
          by_cases h5 : 1 ≤ R
          · have d5 : decide (1 ≤ R) = true := decide_eq_true h5
            by_cases h6 : R ≤ 8
            · have d6 : decide (R ≤ 8) = true := decide_eq_true h6
              have e : rMay k c R = true := by unfold rMay mayB rmayB; simp; omega
              rw [e]
              clear e h1 h2 h3 h4 h5 h6
              go_enter Try.func23, Try.ntmps23
              go_wp2
              go_ret
              exact ⟨rfl, (Kp.refl _ _).alloc _⟩
            · have d6 : decide (R ≤ 8) = false := decide_eq_false h6
              have e : rMay k c R = false := by unfold rMay mayB rmayB; simp; omega
              rw [e]
              clear e h1 h2 h3 h4 h5 h6
              go_enter Try.func23, Try.ntmps23
              go_wp2
              go_ret
              exact ⟨rfl, (Kp.refl _ _).alloc _⟩
          · have d5 : decide (1 ≤ R) = false := decide_eq_false h5
            have e : rMay k c R = false := by unfold rMay mayB rmayB; simp; omega
            rw [e]
            clear e h1 h2 h3 h4 h5
            go_enter Try.func23, Try.ntmps23
            go_wp2
            go_ret
            exact ⟨rfl, (Kp.refl _ _).alloc _⟩
        · have d4 : (k == 2) = false := by simpa using h4
          have e : rMay k c R = false := by unfold rMay mayB rmayB; simp; omega
          rw [e]
          clear e h1 h2 h3 h4
          go_enter Try.func23, Try.ntmps23
          go_wp2
          go_ret
          exact ⟨rfl, (Kp.refl _ _).alloc _⟩
    · have d2 : decide (c ≤ 64) = false := decide_eq_false h2
      have e : rMay k c R = false := by unfold rMay mayB rmayB; simp; omega
      rw [e]
      clear e h1 h2
      go_enter Try.func23, Try.ntmps23
      go_wp2
      go_ret
      exact ⟨rfl, (Kp.refl _ _).alloc _⟩
  · have d1 : decide (1 ≤ c) = false := decide_eq_false h1
    have e : rMay k c R = false := by unfold rMay mayB rmayB; simp; omega
    rw [e]
    clear e h1
    go_enter Try.func23, Try.ntmps23
    go_wp2
    go_ret
    exact ⟨rfl, (Kp.refl _ _).alloc _⟩

theorem rMay_nat {k c R : Int} (h : rMay k c R = true) : ∃ p q : Nat, c = p ∧ R = q ∧ 1 ≤ p ∧ p ≤ 64 ∧ 1 ≤ q ∧ q ≤ 8 := by
  have h1 : mayB c R = true := by unfold rMay at h; rw [Bool.and_eq_true] at h; exact h.1
  have h3 : 1 ≤ c ∧ c ≤ 64 ∧ 1 ≤ R ∧ R ≤ 8 := of_decide_eq_true h1
  exact ⟨c.toNat, R.toNat, by omega, by omega, by omega, by omega, by omega, by omega⟩
/-- The heads are known: the least one is. -/
theorem leastL_eq {l : List Int} {x : Int} (hm : x ∈ l) (hle : ∀ y ∈ l, x ≤ y) : leastL l = x := by
  have h1 := leastL_le hm
  have h2 := hle _ (leastL_mem (List.length_pos_of_mem hm))
  omega
theorem leastL_rep (q : Nat) (h : 1 ≤ q) (x : Int) : leastL (List.replicate q x) = x :=
  leastL_eq (List.mem_replicate.2 ⟨by omega, rfl⟩) (fun y hy => by rw [(List.mem_replicate.1 hy).2]; exact Int.le_refl _)

section
variable (p q : Nat) (vs : List Int)
def cA (i : Nat) : List Sl := (List.range p).map fun (k : Nat) => if k < i then ⟨2 * (k : Int) + 1, vs.getD k 0, 2 ^ q - 1⟩ else ⟨2 * (k : Int), 0, 0⟩
def cR1 (i : Nat) : Rg := ⟨i, List.replicate q 0, false, cA p q vs i⟩
def cOne (j k : Nat) : Sl := if j < q then ⟨2 * (k : Int) + 1, vs.getD k 0, 2 ^ q - 2 ^ j⟩ else ⟨2 * ((k : Int) + p), 0, 0⟩
def cB (j i : Nat) : List Sl := (List.range p).map fun (k : Nat) => if k < vs.length then (if k < i then cOne p q vs (j + 1) k else cOne p q vs j k) else ⟨2 * (k : Int), 0, 0⟩
def cH (j i : Nat) : List Int := (List.range q).map fun (x : Nat) => if x < j then (vs.length : Int) else if x = j then (i : Int) else 0
def cR2 (j i : Nat) : Rg := ⟨vs.length, cH q vs j i, true, cB p q vs j i⟩
variable {p q vs}
theorem cA_len (i : Nat) : (cA p q vs i).length = p := by simp [cA]
theorem cB_len (j i : Nat) : (cB p q vs j i).length = p := by simp [cB]
theorem cH_len (j i : Nat) : (cH q vs j i).length = q := by simp [cH]
theorem cA_at {i k : Nat} (hk : k < p) : (cA p q vs i).getD k Sl.z = if k < i then ⟨2 * (k : Int) + 1, vs.getD k 0, 2 ^ q - 1⟩ else ⟨2 * (k : Int), 0, 0⟩ := by simp [cA, List.getD, hk]
theorem cB_at {j i k : Nat} (hk : k < p) : (cB p q vs j i).getD k Sl.z = if k < vs.length then (if k < i then cOne p q vs (j + 1) k else cOne p q vs j k) else ⟨2 * (k : Int), 0, 0⟩ := by simp [cB, List.getD, hk]
theorem cH_at {j i x : Nat} (hx : x < q) : (cH q vs j i).getD x 0 = if x < j then (vs.length : Int) else if x = j then (i : Int) else 0 := by simp [cH, List.getD, hx]
theorem pl_of {L : List Sl} {k : Nat} (hk : k < L.length) : pl L (k : Int) = k := by
  unfold pl; rw [Int.emod_eq_of_lt (by omega) (by omega)]; rfl
theorem list_ext {α : Type} {l m : List α} (h : l.length = m.length) (z : α) (he : ∀ i, i < l.length → l.getD i z = m.getD i z) : l = m := by
  apply List.ext_getElem h
  intro i h1 h2
  have := he i h1
  simpa [List.getD, h1, h2] using this
theorem getD_set {α : Type} {l : List α} {i k : Nat} {x z : α} (hi : i < l.length) (hk : k < l.length) : (l.set i x).getD k z = if k = i then x else l.getD k z := by
  by_cases e : k = i
  · subst e; simp [List.getD, hi]
  · have : i ≠ k := fun h => e h.symm
    simp [List.getD, this, e]
theorem cA_zero : cA p q vs 0 = sNew p := by simp [cA, sNew]
theorem cA_set {i : Nat} (hi : i < p) : (cA p q vs i).set i ⟨2 * (i : Int) + 1, vs.getD i 0, 2 ^ q - 1⟩ = cA p q vs (i + 1) := by
  refine list_ext (by simp [cA_len]) Sl.z (fun k hk => ?_)
  rw [List.length_set, cA_len] at hk
  rw [getD_set (by rw [cA_len]; exact hi) (by rw [cA_len]; exact hk), cA_at hk, cA_at hk]
  by_cases e : k = i
  · subst e; simp
  · by_cases h : k < i
    · rw [if_neg e, if_pos h, if_pos (by omega)]
    · rw [if_neg e, if_neg h, if_neg (by omega)]
theorem c_claim {i : Nat} (hi : i < p) (hq : 1 ≤ q) : rClaim (cR1 p q vs i) = ((i : Int), 0, { cR1 p q vs i with tail := (i : Int) + 1 }) := by
  have hf : rFull (cR1 p q vs i) = false := by
    unfold rFull cR1
    rw [decide_eq_false_iff_not, leastL_rep q hq, cA_len]; dsimp only; omega
  unfold rClaim; rw [hf]; rfl
theorem c_pub {i : Nat} (hi : i < p) (hp : p ≤ 64) : rPublish { cR1 p q vs i with tail := (i : Int) + 1 } (i : Int) (vs.getD i 0) = (0, cR1 p q vs (i + 1)) := by
  have hat : slAt (cA p q vs i) (i : Int) = ⟨2 * (i : Int), 0, 0⟩ := by
    unfold slAt; rw [pl_of (by rw [cA_len]; exact hi), cA_at hi, if_neg (by omega)]
  have hs : sPut (cA p q vs i) q (i : Int) (vs.getD i 0) = (0, cA p q vs (i + 1)) := by
    unfold sPut
    rw [if_pos (by omega), hat, if_neg (by dsimp only; omega), if_neg (by dsimp only; omega), pl_of (by rw [cA_len]; exact hi), cA_set hi]
  unfold rPublish
  rw [if_neg (by show ¬ ((i : Int) + 1 ≤ i); omega)]
  show ((sPut (cA p q vs i) (List.replicate q (0 : Int)).length _ _).1, (⟨(i : Int) + 1, List.replicate q 0, false, (sPut (cA p q vs i) (List.replicate q (0 : Int)).length (i : Int) (vs.getD i 0)).2⟩ : Rg)) = _
  rw [List.length_replicate, hs]
  unfold cR1
  push_cast
  rfl
theorem c_start (hq : 1 ≤ q) (hn : vs.length ≤ p) : ({ cR1 p q vs vs.length with closed := true } : Rg) = cR2 p q vs 0 0 := by
  unfold cR1 cR2
  have h1 : List.replicate q (0 : Int) = cH q vs 0 0 := by
    refine list_ext (by simp [cH_len]) 0 (fun k hk => ?_)
    rw [List.length_replicate] at hk
    rw [cH_at hk]; simp [List.getD, hk]
  have h2 : cA p q vs vs.length = cB p q vs 0 0 := by
    refine list_ext (by simp [cA_len, cB_len]) Sl.z (fun k hk => ?_)
    rw [cA_len] at hk
    rw [cA_at hk, cB_at hk]
    simp [cOne, show 0 < q by omega]
  rw [h1, h2]
theorem c_next {j : Nat} : cR2 p q vs j vs.length = cR2 p q vs (j + 1) 0 := by
  unfold cR2
  have h1 : cH q vs j vs.length = cH q vs (j + 1) 0 := by
    refine list_ext (by simp [cH_len]) 0 (fun k hk => ?_)
    rw [cH_len] at hk
    rw [cH_at hk, cH_at hk]
    by_cases e : k < j
    · rw [if_pos e, if_pos (by omega)]
    · by_cases e2 : k = j
      · rw [if_neg e, if_pos e2, if_pos (by omega)]
      · rw [if_neg e, if_neg e2, if_neg (by omega)]; simp
  have h2 : cB p q vs j vs.length = cB p q vs (j + 1) 0 := by
    refine list_ext (by simp [cB_len]) Sl.z (fun k hk => ?_)
    rw [cB_len] at hk
    rw [cB_at hk, cB_at hk]
    by_cases e : k < vs.length
    · rw [if_pos e, if_pos e, if_pos e, if_neg (by omega)]
    · rw [if_neg e, if_neg e]
  rw [h1, h2]
theorem c_is {j i : Nat} (hj : j < q) (b : Bool) (T : Int) (L : List Sl) : rIs ⟨T, cH q vs j i, b, L⟩ (j : Int) = true := by
  unfold rIs; rw [cH_len]; simp; omega
theorem c_hd {j i : Nat} (hj : j < q) (b : Bool) (T : Int) (L : List Sl) : rHead ⟨T, cH q vs j i, b, L⟩ (j : Int) = i := by
  unfold rHead; rw [Int.toNat_natCast, cH_at hj, if_neg (by omega), if_pos rfl]
theorem cH_set {j i : Nat} (hj : j < q) : (cH q vs j i).set j ((i : Int) + 1) = cH q vs j (i + 1) := by
  refine list_ext (by simp [cH_len]) 0 (fun k hk => ?_)
  rw [List.length_set, cH_len] at hk
  rw [getD_set (by rw [cH_len]; exact hj) (by rw [cH_len]; exact hk), cH_at hk, cH_at hk]
  by_cases e : k = j
  · subst e; simp
  · rw [if_neg e, if_neg e, if_neg e]
theorem c_take {j i : Nat} (hj : j < q) (hi : i < vs.length) : rTake (cR2 p q vs j i) (j : Int) = ((i : Int), 0, { cR2 p q vs j i with heads := cH q vs j (i + 1) }) := by
  unfold rTake cR2
  rw [if_pos (c_is hj _ _ _), if_neg (by rw [c_hd hj]; show ¬ (i : Int) = vs.length; omega), c_hd hj, Int.toNat_natCast, cH_set hj]
theorem c_bit : ∀ q j : Fin 9, j.val < q.val → bitOf (2 ^ q.val - 2 ^ j.val) (j.val : Int) = true := by decide
theorem c_pow : ∀ q j : Fin 9, j.val < q.val → ((2 : Int) ^ q.val - 2 ^ j.val) - 2 ^ j.val = 2 ^ q.val - 2 ^ (j.val + 1) ∧ (((2 : Int) ^ q.val - 2 ^ (j.val + 1) = 0) ↔ ¬ j.val + 1 < q.val) := by decide
theorem c_rel {j i : Nat} (hj : j < q) (hq : q ≤ 8) (hi : i < vs.length) (hn : vs.length ≤ p) (hp : p ≤ 64) : rRelease { cR2 p q vs j i with heads := cH q vs j (i + 1) } (j : Int) (i : Int) = (vs.getD i 0, 0, cR2 p q vs j (i + 1)) := by
  have hip : i < p := by omega
  have hpl : pl (cB p q vs j i) (i : Int) = i := pl_of (by rw [cB_len]; exact hip)
  have hat : slAt (cB p q vs j i) (i : Int) = ⟨2 * (i : Int) + 1, vs.getD i 0, 2 ^ q - 2 ^ j⟩ := by
    unfold slAt; rw [hpl, cB_at hip, if_pos hi, if_neg (by omega)]; unfold cOne; rw [if_pos hj]
  have hb := c_bit ⟨q, by omega⟩ ⟨j, by omega⟩ hj
  have hp2 := c_pow ⟨q, by omega⟩ ⟨j, by omega⟩ hj
  dsimp only at hb hp2
  have hgot : sGot (cB p q vs j i) q (j : Int) (i : Int) = 0 := by
    unfold sGot
    rw [if_pos ⟨by omega, by omega, by omega⟩, hat, if_neg (by dsimp only; omega), if_neg (by dsimp only; omega)]
    dsimp only
    rw [hb]; rfl
  have hset : (cB p q vs j i).set i (cOne p q vs (j + 1) i) = cB p q vs j (i + 1) := by
    refine list_ext (by simp [cB_len]) Sl.z (fun k hk => ?_)
    rw [List.length_set, cB_len] at hk
    rw [getD_set (by rw [cB_len]; exact hip) (by rw [cB_len]; exact hk), cB_at hk, cB_at hk]
    by_cases e : k = i
    · subst e; rw [if_pos rfl, if_pos hi, if_pos (by omega)]
    · by_cases h2 : k < i
      · rw [if_neg e, if_pos h2, if_pos (show k < i + 1 by omega)]
      · rw [if_neg e, if_neg h2, if_neg (show ¬ k < i + 1 by omega)]
  have hget : sGet (cB p q vs j i) q (j : Int) (i : Int) = (vs.getD i 0, 0, cB p q vs j (i + 1)) := by
    unfold sGet
    rw [if_pos hgot, hat, hpl, cB_len]
    dsimp only
    rw [Int.toNat_natCast, hp2.1, ← hset]
    unfold cOne
    by_cases e : j + 1 < q
    · rw [if_neg (fun h => (hp2.2.1 h) e), if_pos e]
    · rw [if_pos (hp2.2.2 e), if_neg e]
  unfold rRelease cR2
  dsimp only
  rw [if_pos (c_is hj _ _ _), if_neg (by rw [c_hd hj]; omega), cH_len, hget]
theorem c_end {j : Nat} (hj : j < q) : rTake (cR2 p q vs j vs.length) (j : Int) = (0, 10, cR2 p q vs j vs.length) ∧ rEmpty (cR2 p q vs j vs.length) (j : Int) = true := by
  unfold rTake rEmpty cR2
  rw [if_pos (c_is hj _ _ _), if_pos (by rw [c_hd hj]), c_is hj, c_hd hj]
  exact ⟨rfl, by simp⟩
theorem c_clo (j i : Nat) : rClaim (cR2 p q vs j i) = (0, 10, cR2 p q vs j i) := by unfold rClaim cR2; rfl
end
end Go.Proofs.Ytmejnhfggmmefaa.H
