/- Layer 14: what a client's step comes to: ring and log agree; one that is pending can go on. No program in sight, no condition. -/
import Derived.Test.YtmejnhfggmmefaaL14G
namespace Go.Proofs.Ytmejnhfggmmefaa.H
open Go.RowKit
set_option linter.unusedVariables false
set_option linter.unusedSimpArgs false
def kd5 (s : S14) : Int := IntKind.u64.wrap s.k % 5
def bB (r : Rg) (m : Md) (s : S14) : P14 × Rg × Md :=
  if kd5 s < 2 then (if (rClaim r).2.1 = 0 then ⟨1, 0, (rClaim r).1, s.v⟩ else P14.z, (rClaim r).2.2, (mPut m s.v).2.2)
  else if kd5 s < 4 then (if (rTake r s.j).2.1 = 0 then ⟨2, s.j, (rTake r s.j).1, (mGet m s.j).1⟩ else P14.z, (rTake r s.j).2.2, (mGet m s.j).2.2)
  else (P14.z, { r with closed := true }, { m with closed := true })
def bF (r : Rg) (x : P14) : P14 × Rg :=
  if x.k = 1 then (if (rPublish r x.t x.v).1 = 0 then P14.z else x, (rPublish r x.t x.v).2)
  else (if (rRelease r x.j x.t).2.1 = 0 then P14.z else x, (rRelease r x.j x.t).2.2)
def canP (r : Rg) (x : P14) : Bool := if x.k = 1 then rFree r x.t else rHas r x.j x.t
section
variable {p q i : Nat} {r : Rg} {m : Md} {N : List P14}
theorem Lin.full (h : Lin p q i r m N) : mFull m = rFull r := by
  unfold mFull rFull; rw [h.tm, h.tl, h.tg, h.W.I.Ll]
theorem Lin.agreeP (h : Lin p q i r m N) (v : Int) : (mPut m v).1 = (rClaim r).1 ∧ (mPut m v).2.1 = (rClaim r).2.1 ∧ ((rClaim r).2.1 ≠ 0 → (rClaim r).1 = 0) := by
  unfold mPut rClaim
  rw [h.full, h.tc]
  cases r.closed
  · cases rFull r
    · rw [if_neg (by decide), if_neg (by decide), if_neg (by decide), if_neg (by decide)]
      exact ⟨h.tl, rfl, fun e => absurd rfl e⟩
    · exact ⟨rfl, rfl, fun _ => rfl⟩
  · exact ⟨rfl, rfl, fun _ => rfl⟩
theorem Lin.is (h : Lin p q i r m N) (j : Int) : mIs m j = rIs r j ∧ mGot m j = rHead r j := by
  unfold mIs rIs mGot rHead; rw [h.tg]; exact ⟨rfl, rfl⟩
theorem Lin.agreeT (h : Lin p q i r m N) (j : Int) : (mGet m j).2.1 = (rTake r j).2.1 ∧ ((rTake r j).2.1 ≠ 0 → (rTake r j).1 = 0) := by
  unfold mGet rTake
  rw [(h.is j).1, (h.is j).2, h.tl, h.tc]
  cases rIs r j
  · exact ⟨rfl, fun _ => rfl⟩
  · rw [if_pos rfl, if_pos rfl]
    by_cases e : rHead r j = r.tail
    · rw [if_pos e, if_pos e]; exact ⟨rfl, fun _ => rfl⟩
    · rw [if_neg e, if_neg e]; exact ⟨rfl, fun h => absurd rfl h⟩
variable (h : Lin p q i r m N) (hp : 1 ≤ p) (hp64 : p ≤ 64) (hq : 1 ≤ q) (hq8 : q ≤ 8) (hi : i ≤ 1000) {c : Nat} (hc : c < 6)
include h hp hp64 hq hq8 hi hc
theorem Lin.begin (hz : (atP N c).k = 0) (s : S14) : Lin p q (i + 1) (bB r m s).2.1 (bB r m s).2.2 (N.set c (bB r m s).1) := by
  have same : Lin p q (i + 1) r m (N.set c P14.z) := by rw [set_same (by have := h.n6; omega) (h.zero hc hz)]; exact h.same
  unfold bB
  by_cases k1 : kd5 s < 2
  · rw [if_pos k1]
    cases hcl : r.closed with
    | true =>
      have e1 : rClaim r = (0, 10, r) := by unfold rClaim; rw [if_pos hcl]
      have e2 : mPut m s.v = (0, 10, m) := by unfold mPut; rw [if_pos (by rw [h.tc, hcl])]
      rw [e1, e2]; exact same
    | false =>
      cases hf : rFull r with
      | true =>
        have e1 : rClaim r = (0, 8, r) := by unfold rClaim; rw [if_neg (by rw [hcl]; decide), if_pos hf]
        have e2 : mPut m s.v = (0, 8, m) := by unfold mPut; rw [if_neg (by rw [h.tc, hcl]; decide), if_pos (by rw [h.full, hf])]
        rw [e1, e2]; exact same
      | false =>
        have e1 : rClaim r = (r.tail, 0, { r with tail := r.tail + 1 }) := by unfold rClaim; rw [if_neg (by rw [hcl]; decide), if_neg (by rw [hf]; decide)]
        have e2 : mPut m s.v = ((m.l.length : Int), 0, { m with l := m.l ++ [s.v] }) := by unfold mPut; rw [if_neg (by rw [h.tc, hcl]; decide), if_neg (by rw [h.full, hf]; decide)]
        rw [e1, e2]
        dsimp only
        rw [if_pos rfl]
        exact h.claim hp hp64 hq hq8 hi hc hz hcl hf s.v
  · rw [if_neg k1]
    by_cases k2 : kd5 s < 4
    · rw [if_pos k2]
      unfold rTake mGet
      rw [(h.is s.j).1, (h.is s.j).2, h.tl]
      cases hj : rIs r s.j with
      | false => exact same
      | true =>
        rw [if_pos rfl, if_pos rfl]
        by_cases e : rHead r s.j = r.tail
        · rw [if_pos e, if_pos e]
          dsimp only
          rw [if_neg (by split <;> decide)]
          exact same
        · rw [if_neg e, if_neg e]
          dsimp only
          rw [if_pos rfl]
          have hj2 : (0 : Int) ≤ s.j ∧ s.j < (r.heads.length : Int) := by simpa [rIs] using hj
          have := h.take hp hp64 hq hq8 hi hc hz hj2.1 (by have := h.W.I.hl; omega) e
          rw [(h.is s.j).2] at this
          exact this
    · rw [if_neg k2]
      dsimp only
      rw [set_same (by have := h.n6; omega) (h.zero hc hz)]
      exact h.close
theorem Lin.pubC (hk : (atP N c).k = 1) : ((rPublish r (atP N c).t (atP N c).v).1 = 0 ∧ rFree r (atP N c).t = true ∧ Lin p q (i + 1) (rPublish r (atP N c).t (atP N c).v).2 m (N.set c P14.z)) ∨
    ((rPublish r (atP N c).t (atP N c).v).1 = 8 ∧ rFree r (atP N c).t = false ∧ (rPublish r (atP N c).t (atP N c).v).2 = r) := by
  have hT0 := h.W.I.ti
  rcases h.P c hc with e2 | ⟨h1, h2, h3, h4, h5⟩ | ⟨h1, -⟩
  · rw [e2] at hk; exact absurd hk (by decide)
  · generalize hx : atP N c = x at *
    obtain ⟨k, j, t, v⟩ := x
    dsimp only at hk h2 h3 h4 h5 ⊢
    unfold rPublish sPut rFree sFree
    rw [if_neg (by omega), if_pos (by omega), decide_eq_true h3, decide_eq_true (show t < 4611686018427387904 by omega)]
    by_cases e : (slAt r.L t).st < 2 * t
    · right
      rw [if_pos e]
      exact ⟨rfl, by simp; omega, rfl⟩
    · left
      have he : (slAt r.L t).st = 2 * t := by omega
      rw [if_neg e, if_neg (by omega)]
      refine ⟨rfl, by simp [he], ?_⟩
      have := h.pub hp hp64 hq hq8 hi hc (by rw [hx, hk]) he
      rw [← h.W.I.hl] at this
      rw [← h.W.I.hl]
      exact this
  · omega
theorem Lin.relC (hk : (atP N c).k = 2) : ((rRelease r (atP N c).j (atP N c).t).2.1 = 0 ∧ rHas r (atP N c).j (atP N c).t = true ∧ (rRelease r (atP N c).j (atP N c).t).1 = (atP N c).v ∧ Lin p q (i + 1) (rRelease r (atP N c).j (atP N c).t).2.2 m (N.set c P14.z)) ∨
    ((rRelease r (atP N c).j (atP N c).t).2.1 = 9 ∧ rHas r (atP N c).j (atP N c).t = false ∧ (rRelease r (atP N c).j (atP N c).t).2.2 = r) := by
  have hT0 := h.W.I.ti
  rcases h.P c hc with e2 | ⟨h1, -⟩ | ⟨h1, h2, h3, h4, h5, h6, h7, h8⟩
  · rw [e2] at hk; exact absurd hk (by decide)
  · omega
  · generalize hx : atP N c = x at *
    obtain ⟨k, j, t, v⟩ := x
    dsimp only at hk h2 h3 h4 h5 h6 h7 h8 ⊢
    have hHl := h.W.I.hl
    have hhj := h.W.I.headAt h2 h3
    have his : rIs r j = true := by unfold rIs; rw [decide_eq_true h2, decide_eq_true (show j < (r.heads.length : Int) by omega)]; rfl
    unfold rRelease rHas
    rw [if_pos his, if_neg (by omega), his, decide_eq_true h5]
    unfold sGet
    by_cases e : (slAt r.L t).st < 2 * t + 1
    · right
      have hg : sGot r.L r.heads.length j t = 9 := by unfold sGot; rw [if_pos ⟨by omega, h2, by omega⟩, if_pos e]
      rw [hg, if_neg (by decide)]
      exact ⟨rfl, rfl, rfl⟩
    · left
      have he : (slAt r.L t).st = 2 * t + 1 := by omega
      have hg : sGot r.L r.heads.length j t = 0 := by unfold sGot; rw [if_pos ⟨by omega, h2, by omega⟩, if_neg e, if_neg (by omega), if_pos (h8 he)]
      rw [hg, if_pos rfl]
      refine ⟨rfl, rfl, ?_, ?_⟩
      · dsimp only; rw [h.V t h4 he]; exact h6
      · exact h.rel hp hp64 hq hq8 hi hc (by rw [hx, hk]) he (h8 he)
theorem Lin.further (hk : (atP N c).k ≠ 0) : Lin p q (i + 1) (bF r (atP N c)).2 m (N.set c (bF r (atP N c)).1) ∧ (canP r (atP N c) = true → (bF r (atP N c)).1 = P14.z) ∧ (canP r (atP N c) = false → bF r (atP N c) = (atP N c, r)) := by
  have n6 := h.n6
  unfold bF canP
  rcases h.kinds hc with h0 | h1 | h2
  · exact absurd h0 hk
  · rw [if_pos h1, if_pos h1]
    rcases h.pubC hp hp64 hq hq8 hi hc h1 with ⟨a1, a2, a3⟩ | ⟨a1, a2, a3⟩
    · rw [if_pos a1]; exact ⟨a3, fun _ => rfl, fun e => by rw [a2] at e; cases e⟩
    · have hne : ¬ (rPublish r (atP N c).t (atP N c).v).1 = 0 := by omega
      rw [if_neg hne, a3]
      exact ⟨by rw [set_same (by omega) rfl]; exact h.same, fun e => (by rw [a2] at e; cases e), fun _ => rfl⟩
  · have hk1 : ¬ (atP N c).k = 1 := by omega
    rw [if_neg hk1, if_neg hk1]
    rcases h.relC hp hp64 hq hq8 hi hc h2 with ⟨a1, a2, -, a3⟩ | ⟨a1, a2, a3⟩
    · rw [if_pos a1]; exact ⟨a3, fun _ => rfl, fun e => by rw [a2] at e; cases e⟩
    · have hne : ¬ (rRelease r (atP N c).j (atP N c).t).2.1 = 0 := by omega
      rw [if_neg hne, a3]
      exact ⟨by rw [set_same (by omega) rfl]; exact h.same, fun e => (by rw [a2] at e; cases e), fun _ => rfl⟩
omit hi in
/-- As long as something is pending, something can go on. -/
theorem Lin.go (hi : i ≤ 1000) (hk : (atP N c).k ≠ 0) : ∃ d, d < 6 ∧ (atP N d).k ≠ 0 ∧ canP r (atP N d) = true := by
  have hT0 := h.W.I.ti
  have hL0 : 0 < r.L.length := by have := h.W.I.Ll; omega
  have hLl := h.W.I.Ll
  have snd : ∀ u, 0 ≤ u → u < r.tail → (slAt r.L u).st = 2 * u → ∃ d, d < 6 ∧ (atP N d).k ≠ 0 ∧ canP r (atP N d) = true := fun u hu0 hu1 he => by
    obtain ⟨d, hd, g1, g2⟩ := h.F u hu0 hu1 (by omega)
    refine ⟨d, hd, by omega, ?_⟩
    unfold canP; rw [if_pos g1, g2]; unfold rFree sFree
    rw [decide_eq_true hu1, decide_eq_true (show u < 4611686018427387904 by omega), he]; simp
  have rcv : ∀ d, d < 6 → (atP N d).k = 2 → (slAt r.L (atP N d).t).st = 2 * (atP N d).t + 1 → ∃ d, d < 6 ∧ (atP N d).k ≠ 0 ∧ canP r (atP N d) = true := fun d hd g1 he => by
    refine ⟨d, hd, by omega, ?_⟩
    unfold canP; rw [if_neg (by omega)]
    rcases h.relC hp hp64 hq hq8 hi hd g1 with ⟨-, a2, -⟩ | ⟨a1, -, -⟩
    · exact a2
    · exfalso
      rcases h.P d hd with e2 | ⟨h1, -⟩ | ⟨h1, h2, h3, h4, h5, h6, h7, h8⟩
      · rw [e2] at g1; exact absurd g1 (by decide)
      · omega
      · have hhj := h.W.I.headAt h2 h3
        have hHl := h.W.I.hl
        have his : rIs r (atP N d).j = true := by unfold rIs; rw [decide_eq_true h2, decide_eq_true (show (atP N d).j < (r.heads.length : Int) by omega)]; rfl
        have hg : sGot r.L r.heads.length (atP N d).j (atP N d).t = 0 := by unfold sGot; rw [if_pos ⟨by omega, h2, by omega⟩, if_neg (by omega), if_neg (by omega), if_pos (h8 he)]
        unfold rRelease at a1
        rw [if_pos his, if_neg (by omega)] at a1
        unfold sGet at a1
        rw [if_pos hg] at a1
        have a2 : (0 : Int) = 9 := a1
        omega
  have low : ∀ t, 0 ≤ t → t < r.tail → (slAt r.L t).st ≤ 2 * t → ∃ d, d < 6 ∧ (atP N d).k ≠ 0 ∧ canP r (atP N d) = true := fun t ht0 ht1 hle => by
    obtain ⟨a1, a2, a3, a4⟩ := h.W.at_t hp t
    have hsame : slAt r.L ((slAt r.L t).st / 2) = slAt r.L t := by
      have : pl r.L ((slAt r.L t).st / 2) = pl r.L t := (pl_eq (t := (slAt r.L t).st / 2) (u := t) hL0).2 (by rw [hLl]; exact a2)
      show r.L.getD (pl r.L ((slAt r.L t).st / 2)) Sl.z = r.L.getD (pl r.L t) Sl.z
      rw [this]
    rcases Int.emod_two_eq (slAt r.L t).st with hz | hz
    · exact snd ((slAt r.L t).st / 2) (by omega) (by omega) (by rw [hsame]; omega)
    · obtain ⟨b1, b2, b3, b4⟩ := a4 hz
      have hup := cong_le (by omega) a2 (by omega : (slAt r.L t).st / 2 < t)
      obtain ⟨l, hl⟩ := Int.eq_ofNat_of_zero_le (show 0 ≤ (slAt r.L t).left by omega)
      have hsome : ∃ j : Int, 0 ≤ j ∧ j < q ∧ bitOf (slAt r.L t).left j = true := by
        have key : ∀ q : Fin 9, ∀ l : Fin 256, 1 ≤ l.val → l.val < 2 ^ q.val → ∃ j : Fin 8, j.val < q.val ∧ bitOf (l.val : Int) (j.val : Int) = true := by decide +kernel
        have hp8 : (2 : Int) ^ q ≤ 256 := pow_le8 hq8
        have hl2 : l < 2 ^ q := by
          have : (l : Int) < ((2 ^ q : Nat) : Int) := by rw [← hl]; push_cast; exact b2
          omega
        obtain ⟨j, hj, hb⟩ := key ⟨q, by omega⟩ ⟨l, by omega⟩ (by dsimp only; omega) hl2
        exact ⟨j.val, by omega, by dsimp only at hj; omega, by rw [hl]; exact hb⟩
      obtain ⟨j, hj0, hj1, hb⟩ := hsome
      rcases h.B ((slAt r.L t).st / 2) (by omega) (by rw [hsame]; omega) j hj0 hj1 (by rw [hsame]; exact hb) with g | ⟨d, hd, g1, g2, g3⟩
      · have := h.W.I.headAt hj0 hj1
        omega
      · exact rcv d hd g1 (by rw [g3, hsame]; omega)
  rcases h.P c hc with e2 | ⟨h1, h2, h3, h4, h5⟩ | ⟨h1, h2, h3, h4, h5, h6, h7, h8⟩
  · rw [e2] at hk; exact absurd rfl hk
  · exact low _ h2 h3 h5
  · have hhj := h.W.I.headAt h2 h3
    by_cases e : (slAt r.L (atP N c).t).st = 2 * (atP N c).t + 1
    · exact rcv c hc h1 e
    · exact low _ h4 (by omega) (by omega)
end
end Go.Proofs.Ytmejnhfggmmefaa.H
