/- Layer 14: clients on a ring beside a log: what always holds of them, and that one can always go on. No program in sight, no condition. -/
import Derived.Test.YtmejnhfggmmefaaL13E
import Derived.Test.YtmejnhfggmmefaaL14B
namespace Go.Proofs.Ytmejnhfggmmefaa.H
open Go.RowKit
set_option linter.unusedVariables false
set_option linter.unusedSimpArgs false

/-- What is pending: 1 a send, 2 a receive; its reader, its ticket, its value. -/
structure P14 where
  k : Int
  j : Int
  t : Int
  v : Int
def P14.z : P14 := ⟨0, 0, 0, 0⟩
def P14.vals (x : P14) : List Value := [.int .i64 x.k, .int .i64 x.j, .int .u64 x.t, .int .u64 x.v]
def atP (N : List P14) (c : Nat) : P14 := N.getD c P14.z
theorem atP_set {N : List P14} {c d : Nat} {x : P14} (hc : c < N.length) (hd : d < N.length) : atP (N.set c x) d = if d = c then x else atP N d := by
  unfold atP; exact getD_set hc hd
def Snd (N : List P14) (t : Int) : Prop := ∃ c, c < 6 ∧ (atP N c).k = 1 ∧ (atP N c).t = t
def Rcv (N : List P14) (j t : Int) : Prop := ∃ c, c < 6 ∧ (atP N c).k = 2 ∧ (atP N c).j = j ∧ (atP N c).t = t
theorem Snd.keep {N : List P14} {c : Nat} {x : P14} {t : Int} (hn : N.length = 6) (hc : c < 6) (h : Snd N t) (hne : (atP N c).k = 1 → (atP N c).t ≠ t) : Snd (N.set c x) t := by
  obtain ⟨d, hd, h1, h2⟩ := h
  have e : d ≠ c := fun e => by subst e; exact hne h1 h2
  exact ⟨d, hd, by rw [atP_set (by omega) (by omega), if_neg e]; exact h1, by rw [atP_set (by omega) (by omega), if_neg e]; exact h2⟩
theorem Rcv.keep {N : List P14} {c : Nat} {x : P14} {j t : Int} (hn : N.length = 6) (hc : c < 6) (h : Rcv N j t) (hne : (atP N c).k = 2 → (atP N c).j = j → (atP N c).t ≠ t) : Rcv (N.set c x) j t := by
  obtain ⟨d, hd, h1, h2, h3⟩ := h
  have e : d ≠ c := fun e => by subst e; exact hne h1 h2 h3
  have q : atP (N.set c x) d = atP N d := by rw [atP_set (by omega) (by omega), if_neg e]
  exact ⟨d, hd, by rw [q]; exact h1, by rw [q]; exact h2, by rw [q]; exact h3⟩
theorem Snd.of_set {N : List P14} {c : Nat} {x : P14} {t : Int} (hn : N.length = 6) (hc : c < 6) (h : Snd (N.set c x) t) : Snd N t ∨ (x.k = 1 ∧ x.t = t) := by
  obtain ⟨d, hd, h1, h2⟩ := h
  rw [atP_set (by omega) (by omega)] at h1 h2
  by_cases e : d = c
  · rw [if_pos e] at h1 h2; exact .inr ⟨h1, h2⟩
  · rw [if_neg e] at h1 h2; exact .inl ⟨d, hd, h1, h2⟩
theorem Snd.new {N : List P14} {c : Nat} {x : P14} (hn : N.length = 6) (hc : c < 6) (h : x.k = 1) : Snd (N.set c x) x.t :=
  ⟨c, hc, by rw [atP_set (by omega) (by omega), if_pos rfl]; exact h, by rw [atP_set (by omega) (by omega), if_pos rfl]⟩
theorem Rcv.new {N : List P14} {c : Nat} {x : P14} (hn : N.length = 6) (hc : c < 6) (h : x.k = 2) : Rcv (N.set c x) x.j x.t := by
  have q : atP (N.set c x) c = x := by rw [atP_set (by omega) (by omega), if_pos rfl]
  exact ⟨c, hc, by rw [q]; exact h, by rw [q], by rw [q]⟩
theorem ne12 : ¬ (1 : Int) = 2 := by decide
theorem ne21 : ¬ (2 : Int) = 1 := by decide
theorem cong_le {p t u : Int} (hp : 0 < p) (h : t % p = u % p) (hlt : t < u) : t + p ≤ u := by
  have h2 : (u - t) % p = 0 := by rw [Int.sub_emod, h, Int.sub_self]; simp
  have := Int.le_of_dvd (by omega) (Int.dvd_of_emod_eq_zero h2)
  omega
theorem pl_eq {L : List Sl} {t u : Int} (hL : 0 < L.length) : pl L t = pl L u ↔ t % (L.length : Int) = u % (L.length : Int) := by
  unfold pl
  have h1 := Int.emod_nonneg t (show (L.length : Int) ≠ 0 by omega)
  have h2 := Int.emod_nonneg u (show (L.length : Int) ≠ 0 by omega)
  omega
theorem slAt_set {L : List Sl} {t u : Int} {x : Sl} (hL : 0 < L.length) : slAt (L.set (pl L u) x) t = if t % (L.length : Int) = u % (L.length : Int) then x else slAt L t := by
  have e : pl (L.set (pl L u) x) t = pl L t := by unfold pl; rw [List.length_set]
  unfold slAt
  rw [e, getD_set (pl_lt hL u) (pl_lt hL t)]
  by_cases h : t % (L.length : Int) = u % (L.length : Int)
  · rw [if_pos h, if_pos ((pl_eq hL).2 h)]
  · rw [if_neg h, if_neg (fun h2 => h ((pl_eq hL).1 h2))]
/-- What is pending agrees with the ring and the log. -/
def PkOk (q : Nat) (r : Rg) (m : Md) (x : P14) : Prop :=
  x = P14.z ∨ (x.k = 1 ∧ 0 ≤ x.t ∧ x.t < r.tail ∧ m.l.getD x.t.toNat 0 = x.v ∧ (slAt r.L x.t).st ≤ 2 * x.t) ∨
  (x.k = 2 ∧ 0 ≤ x.j ∧ x.j < q ∧ 0 ≤ x.t ∧ x.t < rHead r x.j ∧ m.l.getD x.t.toNat 0 = x.v ∧ (slAt r.L x.t).st ≤ 2 * x.t + 1 ∧ ((slAt r.L x.t).st = 2 * x.t + 1 → bitOf (slAt r.L x.t).left x.j = true))
def apart (x y : P14) : Prop := (x.k = 1 → y.k = 1 → x.t ≠ y.t) ∧ (x.k = 2 → y.k = 2 → x.j = y.j → x.t ≠ y.t)
structure Lin (p q i : Nat) (r : Rg) (m : Md) (N : List P14) : Prop where
  W : WInv p q i r
  tl : (m.l.length : Int) = r.tail
  tg : m.got = r.heads
  tc : m.closed = r.closed
  tm : m.most = p
  n6 : N.length = 6
  V : ∀ t, 0 ≤ t → (slAt r.L t).st = 2 * t + 1 → (slAt r.L t).v = m.l.getD t.toNat 0
  P : ∀ c, c < 6 → PkOk q r m (atP N c)
  U : ∀ c d, c < 6 → d < 6 → c ≠ d → apart (atP N c) (atP N d)
  F : ∀ t, 0 ≤ t → t < r.tail → (slAt r.L t).st ≤ 2 * t → Snd N t
  B : ∀ t, 0 ≤ t → (slAt r.L t).st = 2 * t + 1 → ∀ j : Int, 0 ≤ j → j < q → bitOf (slAt r.L t).left j = true → rHead r j ≤ t ∨ Rcv N j t
  S : ∀ t, Snd N t → ∀ j : Int, 0 ≤ j → j < q → rHead r j ≤ t ∨ Rcv N j t
section
variable {p q i : Nat} {r : Rg} {m : Md} {N : List P14}
/-- A ticket's place, of a ring as it can stand. -/
theorem WInv.at_t (h : WInv p q i r) (hp : 1 ≤ p) (t : Int) : 0 ≤ (slAt r.L t).st ∧ (slAt r.L t).st / 2 % (p : Int) = t % (p : Int) ∧
    ((slAt r.L t).st % 2 = 0 → ∀ j : Int, 0 ≤ j → j < (q : Int) → (p : Int) ≤ (slAt r.L t).st / 2 → (slAt r.L t).st / 2 - p < rHead r j) ∧
    ((slAt r.L t).st % 2 = 1 → 1 ≤ (slAt r.L t).left ∧ (slAt r.L t).left < 2 ^ q ∧ (slAt r.L t).st / 2 < r.tail ∧ ∀ j : Int, 0 ≤ j → j < (q : Int) → bitOf (slAt r.L t).left j = true ∨ (slAt r.L t).st / 2 < rHead r j) := by
  have hLl := h.I.Ll
  have hpl : pl r.L t < p := by have := pl_lt (L := r.L) (by omega) t; omega
  obtain ⟨a1, a2, a3, a4, a5⟩ := h.P _ hpl
  have e : r.L.getD (pl r.L t) Sl.z = slAt r.L t := rfl
  rw [e] at a1 a2 a3 a4 a5
  refine ⟨a1, ?_, fun hz j hj0 hj1 hle => ?_, fun hz => ⟨(a5 hz).1, (a5 hz).2.1, (a5 hz).2.2.1, fun j hj0 hj1 => ?_⟩⟩
  · rw [a3]; unfold pl; rw [hLl]
    have := Int.emod_nonneg t (show (p : Int) ≠ 0 by omega)
    omega
  · exact (a4 hz).2.2 j.toNat (by omega) hle
  · have := (a5 hz).2.2.2 j.toNat (by omega)
    rw [Int.toNat_of_nonneg hj0] at this
    exact this
theorem RInv.headAt (h : RInv p q i r) {j : Int} (h0 : 0 ≤ j) (h1 : j < q) : 0 ≤ rHead r j ∧ rHead r j ≤ r.tail ∧ r.tail - rHead r j ≤ p := by
  have hl := h.hl
  have hlt : j.toNat < r.heads.length := by omega
  refine h.h0 _ ?_
  unfold rHead
  rw [List.getD_eq_getElem?_getD, List.getElem?_eq_getElem hlt]
  exact List.getElem_mem hlt
/-- The next ticket's place is not beyond it. -/
theorem WInv.next (h : WInv p q i r) (hp : 1 ≤ p) (hq : 1 ≤ q) : (slAt r.L r.tail).st ≤ 2 * r.tail := by
  obtain ⟨a1, a2, a3, a4⟩ := h.at_t hp r.tail
  have hh := h.I.headAt (j := 0) (Int.le_refl _) (by omega)
  rcases Int.emod_two_eq (slAt r.L r.tail).st with hz | hz
  · by_cases hu : (slAt r.L r.tail).st / 2 ≤ r.tail
    · omega
    · have := cong_le (by omega) a2.symm (by omega : r.tail < (slAt r.L r.tail).st / 2)
      have := a3 hz 0 (Int.le_refl _) (by omega) (by omega)
      omega
  · have := (a4 hz).2.2.1
    omega
/-- A ticket that a reader hasn't taken. -/
theorem WInv.owed (h : WInv p q i r) (hp : 1 ≤ p) {j t : Int} (hj0 : 0 ≤ j) (hj1 : j < q) (h1 : rHead r j ≤ t) (h2 : t < r.tail) :
    (slAt r.L t).st ≤ 2 * t + 1 ∧ ((slAt r.L t).st = 2 * t + 1 → bitOf (slAt r.L t).left j = true) := by
  obtain ⟨a1, a2, a3, a4⟩ := h.at_t hp t
  have hh := h.I.headAt hj0 hj1
  rcases Int.emod_two_eq (slAt r.L t).st with hz | hz
  · refine ⟨?_, fun e => by omega⟩
    by_cases hu : (slAt r.L t).st / 2 ≤ t
    · omega
    · have := cong_le (by omega) a2.symm (by omega : t < (slAt r.L t).st / 2)
      have := a3 hz j hj0 hj1 (by omega)
      omega
  · obtain ⟨b1, b2, b3, b4⟩ := a4 hz
    have hle : (slAt r.L t).st / 2 ≤ t := by
      by_cases hu : (slAt r.L t).st / 2 ≤ t
      · exact hu
      · have := cong_le (by omega) a2.symm (by omega : t < (slAt r.L t).st / 2)
        omega
    refine ⟨by omega, fun e => ?_⟩
    rcases b4 j hj0 hj1 with hb | hb
    · exact hb
    · omega
theorem Lin.tick (h : Lin p q i r m N) {c : Nat} (hc : c < 6) (hk : (atP N c).k ≠ 0) : 0 ≤ (atP N c).t ∧ (atP N c).t < r.tail := by
  rcases h.P c hc with e | ⟨h1, h2, h3, -⟩ | ⟨h1, h2, h3, h4, h5, -⟩
  · rw [e] at hk; exact absurd rfl hk
  · exact ⟨h2, h3⟩
  · have := h.W.I.headAt h2 h3
    exact ⟨h4, by omega⟩
theorem Lin.zero (h : Lin p q i r m N) {c : Nat} (hc : c < 6) (hk : (atP N c).k = 0) : atP N c = P14.z := by
  rcases h.P c hc with e | ⟨h1, -⟩ | ⟨h1, -⟩
  · exact e
  · omega
  · omega
theorem set_same {N : List P14} {c : Nat} {x : P14} (hc : c < N.length) (e : atP N c = x) : N.set c x = N := by
  refine list_ext (by simp) P14.z (fun d hd => ?_)
  have := atP_set (x := x) hc (by simpa using hd : d < N.length)
  unfold atP at this e
  rw [this]
  split
  · rename_i h; rw [← e, h]
  · rfl
theorem Lin.kinds (h : Lin p q i r m N) {c : Nat} (hc : c < 6) : (atP N c).k = 0 ∨ (atP N c).k = 1 ∨ (atP N c).k = 2 := by
  rcases h.P c hc with e | ⟨h1, -⟩ | ⟨h1, -⟩
  · left; rw [e]; rfl
  · exact .inr (.inl h1)
  · exact .inr (.inr h1)
theorem Lin.new (hp : p ≤ 64) (hq : 1 ≤ q) : Lin p q 0 ⟨0, List.replicate q 0, false, sNew p⟩ ⟨p, [], List.replicate q 0, false⟩ (List.replicate 6 P14.z) := by
  have hz : ∀ c, c < 6 → atP (List.replicate 6 P14.z) c = P14.z := fun c hc => by unfold atP; rw [List.getD_eq_getElem?_getD, List.getElem?_replicate, if_pos hc]; rfl
  have hns : ∀ t, ¬ Snd (List.replicate 6 P14.z) t := fun t ⟨c, hc, h1, _⟩ => by rw [hz c hc] at h1; exact absurd h1 (by decide)
  refine ⟨WInv.new hp, rfl, rfl, rfl, rfl, rfl, fun t ht he => ?_, fun c hc => .inl (hz c hc), fun c d hc hd _ => ?_, fun t h0 h1 _ => ?_, fun t ht he => ?_, fun t h => (hns t h).elim⟩
  · exfalso
    dsimp only at he
    by_cases hp0 : p = 0
    · subst hp0
      have : slAt (sNew 0) t = Sl.z := rfl
      rw [this] at he
      change (0 : Int) = _ at he
      omega
    · obtain ⟨-, -, -, a4⟩ := (WInv.new (p := p) (q := q) hp).at_t (by omega) t
      have := (a4 (by dsimp only; omega)).2.2.1
      dsimp only at this
      omega
  · rw [hz c hc]; exact ⟨fun h => absurd h (by decide), fun h => absurd h (by decide)⟩
  · dsimp only at h1; omega
  · exfalso
    dsimp only at he
    by_cases hp0 : p = 0
    · subst hp0
      have : slAt (sNew 0) t = Sl.z := rfl
      rw [this] at he
      change (0 : Int) = _ at he
      omega
    · obtain ⟨-, -, -, a4⟩ := (WInv.new (p := p) (q := q) hp).at_t (by omega) t
      have := (a4 (by dsimp only; omega)).2.2.1
      dsimp only at this
      omega
end
end Go.Proofs.Ytmejnhfggmmefaa.H
