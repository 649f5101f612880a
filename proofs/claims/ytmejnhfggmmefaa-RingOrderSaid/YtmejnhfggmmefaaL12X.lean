/- Layer 12: SlotsOrder, plainly: what was put, and how often it was got, beside how the places stand. No condition. -/
import Derived.Test.YtmejnhfggmmefaaL12R
namespace Go.Proofs.Ytmejnhfggmmefaa.H
open Go.RowKit
set_option linter.unusedVariables false
set_option linter.unusedSimpArgs false

theorem bits_clear : ∀ l : Fin 256, ∀ j k : Fin 8, bitOf (l.val : Int) (j.val : Int) = true → bitOf ((l.val : Int) - 2 ^ j.val) (j.val : Int) = false ∧ (k ≠ j → bitOf ((l.val : Int) - 2 ^ j.val) (k.val : Int) = bitOf (l.val : Int) (k.val : Int)) := by decide +kernel
def upd1 (f : Int → Option Int) (t v : Int) (x : Int) : Option Int := if x = t then some v else f x
def upd2 (f : Int → Int → Int) (j t : Int) (x y : Int) : Int := if x = j ∧ y = t then 1 else f x y
/-- What was put (pv), and got (ct), fits how the places stand. -/
structure OInv (L : List Sl) (R : Nat) (pv : Int → Option Int) (ct : Int → Int → Int) : Prop where
  a : ∀ T v, pv T = some v → 0 ≤ T ∧ 2 * T + 1 ≤ (slAt L T).st ∧ ((slAt L T).st = 2 * T + 1 → (slAt L T).v = v)
  b : ∀ T, 0 ≤ T → (slAt L T).st = 2 * T + 1 → ∃ v, pv T = some v
  c : ∀ j T, ct j T = 0 ∨ (ct j T = 1 ∧ 0 ≤ j ∧ j < R ∧ 0 ≤ T ∧ 2 * T + 1 ≤ (slAt L T).st ∧ ((slAt L T).st = 2 * T + 1 → bitOf (slAt L T).left j = false))
theorem OInv.new {p R : Nat} (hp : 1 ≤ p) : OInv (sNew p) R (fun _ => none) (fun _ _ => 0) := by
  refine OInv.mk (fun T v h => ?_) (fun T hT h => ?_) (fun j T => Or.inl rfl)
  · cases h
  have hl : (sNew p).length = p := by simp [sNew]
  have hlt := pl_lt (L := sNew p) (by omega) T
  have : (slAt (sNew p) T).st = 2 * (pl (sNew p) T : Nat) := by
    unfold slAt
    generalize pl (sNew p) T = i at hlt ⊢
    rw [hl] at hlt; simp [sNew, List.getD, hlt]
  omega
theorem slAt_set {L : List Sl} {T T' : Int} {x : Sl} (h : 0 < L.length) : slAt (L.set (pl L T) x) T' = if pl L T' = pl L T then x else slAt L T' := by
  have e : pl (L.set (pl L T) x) T' = pl L T' := by unfold pl; rw [List.length_set]
  unfold slAt
  rw [e]
  have h1 := pl_lt h T
  have h2 := pl_lt h T'
  by_cases e2 : pl L T' = pl L T
  · rw [if_pos e2, e2]; simp [List.getD, h1]
  · have : ¬ pl L T = pl L T' := fun h => e2 h.symm
    rw [if_neg e2]; simp [List.getD, this]
theorem slAt_same {L : List Sl} {T T' : Int} (h : pl L T' = pl L T) : slAt L T' = slAt L T := by unfold slAt; rw [h]
theorem OInv.put {L : List Sl} {R : Nat} {pv : Int → Option Int} {ct : Int → Int → Int} (h : OInv L R pv ct) (hl : 0 < L.length) {t v : Int} (ht : 0 ≤ t) (he : (sPut L R t v).1 = 0) :
    pv t = none ∧ OInv (sPut L R t v).2 R (upd1 pv t v) ct := by
  have hst : (slAt L t).st = 2 * t ∧ (sPut L R t v).2 = L.set (pl L t) ⟨2 * t + 1, v, 2 ^ R - 1⟩ := by
    unfold sPut at he ⊢
    split at he
    · rename_i h1
      rw [if_pos h1]
      split at he
      · cases he
      · rename_i h2
        rw [if_neg h2]
        split at he
        · cases he
        · rename_i h3
          rw [if_neg h3]
          exact ⟨by omega, rfl⟩
    · cases he
  obtain ⟨hst, hL⟩ := hst
  have hn : pv t = none := by
    cases hp : pv t with
    | none => rfl
    | some x => have := (h.a t x hp).2.1; omega
  refine ⟨hn, ?_⟩
  rw [hL]
  refine ⟨fun T x hx => ?_, fun T hT hs => ?_, fun j T => ?_⟩
  · rw [slAt_set hl]
    unfold upd1 at hx
    by_cases e : T = t
    · subst e
      rw [if_pos rfl] at hx ⊢
      injection hx with hx
      exact ⟨ht, by dsimp only; omega, fun _ => hx⟩
    · rw [if_neg e] at hx
      obtain ⟨h1, h2, h3⟩ := h.a T x hx
      by_cases e2 : pl L T = pl L t
      · rw [if_pos e2]
        rw [slAt_same e2] at h2
        exact ⟨h1, by dsimp only; omega, fun h4 => by dsimp only at h4; omega⟩
      · rw [if_neg e2]; exact ⟨h1, h2, h3⟩
  · rw [slAt_set hl] at hs
    unfold upd1
    by_cases e : T = t
    · exact ⟨v, by rw [if_pos e]⟩
    · rw [if_neg e]
      by_cases e2 : pl L T = pl L t
      · rw [if_pos e2] at hs
        dsimp only at hs
        omega
      · rw [if_neg e2] at hs; exact h.b T hT hs
  · rcases h.c j T with h0 | ⟨h0, h1, h2, h3, h4, h5⟩
    · exact .inl h0
    · right
      rw [slAt_set hl]
      by_cases e2 : pl L T = pl L t
      · rw [if_pos e2]
        rw [slAt_same e2] at h4
        exact ⟨h0, h1, h2, h3, by dsimp only; omega, fun h6 => by dsimp only at h6; omega⟩
      · rw [if_neg e2]; exact ⟨h0, h1, h2, h3, h4, h5⟩
theorem OInv.get {L : List Sl} {R : Nat} {pv : Int → Option Int} {ct : Int → Int → Int} (h : OInv L R pv ct) (hl : 0 < L.length) (hR : R ≤ 8) (hok : ∀ x ∈ L, x.ok) {j t : Int} (ht : 0 ≤ t) (he : (sGet L R j t).2.1 = 0) :
    pv t = some (sGet L R j t).1 ∧ ct j t = 0 ∧ OInv (sGet L R j t).2.2 R pv (upd2 ct j t) := by
  have hg : sGot L R j t = 0 := by
    unfold sGet at he; split at he
    · assumption
    · exact he
  have hpl := pl_lt hl t
  have hmem : slAt L t ∈ L := by unfold slAt; rw [List.getD_eq_getElem?_getD, List.getElem?_eq_getElem hpl]; exact List.getElem_mem hpl
  have hs : 0 ≤ j ∧ j < (R : Int) ∧ (slAt L t).st = 2 * t + 1 ∧ bitOf (slAt L t).left j = true := by
    unfold sGot at hg
    split at hg
    · rename_i h0
      split at hg
      · cases hg
      · split at hg
        · cases hg
        · split at hg
          · rename_i hb; exact ⟨h0.2.1, h0.2.2, by omega, hb⟩
          · cases hg
    · cases hg
  obtain ⟨hj0, hjR, hst, hbit⟩ := hs
  obtain ⟨v, hv⟩ := h.b t ht hst
  have hvv := (h.a t v hv).2.2 hst
  have hct : ct j t = 0 := by
    rcases h.c j t with h0 | ⟨_, _, _, _, _, h5⟩
    · exact h0
    · rw [h5 hst] at hbit; cases hbit
  obtain ⟨jn, rfl⟩ := Int.eq_ofNat_of_zero_le hj0
  obtain ⟨o1, o2, o3, o4⟩ := hok _ hmem
  obtain ⟨l, hlv⟩ := Int.eq_ofNat_of_zero_le o3
  have hbc := fun k : Fin 8 => bits_clear ⟨l, by omega⟩ ⟨jn, by omega⟩ k (by dsimp only; rw [← hlv]; exact hbit)
  dsimp only at hbc
  have hG : (sGet L R (jn : Int) t) = ((slAt L t).v, 0, L.set (pl L t) (if (slAt L t).left - 2 ^ jn = 0 then ⟨2 * (t + L.length), 0, 0⟩ else ⟨(slAt L t).st, (slAt L t).v, (slAt L t).left - 2 ^ jn⟩)) := by
    unfold sGet; rw [if_pos hg, Int.toNat_natCast]
  rw [hG]
  dsimp only
  refine ⟨by rw [hv, hvv], hct, ?_⟩
  generalize hx : (if (slAt L t).left - 2 ^ jn = 0 then (⟨2 * (t + L.length), 0, 0⟩ : Sl) else ⟨(slAt L t).st, (slAt L t).v, (slAt L t).left - 2 ^ jn⟩) = x
  have hx2 : 2 * t + 1 ≤ x.st ∧ ∀ T, 0 ≤ T → x.st = 2 * T + 1 → T = t ∧ x.v = v ∧ x.left = (l : Int) - 2 ^ jn := by
    rw [← hx]
    split
    · exact ⟨by dsimp only; omega, fun T hT h => by dsimp only at h; omega⟩
    · exact ⟨by dsimp only; omega, fun T hT h => by dsimp only at h ⊢; exact ⟨by omega, hvv, by rw [hlv]⟩⟩
  obtain ⟨x1, x2⟩ := hx2
  refine ⟨fun T y hy => ?_, fun T hT hs => ?_, fun i T => ?_⟩
  · obtain ⟨h1, h2, h3⟩ := h.a T y hy
    rw [slAt_set hl]
    by_cases e2 : pl L T = pl L t
    · rw [if_pos e2]
      rw [slAt_same e2] at h2
      refine ⟨h1, by omega, fun h4 => ?_⟩
      obtain ⟨rfl, h5, _⟩ := x2 T h1 h4
      rw [hv] at hy; injection hy with hy; rw [h5, hy]
    · rw [if_neg e2]; exact ⟨h1, h2, h3⟩
  · rw [slAt_set hl] at hs
    by_cases e2 : pl L T = pl L t
    · rw [if_pos e2] at hs
      obtain ⟨rfl, _, _⟩ := x2 T hT hs
      exact ⟨v, hv⟩
    · rw [if_neg e2] at hs; exact h.b T hT hs
  · unfold upd2
    rw [slAt_set hl]
    by_cases e : i = (jn : Int) ∧ T = t
    · obtain ⟨rfl, rfl⟩ := e
      right
      rw [if_pos ⟨rfl, rfl⟩, if_pos rfl]
      refine ⟨rfl, hj0, hjR, ht, x1, fun h4 => ?_⟩
      rw [(x2 T ht h4).2.2]
      exact (hbc ⟨jn, by omega⟩).1
    · rw [if_neg e]
      rcases h.c i T with h0 | ⟨h0, h1, h2, h3, h4, h5⟩
      · exact .inl h0
      · right
        by_cases e2 : pl L T = pl L t
        · rw [if_pos e2]
          rw [slAt_same e2] at h4 h5
          refine ⟨h0, h1, h2, h3, by omega, fun h6 => ?_⟩
          obtain ⟨rfl, _, h7⟩ := x2 T h3 h6
          obtain ⟨k, rfl⟩ := Int.eq_ofNat_of_zero_le h1
          have hne : (⟨k, by omega⟩ : Fin 8) ≠ ⟨jn, by omega⟩ := fun hh => e ⟨by have := congrArg Fin.val hh; dsimp only at this; rw [this], rfl⟩
          have h8 := (hbc ⟨k, by omega⟩).2 hne
          dsimp only at h8
          rw [h7, h8, ← hlv]
          exact h5 hst
        · rw [if_neg e2]; exact ⟨h0, h1, h2, h3, h4, h5⟩
end Go.Proofs.Ytmejnhfggmmefaa.H
