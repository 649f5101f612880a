/- Layer 14: ModelQueue: with one reader what is got is what was put, in order, and never more than the places are there at once. No condition. -/
import Derived.Test.YtmejnhfggmmefaaL14B
namespace Go.Proofs.Ytmejnhfggmmefaa.H
open Go.RowKit
set_option linter.unusedVariables false
set_option linter.unusedSimpArgs false
variable {w : World}

/-- A queue of numbers in memory of its own: somewhere in a block. -/
def QIn (w : World) (base : Nat) (v : Value) (l : List Int) : Prop :=
  (v = .slice none 0 0 ∧ l = []) ∨ ∃ g off c cs, v = .slice (some ⟨g, off, none⟩) l.length c ∧ base ≤ g ∧ w.heap[g]? = some (.cells cs 36 (0, 0)) ∧ off + c ≤ cs.size ∧ l.length ≤ c ∧ c ≤ maxLen ∧ ∀ i, i < l.length → cs[off + i]? = some (.int .u64 (l.getD i 0))
theorem QIn.kp {w w' : World} {base : Nat} {v : Value} {l : List Int} {S : Nat → Prop} (h : QIn w base v l) (k : Kp S w w') (hn : ∀ b, v.ownBlock = some b → ¬ S b) : QIn w' base v l := by
  rcases h with h | ⟨g, off, c, cs, rfl, h1, h2, h3⟩
  · exact .inl h
  · exact .inr ⟨g, off, c, cs, rfl, h1, bk_kp h2 k (hn g rfl), h3⟩
theorem QIn.lt {w : World} {base : Nat} {v : Value} {l : List Int} (h : QIn w base v l) : ∀ b, v.ownBlock = some b → base ≤ b ∧ b < w.heap.size := by
  rcases h with ⟨rfl, _⟩ | ⟨g, off, c, cs, rfl, h1, h2, _⟩
  · intro b hb; cases hb
  · intro b hb; injection hb with hb; subst hb; exact ⟨h1, bk_lt h2⟩
theorem QIn.rd {w : World} {base : Nat} {v : Value} {l : List Int} (h : QIn w base v l) : Rd w v l.length (u64s l) := by
  rcases h with ⟨rfl, rfl⟩ | ⟨g, off, c, cs, rfl, h1, h2, h3, h4, h5, h6⟩
  · exact ⟨none, 0, rfl, Nat.le_refl _, Nat.zero_le _, fun _ => ⟨rfl, rfl, rfl⟩, (fun ad h => by cases h)⟩
  · refine ⟨some ⟨g, off, none⟩, c, rfl, h4, h5, (fun h => by cases h), fun ad e j u hj => ?_⟩
    cases e
    have hjl : j < l.length := by have := (List.getElem?_eq_some_iff.1 hj).1; rw [u64s_len] at this; omega
    rw [add_none, bk_cell h2, h6 j hjl, ← hj, u64s_get l j hjl]
theorem QIn.of_own {w : World} {base : Nat} {v : Value} {l : List Int} (h : w.ownsRow base 36 1 v l.length (u64s l)) : QIn w base v l := by
  have hc := fun (g : Nat) (hg : v.ownBlock = some g) => h.cells (g := g) hg
  rcases h.2 with ⟨rfl, h0⟩ | ⟨g, cap, cur, rfl, hb, hg, h1, h2, h3, _⟩
  · exact .inl ⟨rfl, List.eq_nil_of_length_eq_zero h0⟩
  · refine .inr ⟨g, 0, cap, cur, rfl, hb, hg, by omega, h1, h2, fun i hi => ?_⟩
    have := hc g rfl i _ (u64s_get l i hi)
    rw [add_none, bk_cell hg] at this
    exact this
theorem getD_snoc {l : List Int} {x : Int} {i : Nat} : (l ++ [x]).getD i 0 = if i < l.length then l.getD i 0 else if i = l.length then x else 0 := by
  by_cases h : i < l.length
  · rw [if_pos h, List.getD_eq_getElem?_getD, List.getElem?_append_left h, List.getD_eq_getElem?_getD]
  · rw [if_neg h]
    by_cases e : i = l.length
    · subst e; simp [List.getD]
    · rw [if_neg e, List.getD_eq_getElem?_getD, List.getElem?_eq_none (by simp; omega)]; rfl
theorem QIn.pop1 {w : World} {base : Nat} {l : List Int} {A : Option Addr} (h : QIn w base (.slice A l.length 1) l) (hl : 0 < l.length) : QIn w base (.slice A 0 0) (l.drop 1) := by
  rcases h with ⟨h, _⟩ | ⟨g, off, c, cs, hv, h1, h2, h3, h4, h5, h6⟩
  · injection h with _ _ h; cases h
  · injection hv with e1 e2 e3
    subst e1
    have : l.drop 1 = [] := List.eq_nil_of_length_eq_zero (by rw [List.length_drop]; omega)
    rw [this]
    exact .inr ⟨g, off, 0, cs, rfl, h1, h2, by omega, Nat.le_refl _, Nat.zero_le _, fun i hi => absurd hi (Nat.not_lt_zero _)⟩
theorem QIn.pop {w : World} {base g off c : Nat} {l : List Int} (h : QIn w base (.slice (some ⟨g, off, none⟩) l.length c) l) (hl : 0 < l.length) : QIn w base (.slice (some ⟨g, off + 1, none⟩) (l.length - 1) (c - 1)) (l.drop 1) := by
  rcases h with ⟨h, _⟩ | ⟨g', off', c', cs, hv, h1, h2, h3, h4, h5, h6⟩
  · cases h
  · injection hv with e1 e2 e3
    injection e1 with e1
    injection e1 with e1 e4
    subst e1; subst e4; subst e3
    refine .inr ⟨g, off + 1, c - 1, cs, by rw [List.length_drop], h1, h2, by omega, by rw [List.length_drop]; omega, by omega, fun i hi => ?_⟩
    rw [List.length_drop] at hi
    have := h6 (i + 1) (by omega)
    rw [show off + 1 + i = off + (i + 1) by omega, this]
    simp [List.getD, Nat.add_comm]
theorem QIn.snoc {w : World} {base : Nat} {v : Value} {l : List Int} {x : Int} {g off c : Nat} (h : QIn w base v l) (hv : v = .slice (some ⟨g, off, none⟩) l.length c) (hr : l.length + 1 ≤ c) : QIn (w.setCell ⟨g, off + l.length, none⟩ (.int .u64 x)) base (.slice (some ⟨g, off, none⟩) (l.length + 1) c) (l ++ [x]) := by
  rcases h with ⟨h, _⟩ | ⟨g', off', c', cs, hv', h1, h2, h3, h4, h5, h6⟩
  · rw [h] at hv; cases hv
  · rw [hv'] at hv
    injection hv with e1 e2 e3
    injection e1 with e1
    injection e1 with e1 e4
    subst e1; subst e4; subst e3
    refine .inr ⟨g', off', c', cs.setIfInBounds (off' + l.length) (.int .u64 x), by simp, h1, bk_set h2 _ _ rfl, by simpa using h3, by simpa using hr, h5, fun i hi => ?_⟩
    rw [List.length_append] at hi
    simp at hi
    rw [getD_snoc]
    by_cases e : i < l.length
    · rw [if_pos e, ← h6 i e]
      rw [Array.getElem?_setIfInBounds_ne (by omega)]
    · have : i = l.length := by omega
      subst this
      rw [if_neg e, if_pos rfl, Array.getElem?_setIfInBounds_self]
      rw [if_pos (by omega)]
set_option maxRecDepth 100000 in
/-- append of one number to a queue. -/
theorem wpList_append_q {ops : Array Oper} {rest : List Oper} {o : Oper} {a : Act} {Q : Exit → Act → World → Prop} (hgd : o.guard = none) (s x : Operand)
    (ho : o.op = .call { callee := .builtin .append, args := #[s, x], argTypes := #[31, 31] }) (base : Nat) (v : Value) (l : List Int) (hs : a.eval s = v) (hq : QIn w base v l) (b : Nat) (n : Int)
    (hx : a.eval x = .slice (some ⟨b, 0, none⟩) 1 1) (hc : w.cell? ⟨b, 0, none⟩ = some (.int .u64 n)) (hl : l.length < 1000) (hb : base ≤ w.heap.size)
    (hK : ∀ A' c' w', QIn w' base (.slice A' (l.length + 1) c') (l ++ [n]) → Kp (fun k => v.ownBlock = some k) w w' → (∀ k, (Value.slice A' (l.length + 1) c').ownBlock = some k → v.ownBlock = some k ∨ w.heap.size ≤ k) → wpList Try.prog ops Q rest (a.put o.dst (.slice A' (l.length + 1) c')) w') :
    wpList Try.prog ops Q (o :: rest) a w := by
  obtain ⟨i0, hi, hz0, hz1, hz2⟩ := info_parts Try.infoU64
  have hnews : ∀ (j : Nat) (u : Value), [Value.int .u64 n][j]? = some u → w.cell? ((⟨b, 0, none⟩ : Addr).add j) = some u := fun j u hj => by
    match j, hj with
    | 0, hj => injection hj with hj; subst hj; rw [add_none]; exact hc
  have e2 : u64s (l ++ [n]) = u64s l ++ [.int .u64 n] := by simp [u64s]
  have e3 : (l ++ [n]).length = l.length + 1 := by simp
  rcases hq with ⟨rfl, rfl⟩ | ⟨g, off, c, cs, rfl, h1, h2, h3, h4, h5, h6⟩
  · refine wpList_append_own_at w hgd s x 31 ho base 36 i0 _ 1 8 Try.underlying31 hi hz0 hz1 hz2 rfl (by decide) (.slice none 0 0) 0 [] hs (World.ownsRow_nil _ _ _ _) ⟨b, 0, none⟩ 1 1 [.int .u64 n] hx rfl hnews (by simp [Value.oneCell']) (by unfold maxLen; omega) (by omega) hb ?_
    intro v' w' hown hgrow _ hat
    obtain ⟨A', c', rfl⟩ := or_form hown
    refine hK A' c' w' (QIn.of_own (l := [n]) hown) ((Kp.refl _ _).grown hgrow (fun k hk _ => hk)) (fun k hk => ?_)
    change (Value.slice A' (0 + 1) c').ownBlock = some k at hk
    rcases hat with ha | ha
    · exact .inl (ha ▸ hk)
    · rw [hk] at ha; injection ha with ha; exact .inr (by omega)
  · refine wpList_append_arg w hgd s x 31 ho 36 i0 _ 1 8 Try.underlying31 hi hz0 hz1 hz2 rfl (by decide) g off l.length c (u64s l) hs (u64s_len l) (fun j u hj => ?_) ⟨b, 0, none⟩ 1 1 [.int .u64 n] hx rfl hnews (by simp [Value.oneCell']) (fun hr j hj => ?_) (by unfold maxLen; omega) (by omega) (fun hr => ?_) (fun hr v' w' hown hgrow => ?_)
    · have hjl : j < l.length := by have := (List.getElem?_eq_some_iff.1 hj).1; rw [u64s_len] at this; omega
      rw [bk_cell h2, h6 j hjl, ← hj, u64s_get l j hjl]
    · have : j = 0 := by simpa using hj
      subst this
      rw [Nat.mul_one, Nat.add_zero, bk_cell h2]
      exact ⟨by rw [Array.getElem?_eq_getElem (by omega)]; rfl, bk_fz h2 _⟩
    · have e : w.setCells g (off + l.length * 1) [.int .u64 n] = w.setCell ⟨g, off + l.length, none⟩ (.int .u64 n) := by simp [World.setCells]
      rw [e]
      exact hK _ _ _ (QIn.snoc (.inr ⟨g, off, c, cs, rfl, h1, h2, h3, h4, h5, h6⟩) rfl hr) ((Kp.refl (fun k => (Value.slice (some ⟨g, off, none⟩) l.length c).ownBlock = some k) w).setCell ⟨g, off + l.length, none⟩ rfl _) (fun k hk => .inl hk)
    · obtain ⟨A', c', rfl⟩ := or_form hown
      have h7 := QIn.of_own (l := l ++ [n]) (by rw [e2, e3]; exact or_base hown hb)
      exact hK A' c' w' h7 ((Kp.refl _ _).grown hgrow (fun k hk => by cases hk)) (fun k hk => .inr (hown.lt k hk).1)
/-- A log with one reader. -/
theorem one_rest (p : Int) (L : List Int) (g : Nat) : mRest ⟨p, L, [(g : Int)], false⟩ 0 = L.drop g := by
  unfold mRest mIs mGot; simp
theorem one_put (p : Int) (L : List Int) (g : Nat) (v : Int) (hg : g ≤ L.length) : mPut ⟨p, L, [(g : Int)], false⟩ v = if ((L.drop g).length : Int) < p then ((L.length : Int), 0, ⟨p, L ++ [v], [(g : Int)], false⟩) else (0, 8, ⟨p, L, [(g : Int)], false⟩) := by
  have hf : mFull ⟨p, L, [(g : Int)], false⟩ = decide (p ≤ ((L.drop g).length : Int)) := by
    unfold mFull leastL
    rw [List.length_drop]
    dsimp only [List.foldl]
    congr 1
    simp only [eq_iff_iff]
    omega
  unfold mPut
  rw [if_neg (show ¬ (false = true) by decide), hf]
  by_cases h : ((L.drop g).length : Int) < p
  · rw [if_pos h, decide_eq_false (by omega), if_neg (show ¬ (false = true) by decide)]
  · rw [if_neg h, decide_eq_true (by omega), if_pos rfl]
theorem one_get (p : Int) (L : List Int) (g : Nat) (hg : g ≤ L.length) : mGet ⟨p, L, [(g : Int)], false⟩ 0 = if 0 < (L.drop g).length then ((L.drop g).getD 0 0, 0, ⟨p, L, [((g + 1 : Nat) : Int)], false⟩) else (0, 9, ⟨p, L, [(g : Int)], false⟩) := by
  unfold mGet mIs mGot
  rw [List.length_drop]
  by_cases h : 0 < L.length - g
  · rw [if_pos h, if_pos (by simp), if_neg (by simp; omega)]
    simp [List.getD]
  · rw [if_neg h, if_pos (by simp), if_pos (by simp; omega)]
    rfl
end Go.Proofs.Ytmejnhfggmmefaa.H
