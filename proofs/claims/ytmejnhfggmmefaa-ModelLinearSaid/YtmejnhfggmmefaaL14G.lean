/- Layer 14: clients on a ring beside a log: each step keeps what always holds; one that is pending can go on. No program in sight, no condition. -/
import Derived.Test.YtmejnhfggmmefaaL14F
namespace Go.Proofs.Ytmejnhfggmmefaa.H
open Go.RowKit
set_option linter.unusedVariables false
set_option linter.unusedSimpArgs false
section
variable {p q i : Nat} {r : Rg} {m : Md} {N : List P14}
theorem WInv.up (h : WInv p q i r) : WInv p q (i + 1) r := ⟨⟨h.I.hl, h.I.Ll, by have := h.I.ti; omega, h.I.h0⟩, h.P⟩
theorem Lin.same (h : Lin p q i r m N) : Lin p q (i + 1) r m N := ⟨h.W.up, h.tl, h.tg, h.tc, h.tm, h.n6, h.V, h.P, h.U, h.F, h.B, h.S⟩
theorem Lin.close (h : Lin p q i r m N) : Lin p q (i + 1) { r with closed := true } { m with closed := true } N := ⟨⟨⟨h.W.I.hl, h.W.I.Ll, by have := h.W.I.ti; dsimp only; omega, h.W.I.h0⟩, h.W.P⟩, h.tl, h.tg, rfl, h.tm, h.n6, h.V, h.P, h.U, h.F, h.B, h.S⟩
theorem getD_app {l : List Int} {v t : Int} (h0 : 0 ≤ t) (h1 : t < l.length) : (l ++ [v]).getD t.toNat 0 = l.getD t.toNat 0 := by
  have h : t.toNat < l.length := by omega
  simp [List.getD, List.getElem?_append_left h]
theorem getD_last {l : List Int} {v t : Int} (h1 : t = l.length) : (l ++ [v]).getD t.toNat 0 = v := by
  subst h1; simp [List.getD]
theorem set_head {H : List Int} {j k x : Int} {q : Nat} (hl : H.length = q) (hj0 : 0 ≤ j) (hj1 : j < q) (hk0 : 0 ≤ k) (hk1 : k < q) : (H.set j.toNat x).getD k.toNat 0 = if k = j then x else H.getD k.toNat 0 := by
  rw [getD_set (by omega) (by omega)]
  by_cases e : k = j
  · subst e; rw [if_pos rfl, if_pos rfl]
  · rw [if_neg e, if_neg (by omega)]
theorem Lin.claim (h : Lin p q i r m N) (hp : 1 ≤ p) (hp64 : p ≤ 64) (hq : 1 ≤ q) (hq8 : q ≤ 8) (hi : i ≤ 1000) {c : Nat} (hc : c < 6) (hz : (atP N c).k = 0) (hcl : r.closed = false) (hf : rFull r = false) (v : Int) :
    Lin p q (i + 1) { r with tail := r.tail + 1 } { m with l := m.l ++ [v] } (N.set c ⟨1, 0, r.tail, v⟩) := by
  have hT0 := h.W.I.ti
  have htl := h.tl
  have hW : WInv p q (i + 1) { r with tail := r.tail + 1 } := by
    have h1 := h.W.step hp hp64 hq hq8 hi ⟨0, 0, 0, 0⟩ (by decide)
    have e : rDo r ⟨0, 0, 0, 0⟩ = (r.tail, 0, { r with tail := r.tail + 1 }) := by
      unfold rDo; rw [if_pos (by decide)]; unfold rClaim; rw [if_neg (by rw [hcl]; decide), if_neg (by rw [hf]; decide)]
    rw [e] at h1; exact h1
  have h6 := h.n6
  have hN : ∀ d, d < 6 → atP (N.set c ⟨1, 0, r.tail, v⟩) d = if d = c then ⟨1, 0, r.tail, v⟩ else atP N d := fun d hd => atP_set (by omega) (by omega)
  refine ⟨hW, by simp; omega, h.tg, h.tc, h.tm, by simpa using h6, fun t ht he => ?_, fun d hd => ?_, fun a b ha hb hab => ?_, fun t h0 h1 h2 => ?_, fun t ht he j hj0 hj1 hb => ?_, fun t hs j hj0 hj1 => ?_⟩
  · obtain ⟨-, -, -, a4⟩ := h.W.at_t hp t
    have hu := (a4 (by dsimp only at he; omega)).2.2.1
    dsimp only at he ⊢
    rw [getD_app ht (by omega)]
    exact h.V t ht he
  · rw [hN d hd]
    by_cases e : d = c
    · rw [if_pos e]
      refine .inr (.inl ⟨rfl, hT0.1, by dsimp only; omega, getD_last htl.symm, ?_⟩)
      exact h.W.next hp hq
    · rw [if_neg e]
      rcases h.P d hd with e2 | ⟨h1, h2, h3, h4, h5⟩ | ⟨h1, h2, h3, h4, h5, h6, h7⟩
      · exact .inl e2
      · exact .inr (.inl ⟨h1, h2, by dsimp only; omega, by dsimp only; rw [getD_app h2 (by omega)]; exact h4, h5⟩)
      · have hh := h.W.I.headAt h2 h3
        exact .inr (.inr ⟨h1, h2, h3, h4, h5, by dsimp only; rw [getD_app h4 (by omega)]; exact h6, h7⟩)
  · rw [hN a ha, hN b hb]
    by_cases e : a = c
    · rw [if_pos e, if_neg (by omega)]
      have ht := fun hk => h.tick hb (c := b) hk
      refine ⟨fun _ hk => ?_, fun hk => absurd hk ne12⟩
      have := ht (by omega)
      dsimp only; omega
    · rw [if_neg e]
      by_cases e2 : b = c
      · rw [if_pos e2]
        have ht := fun hk => h.tick ha (c := a) hk
        refine ⟨fun hk _ => ?_, fun _ hk => absurd hk ne12⟩
        have := ht (by omega)
        dsimp only; omega
      · rw [if_neg e2]; exact h.U a b ha hb hab
  · by_cases e : t = r.tail
    · subst e; exact Snd.new (x := ⟨1, 0, r.tail, v⟩) h6 hc rfl
    · exact (h.F t h0 (by dsimp only at h1; omega) h2).keep h6 hc (fun hk => by omega)
  · rcases h.B t ht he j hj0 hj1 hb with h1 | h1
    · exact .inl h1
    · exact .inr (h1.keep h6 hc (fun hk => by omega))
  · rcases hs.of_set h6 hc with h1 | ⟨-, h1⟩
    · rcases h.S t h1 j hj0 hj1 with h2 | h2
      · exact .inl h2
      · exact .inr (h2.keep h6 hc (fun hk => by omega))
    · left
      have := h.W.I.headAt hj0 hj1
      change r.tail = t at h1
      show rHead r j ≤ t
      omega
theorem Lin.take (h : Lin p q i r m N) (hp : 1 ≤ p) (hp64 : p ≤ 64) (hq : 1 ≤ q) (hq8 : q ≤ 8) (hi : i ≤ 1000) {c : Nat} (hc : c < 6) (hz : (atP N c).k = 0) {j : Int} (hj0 : 0 ≤ j) (hj1 : j < q) (hne : rHead r j ≠ r.tail) :
    Lin p q (i + 1) { r with heads := r.heads.set j.toNat (rHead r j + 1) } { m with got := m.got.set j.toNat (mGot m j + 1) } (N.set c ⟨2, j, rHead r j, m.l.getD (mGot m j).toNat 0⟩) := by
  have hhj := h.W.I.headAt hj0 hj1
  have hHl := h.W.I.hl
  have hgh : mGot m j = rHead r j := by unfold mGot rHead; rw [h.tg]
  have hW : WInv p q (i + 1) { r with heads := r.heads.set j.toNat (rHead r j + 1) } := by
    have h1 := h.W.step hp hp64 hq hq8 hi ⟨2, j, 0, 0⟩ (Int.le_refl _)
    have e : rDo r ⟨2, j, 0, 0⟩ = (rHead r j, 0, { r with heads := r.heads.set j.toNat (rHead r j + 1) }) := by
      have hk : kd ⟨2, j, 0, 0⟩ = 2 := by unfold kd; show IntKind.u64.wrap 2 % 5 = 2; decide
      unfold rDo; rw [if_neg (by omega), if_neg (by omega), if_pos hk]; unfold rTake
      rw [if_pos (by unfold rIs; rw [decide_eq_true hj0, decide_eq_true (show j < (r.heads.length : Int) by omega)]; rfl), if_neg hne]
    rw [e] at h1; exact h1
  have h6 := h.n6
  have hrh : ∀ k, 0 ≤ k → k < (q : Int) → rHead { r with heads := r.heads.set j.toNat (rHead r j + 1) } k = if k = j then rHead r j + 1 else rHead r k := fun k hk0 hk1 => set_head hHl hj0 hj1 hk0 hk1
  have hge : ∀ k, 0 ≤ k → k < (q : Int) → rHead r k ≤ rHead { r with heads := r.heads.set j.toNat (rHead r j + 1) } k := fun k hk0 hk1 => by
    rw [hrh k hk0 hk1]; split
    · rename_i e; subst e; omega
    · omega
  generalize hx : (⟨2, j, rHead r j, m.l.getD (mGot m j).toNat 0⟩ : P14) = x
  have hxk : x.k = 2 := by rw [← hx]
  have hxj : x.j = j := by rw [← hx]
  have hxt : x.t = rHead r j := by rw [← hx]
  have hxv : m.l.getD x.t.toNat 0 = x.v := by rw [← hx, hgh]
  clear hx
  have hN : ∀ d, d < 6 → atP (N.set c x) d = if d = c then x else atP N d := fun d hd => atP_set (by omega) (by omega)
  have hnew : Rcv (N.set c x) j (rHead r j) := by have := Rcv.new (x := x) h6 hc hxk; rw [hxj, hxt] at this; exact this
  have hcon : ∀ t k, 0 ≤ k → k < (q : Int) → (rHead r k ≤ t ∨ Rcv N k t) → (rHead { r with heads := r.heads.set j.toNat (rHead r j + 1) } k ≤ t ∨ Rcv (N.set c x) k t) := fun t k hk0 hk1 hh => by
    rw [hrh k hk0 hk1]
    rcases hh with h1 | h1
    · by_cases e : k = j
      · subst e
        rw [if_pos rfl]
        by_cases e2 : rHead r k = t
        · right; rw [← e2]; exact hnew
        · left; omega
      · rw [if_neg e]; exact .inl h1
    · exact .inr (h1.keep h6 hc (fun hk => by omega))
  refine ⟨hW, h.tl, ?_, h.tc, h.tm, by simpa using h6, h.V, fun d hd => ?_, fun a b ha hb hab => ?_, fun t h0 h1 h2 => ?_, fun t ht he k hk0 hk1 hb => ?_, fun t hs k hk0 hk1 => ?_⟩
  · show m.got.set j.toNat (mGot m j + 1) = r.heads.set j.toNat (rHead r j + 1)
    rw [hgh, h.tg]
  · rw [hN d hd]
    by_cases e : d = c
    · rw [if_pos e]
      obtain ⟨o1, o2⟩ := h.W.owed hp hj0 hj1 (Int.le_refl _) (by omega)
      refine .inr (.inr ⟨hxk, by omega, by omega, by omega, ?_, hxv, ?_, ?_⟩)
      · rw [hxj, hrh j hj0 hj1, if_pos rfl, hxt]; omega
      · rw [hxt]; exact o1
      · rw [hxt, hxj]; exact o2
    · rw [if_neg e]
      rcases h.P d hd with e2 | h1 | ⟨h1, h2, h3, h4, h5, h6, h7⟩
      · exact .inl e2
      · exact .inr (.inl h1)
      · exact .inr (.inr ⟨h1, h2, h3, h4, by have := hge _ h2 h3; omega, h6, h7⟩)
  · rw [hN a ha, hN b hb]
    have key : ∀ d, d < 6 → (atP N d).k = 2 → (atP N d).j = j → (atP N d).t < rHead r j := fun d hd hk hj => by
      rcases h.P d hd with e2 | ⟨h1, -⟩ | ⟨h1, h2, h3, h4, h5, -⟩
      · rw [e2] at hk; exact absurd hk (by decide)
      · omega
      · rw [hj] at h5; exact h5
    by_cases e : a = c
    · rw [if_pos e, if_neg (by omega)]
      refine ⟨fun hk => by omega, fun _ hk hj => ?_⟩
      have := key b hb hk (by omega)
      omega
    · rw [if_neg e]
      by_cases e2 : b = c
      · rw [if_pos e2]
        refine ⟨fun _ hk => by omega, fun hk _ hj => ?_⟩
        have := key a ha hk (by omega)
        omega
      · rw [if_neg e2]; exact h.U a b ha hb hab
  · exact (h.F t h0 h1 h2).keep h6 hc (fun hk => by omega)
  · exact hcon t k hk0 hk1 (h.B t ht he k hk0 hk1 hb)
  · rcases hs.of_set h6 hc with h1 | ⟨h1, -⟩
    · exact hcon t k hk0 hk1 (h.S t h1 k hk0 hk1)
    · omega
theorem Lin.pub (h : Lin p q i r m N) (hp : 1 ≤ p) (hp64 : p ≤ 64) (hq : 1 ≤ q) (hq8 : q ≤ 8) (hi : i ≤ 1000) {c : Nat} (hc : c < 6) {j t v : Int} (hx : atP N c = ⟨1, j, t, v⟩) (he : (slAt r.L t).st = 2 * t) :
    Lin p q (i + 1) { r with L := r.L.set (pl r.L t) ⟨2 * t + 1, v, 2 ^ q - 1⟩ } m (N.set c P14.z) := by
  have hT0 := h.W.I.ti
  have hLl := h.W.I.Ll
  have hHl := h.W.I.hl
  have h6 := h.n6
  have hL0 : 0 < r.L.length := by omega
  obtain ⟨ht0, ht1, hv⟩ : 0 ≤ t ∧ t < r.tail ∧ m.l.getD t.toNat 0 = v := by
    rcases h.P c hc with e2 | ⟨h1, h2, h3, h4, -⟩ | ⟨h1, -⟩
    · rw [hx] at e2; cases e2
    · rw [hx] at h2 h3 h4; exact ⟨h2, h3, h4⟩
    · rw [hx] at h1; exact absurd h1 ne12
  have hW : WInv p q (i + 1) { r with L := r.L.set (pl r.L t) ⟨2 * t + 1, v, 2 ^ q - 1⟩ } := by
    have h1 := h.W.step hp hp64 hq hq8 hi ⟨1, 0, t, v⟩ ht0
    have e : (rDo r ⟨1, 0, t, v⟩).2.2 = { r with L := r.L.set (pl r.L t) ⟨2 * t + 1, v, 2 ^ q - 1⟩ } := by
      have hk : kd ⟨1, 0, t, v⟩ = 1 := by unfold kd; show IntKind.u64.wrap 1 % 5 = 1; decide
      unfold rDo; rw [if_neg (by omega), if_pos hk]; unfold rPublish
      dsimp only
      rw [if_neg (by omega)]; unfold sPut; rw [if_pos (by omega), if_neg (by omega), if_neg (by omega), hHl]
    rw [e] at h1; exact h1
  have hN : ∀ d, d < 6 → atP (N.set c P14.z) d = if d = c then P14.z else atP N d := fun d hd => atP_set (by omega) (by omega)
  have hs : ∀ u, slAt (r.L.set (pl r.L t) ⟨2 * t + 1, v, 2 ^ q - 1⟩) u = if u % (p : Int) = t % (p : Int) then ⟨2 * t + 1, v, 2 ^ q - 1⟩ else slAt r.L u := fun u => by rw [slAt_set hL0, hLl]
  have hsame : ∀ u, u % (p : Int) = t % (p : Int) → slAt r.L u = slAt r.L t := fun u hu => by
    unfold slAt; rw [(pl_eq (t := u) (u := t) hL0).2 (by rw [hLl]; exact hu)]
  have hbits : ∀ k, 0 ≤ k → k < (q : Int) → bitOf (2 ^ q - 1) k = true := fun k hk0 hk1 => by
    have := bits_new ⟨q, by omega⟩ ⟨k.toNat, by omega⟩ (by show k.toNat < q; omega)
    rw [show ((⟨k.toNat, by omega⟩ : Fin 8).val : Int) = k from by show (k.toNat : Int) = k; omega] at this
    exact this
  have keepR : ∀ k u, Rcv N k u → Rcv (N.set c P14.z) k u := fun k u hr => hr.keep h6 hc (fun hk => by rw [hx] at hk; exact absurd hk ne12)
  have hcs : Snd N t := ⟨c, hc, by rw [hx], by rw [hx]⟩
  refine ⟨hW, h.tl, h.tg, h.tc, h.tm, by simpa using h6, fun u hu hst => ?_, fun d hd => ?_, fun a b ha hb hab => ?_, fun u h0 h1 h2 => ?_, fun u hu hst k hk0 hk1 hb => ?_, fun u hsn k hk0 hk1 => ?_⟩
  · dsimp only at hst ⊢
    rw [hs] at hst ⊢
    by_cases e : u % (p : Int) = t % (p : Int)
    · rw [if_pos e] at hst ⊢
      dsimp only at hst ⊢
      rw [show u = t by omega]; exact hv.symm
    · rw [if_neg e] at hst ⊢; exact h.V u hu hst
  · rw [hN d hd]
    by_cases e : d = c
    · rw [if_pos e]; exact .inl rfl
    · rw [if_neg e]
      have hU := h.U c d hc hd (Ne.symm e)
      rw [hx] at hU
      rcases h.P d hd with e2 | ⟨h1, h2, h3, h4, h5⟩ | ⟨h1, h2, h3, h4, h5, h6, h7, h8⟩
      · exact .inl e2
      · refine .inr (.inl ⟨h1, h2, h3, h4, ?_⟩)
        dsimp only; rw [hs]
        by_cases e3 : (atP N d).t % (p : Int) = t % (p : Int)
        · rw [if_pos e3]
          rw [hsame _ e3, he] at h5
          have := hU.1 rfl h1
          dsimp only at this ⊢
          omega
        · rw [if_neg e3]; exact h5
      · refine .inr (.inr ⟨h1, h2, h3, h4, h5, h6, ?_, ?_⟩)
        · dsimp only; rw [hs]
          by_cases e3 : (atP N d).t % (p : Int) = t % (p : Int)
          · rw [if_pos e3]; rw [hsame _ e3, he] at h7; dsimp only; omega
          · rw [if_neg e3]; exact h7
        · dsimp only; rw [hs]
          by_cases e3 : (atP N d).t % (p : Int) = t % (p : Int)
          · rw [if_pos e3]; intro _; exact hbits _ h2 h3
          · rw [if_neg e3]; exact h8
  · rw [hN a ha, hN b hb]
    by_cases e : a = c
    · rw [if_pos e]; exact ⟨fun hk => absurd hk (by decide), fun hk => absurd hk (by decide)⟩
    · rw [if_neg e]
      by_cases e2 : b = c
      · rw [if_pos e2]; exact ⟨fun _ hk => absurd hk (by decide), fun _ hk => absurd hk (by decide)⟩
      · rw [if_neg e2]; exact h.U a b ha hb hab
  · dsimp only at h2; rw [hs] at h2
    by_cases e : u % (p : Int) = t % (p : Int)
    · rw [if_pos e] at h2
      dsimp only at h2
      refine (h.F u h0 h1 (by rw [hsame _ e, he]; omega)).keep h6 hc (fun _ => ?_)
      rw [hx]; dsimp only; omega
    · rw [if_neg e] at h2
      refine (h.F u h0 h1 h2).keep h6 hc (fun _ => ?_)
      rw [hx]; dsimp only; intro e2; exact e (by rw [e2])
  · dsimp only at hst hb; rw [hs] at hst hb
    by_cases e : u % (p : Int) = t % (p : Int)
    · rw [if_pos e] at hst
      dsimp only at hst
      rw [show u = t by omega]
      rcases h.S t hcs k hk0 hk1 with h1 | h1
      · exact .inl h1
      · exact .inr (keepR _ _ h1)
    · rw [if_neg e] at hst hb
      rcases h.B u hu hst k hk0 hk1 hb with h1 | h1
      · exact .inl h1
      · exact .inr (keepR _ _ h1)
  · rcases hsn.of_set h6 hc with h1 | ⟨h1, -⟩
    · rcases h.S u h1 k hk0 hk1 with h2 | h2
      · exact .inl h2
      · exact .inr (keepR _ _ h2)
    · exact absurd h1 (by decide)
theorem bits_off14 : ∀ l : Fin 256, ∀ j : Fin 8, bitOf (l.val : Int) (j.val : Int) = true → bitOf ((l.val : Int) - 2 ^ j.val) (j.val : Int) = false := by decide +kernel
theorem Lin.rel (h : Lin p q i r m N) (hp : 1 ≤ p) (hp64 : p ≤ 64) (hq : 1 ≤ q) (hq8 : q ≤ 8) (hi : i ≤ 1000) {c : Nat} (hc : c < 6) {j t v : Int} (hx : atP N c = ⟨2, j, t, v⟩) (he : (slAt r.L t).st = 2 * t + 1) (hbj : bitOf (slAt r.L t).left j = true) :
    Lin p q (i + 1) { r with L := r.L.set (pl r.L t) (if (slAt r.L t).left - 2 ^ j.toNat = 0 then ⟨2 * (t + r.L.length), 0, 0⟩ else ⟨(slAt r.L t).st, (slAt r.L t).v, (slAt r.L t).left - 2 ^ j.toNat⟩) } m (N.set c P14.z) := by
  have hT0 := h.W.I.ti
  have hLl := h.W.I.Ll
  have hHl := h.W.I.hl
  have h6 := h.n6
  have hL0 : 0 < r.L.length := by omega
  obtain ⟨hj0, hj1, ht0, ht1, hv⟩ : 0 ≤ j ∧ j < q ∧ 0 ≤ t ∧ t < rHead r j ∧ m.l.getD t.toNat 0 = v := by
    rcases h.P c hc with e2 | ⟨h1, -⟩ | ⟨h1, h2, h3, h4, h5, h6, -⟩
    · rw [hx] at e2; cases e2
    · rw [hx] at h1; exact absurd h1 ne21
    · rw [hx] at h2 h3 h4 h5 h6; exact ⟨h2, h3, h4, h5, h6⟩
  have hhj := h.W.I.headAt hj0 hj1
  obtain ⟨-, -, -, a4⟩ := h.W.at_t hp t
  obtain ⟨b1, b2, -, -⟩ := a4 (by omega)
  generalize hy : (if (slAt r.L t).left - 2 ^ j.toNat = 0 then (⟨2 * (t + r.L.length), 0, 0⟩ : Sl) else ⟨(slAt r.L t).st, (slAt r.L t).v, (slAt r.L t).left - 2 ^ j.toNat⟩) = y
  have hW : WInv p q (i + 1) { r with L := r.L.set (pl r.L t) y } := by
    have h1 := h.W.step hp hp64 hq hq8 hi ⟨3, j, t, 0⟩ ht0
    have e : (rDo r ⟨3, j, t, 0⟩).2.2 = { r with L := r.L.set (pl r.L t) y } := by
      have hk : kd ⟨3, j, t, 0⟩ = 3 := by unfold kd; show IntKind.u64.wrap 3 % 5 = 3; decide
      have hg : sGot r.L r.heads.length j t = 0 := by unfold sGot; rw [if_pos ⟨by omega, hj0, by omega⟩, if_neg (by omega), if_neg (by omega), if_pos hbj]
      unfold rDo; rw [if_neg (by omega), if_neg (by omega), if_neg (by omega), if_pos hk]; unfold rRelease
      dsimp only
      rw [if_pos (by unfold rIs; rw [decide_eq_true hj0, decide_eq_true (by omega)]; rfl), if_neg (by omega)]; unfold sGet; rw [if_pos hg, hy]
    rw [e] at h1; exact h1
  obtain ⟨l, hl⟩ := Int.eq_ofNat_of_zero_le (show 0 ≤ (slAt r.L t).left by omega)
  have hp8 : (2 : Int) ^ q ≤ 256 := pow_le8 hq8
  have hbl := fun k : Fin 8 => bits_less ⟨l, by omega⟩ ⟨j.toNat, by omega⟩ k (by dsimp only; rw [← hl, Int.toNat_of_nonneg hj0]; exact hbj)
  have hoff := bits_off14 ⟨l, by omega⟩ ⟨j.toNat, by omega⟩ (by dsimp only; rw [← hl, Int.toNat_of_nonneg hj0]; exact hbj)
  dsimp only at hbl hoff
  rw [← hl] at hbl hoff
  rw [Int.toNat_of_nonneg hj0] at hoff
  -- the place behind
  have hY : (y.st = 2 * (t + p) ∧ ∀ k, 0 ≤ k → k < (q : Int) → k ≠ j → bitOf (slAt r.L t).left k = false) ∨ (y.st = 2 * t + 1 ∧ y.v = (slAt r.L t).v ∧ bitOf y.left j = false ∧ ∀ k, 0 ≤ k → k < (q : Int) → k ≠ j → bitOf y.left k = bitOf (slAt r.L t).left k) := by
    by_cases hz : (slAt r.L t).left - 2 ^ j.toNat = 0
    · rw [if_pos hz] at hy
      left
      refine ⟨by rw [← hy, hLl], fun k hk0 hk1 hkj => ?_⟩
      have := (hbl ⟨k.toNat, by omega⟩).2.2 hz (fun e => hkj (by have e2 : k.toNat = j.toNat := (by simpa using e); omega))
      dsimp only at this
      rw [Int.toNat_of_nonneg hk0] at this
      exact this
    · rw [if_neg hz] at hy
      right
      refine ⟨by rw [← hy]; exact he, by rw [← hy], by rw [← hy]; exact hoff, fun k hk0 hk1 hkj => ?_⟩
      have := (hbl ⟨k.toNat, by omega⟩).2.1 (fun e => hkj (by have e2 : k.toNat = j.toNat := (by simpa using e); omega))
      dsimp only at this
      rw [Int.toNat_of_nonneg hk0] at this
      rw [← hy]; exact this
  clear hy hbl hoff a4
  have hN : ∀ d, d < 6 → atP (N.set c P14.z) d = if d = c then P14.z else atP N d := fun d hd => atP_set (by omega) (by omega)
  have hs : ∀ u, slAt (r.L.set (pl r.L t) y) u = if u % (p : Int) = t % (p : Int) then y else slAt r.L u := fun u => by rw [slAt_set hL0, hLl]
  have hsame : ∀ u, u % (p : Int) = t % (p : Int) → slAt r.L u = slAt r.L t := fun u hu => by
    unfold slAt; rw [(pl_eq (t := u) (u := t) hL0).2 (by rw [hLl]; exact hu)]
  have keepS : ∀ u, Snd N u → Snd (N.set c P14.z) u := fun u hr => hr.keep h6 hc (fun hk => by rw [hx] at hk; exact absurd hk ne21)
  have keepR : ∀ k u, (k ≠ j ∨ u ≠ t) → Rcv N k u → Rcv (N.set c P14.z) k u := fun k u hne hr => hr.keep h6 hc (fun _ hk2 hk3 => by rw [hx] at hk2 hk3; rcases hne with e | e; exact e hk2.symm; exact e hk3.symm)
  have hup : ∀ u, u % (p : Int) = t % (p : Int) → t < u → t + p ≤ u := fun u hu hlt => cong_le (by omega) hu.symm hlt
  refine ⟨hW, h.tl, h.tg, h.tc, h.tm, by simpa using h6, fun u hu hst => ?_, fun d hd => ?_, fun a b ha hb hab => ?_, fun u h0 h1 h2 => ?_, fun u hu hst k hk0 hk1 hb => ?_, fun u hsn k hk0 hk1 => ?_⟩
  · dsimp only at hst ⊢
    rw [hs] at hst ⊢
    by_cases e : u % (p : Int) = t % (p : Int)
    · rw [if_pos e] at hst ⊢
      rcases hY with ⟨y1, -⟩ | ⟨y1, y2, -⟩
      · omega
      · have : u = t := by omega
        subst this
        rw [y2]; exact h.V u hu he
    · rw [if_neg e] at hst ⊢; exact h.V u hu hst
  · rw [hN d hd]
    by_cases e : d = c
    · rw [if_pos e]; exact .inl rfl
    · rw [if_neg e]
      have hU := h.U c d hc hd (Ne.symm e)
      rw [hx] at hU
      rcases h.P d hd with e2 | ⟨h1, h2, h3, h4, h5⟩ | ⟨h1, h2, h3, h4, h5, h6, h7, h8⟩
      · exact .inl e2
      · refine .inr (.inl ⟨h1, h2, h3, h4, ?_⟩)
        dsimp only; rw [hs]
        by_cases e3 : (atP N d).t % (p : Int) = t % (p : Int)
        · rw [if_pos e3]
          rw [hsame _ e3, he] at h5
          have := hup _ e3 (by omega)
          rcases hY with ⟨y1, -⟩ | ⟨y1, -⟩ <;> omega
        · rw [if_neg e3]; exact h5
      · refine .inr (.inr ⟨h1, h2, h3, h4, h5, h6, ?_, ?_⟩)
        · dsimp only; rw [hs]
          by_cases e3 : (atP N d).t % (p : Int) = t % (p : Int)
          · rw [if_pos e3]
            rw [hsame _ e3, he] at h7 h8
            rcases hY with ⟨y1, y2⟩ | ⟨y1, -⟩
            · by_cases e4 : (atP N d).t = t
              · have hj := hU.2 rfl h1
                dsimp only at hj
                have h9 := y2 _ h2 h3 (fun e5 => hj e5.symm e4.symm)
                have h10 := h8 (by omega)
                rw [h9] at h10; cases h10
              · have := hup _ e3 (by omega)
                omega
            · omega
          · rw [if_neg e3]; exact h7
        · dsimp only; rw [hs]
          by_cases e3 : (atP N d).t % (p : Int) = t % (p : Int)
          · rw [if_pos e3]
            rw [hsame _ e3, he] at h7 h8
            intro h9
            rcases hY with ⟨y1, -⟩ | ⟨y1, y2, y3, y4⟩
            · omega
            · have e4 : (atP N d).t = t := by omega
              have hj := hU.2 rfl h1
              dsimp only at hj
              rw [y4 _ h2 h3 (fun e5 => hj e5.symm e4.symm)]
              exact h8 (by omega)
          · rw [if_neg e3]; exact h8
  · rw [hN a ha, hN b hb]
    by_cases e : a = c
    · rw [if_pos e]; exact ⟨fun hk => absurd hk (by decide), fun hk => absurd hk (by decide)⟩
    · rw [if_neg e]
      by_cases e2 : b = c
      · rw [if_pos e2]; exact ⟨fun _ hk => absurd hk (by decide), fun _ hk => absurd hk (by decide)⟩
      · rw [if_neg e2]; exact h.U a b ha hb hab
  · dsimp only at h2; rw [hs] at h2
    refine keepS u (h.F u h0 h1 ?_)
    by_cases e : u % (p : Int) = t % (p : Int)
    · rw [if_pos e] at h2
      rw [hsame _ e, he]
      rcases hY with ⟨y1, -⟩ | ⟨y1, -⟩ <;> omega
    · rw [if_neg e] at h2; exact h2
  · dsimp only at hst hb; rw [hs] at hst hb
    by_cases e : u % (p : Int) = t % (p : Int)
    · rw [if_pos e] at hst hb
      rcases hY with ⟨y1, -⟩ | ⟨y1, y2, y3, y4⟩
      · omega
      · have e2 : u = t := by omega
        subst e2
        by_cases e3 : k = j
        · subst e3; rw [y3] at hb; cases hb
        · rw [y4 k hk0 hk1 e3] at hb
          rcases h.B u hu he k hk0 hk1 hb with h1 | h1
          · exact .inl h1
          · exact .inr (keepR _ _ (.inl e3) h1)
    · rw [if_neg e] at hst hb
      rcases h.B u hu hst k hk0 hk1 hb with h1 | h1
      · exact .inl h1
      · exact .inr (keepR _ _ (.inr (fun e2 => e (by rw [e2]))) h1)
  · rcases hsn.of_set h6 hc with h1 | ⟨h1, -⟩
    · rcases h.S u h1 k hk0 hk1 with h2 | h2
      · exact .inl h2
      · refine .inr (keepR _ _ ?_ h2)
        right
        rintro rfl
        obtain ⟨d, hd, g1, g2⟩ := h1
        rcases h.P d hd with e2 | ⟨g3, g4, g5, g6, g7⟩ | ⟨g3, -⟩
        · rw [e2] at g1; exact absurd g1 (by decide)
        · rw [g2, he] at g7; omega
        · omega
    · exact absurd h1 (by decide)
end
end Go.Proofs.Ytmejnhfggmmefaa.H
