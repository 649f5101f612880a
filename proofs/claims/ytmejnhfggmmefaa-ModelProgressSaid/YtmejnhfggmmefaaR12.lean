/- Layer 12's reference (rondeauref12): bit, all, with, New, Put, Get, Same. No condition. -/
import Derived.Test.YtmejnhfggmmefaaSlF
import Derived.Test.YtmejnhfggmmefaaL12O
namespace Go.Proofs.Ytmejnhfggmmefaa.H
open Go.RowKit
set_option linter.unusedVariables false
set_option linter.unusedSimpArgs false
variable {w : World} {L : List Sl} {R : Nat} {t v j : Int}

theorem bit_halves (l i j : Nat) (hl : l < 256) (hi : i ≤ j) (hj : j < 8) : ((l / 2 ^ i : Nat) : Int) = (l : Int) / 2 ^ i := by simp
set_option maxRecDepth 100000 in
set_option maxHeartbeats 3200000 in
theorem RBit (l j : Nat) (hl : l < 256) (hj : j < 8) : Calls Try.prog 92 #[.int .i64 l, .int .i64 j] w fun e w' => e = .returned (.bool (bitOf l j)) ∧ w' = w := by
  go_enter Try.func92, Try.ntmps92
  go_wp2
  go_loopw [0, 5] (fun v0 v5 wr => ∃ k : Nat, k ≤ j ∧ v5 = .int .i64 k ∧ v0 = .int .i64 ((l / 2 ^ k : Nat) : Int) ∧ wr = w) (fun _ v5 _ => j - (intOf v5).toNat)
  case atStart => exact ⟨0, Nat.zero_le _, rfl, by simp, rfl⟩
  case round =>
    obtain ⟨k, hk, rfl, rfl, rfl⟩ := hrel
    have hle : l / 2 ^ k ≤ l := Nat.div_le_self _ _
    have hn : l / 2 ^ (k + 1) = l / 2 ^ k / 2 := by rw [Nat.pow_succ, Nat.div_div_eq_div_mul]
    have hb := show bitOf l j = (((l / 2 ^ j : Nat) : Int) % 2 == 1) from by unfold bitOf; simp
    have HB := As.mk hb
    have HN := As.mk hn
    clear hb hn
    by_cases hlt : k < j
    · generalize hq : l / 2 ^ k = q at hle HN ⊢
      have e1 : Int.tdiv (q : Int) 2 = ((q / 2 : Nat) : Int) := by rw [Int.tdiv_eq_ediv_of_nonneg (by omega)]; simp
      have e2 : wrap64 ((q / 2 : Nat) : Int) = ((q / 2 : Nat) : Int) := by unfold wrap64; omega
      have hlt2 : (k : Int) < (j : Int) := by omega
      clear hq
      go_wp2
      exact ⟨⟨k + 1, by omega, by go_num, by rw [HN.out]; simp, by first | rfl | trivial⟩, by simp [intOf]; omega⟩
    · have : k = j := by omega
      subst this
      generalize hq : l / 2 ^ k = q at hle HN HB ⊢
      have e1 : Int.tmod (q : Int) 2 = (q : Int) % 2 := Int.tmod_eq_emod_of_nonneg (by omega)
      clear HN hq
      go_wp2
      go_ret
      exact ⟨by rw [HB.out]; rfl, by first | rfl | trivial⟩
set_option maxRecDepth 100000 in
set_option maxHeartbeats 3200000 in
theorem RAll (r : Nat) (hr : r ≤ 8) : Calls Try.prog 93 #[.int .i64 r] w fun e w' => e = .returned (.int .i64 (2 ^ r - 1)) ∧ w' = w := by
  go_enter Try.func93, Try.ntmps93
  go_wp2
  go_loopw [3, 4] (fun v3 v4 wr => ∃ k : Nat, k ≤ r ∧ v4 = .int .i64 k ∧ v3 = .int .i64 (2 ^ k) ∧ wr = w) (fun _ v4 _ => r - (intOf v4).toNat)
  case atStart => exact ⟨0, Nat.zero_le _, rfl, by simp, rfl⟩
  case round =>
    obtain ⟨k, hk, rfl, rfl, rfl⟩ := hrel
    have h8 := pow_le8 (R := k) (by omega)
    have h0 := pow_pos' k
    have HN := As.mk (show (2 : Int) ^ (k + 1) = 2 * 2 ^ k from by rw [Int.pow_succ, Int.mul_comm])
    by_cases hlt : k < r
    · generalize hq : (2 : Int) ^ k = q at h8 h0 HN ⊢
      have e2 : wrap64 (2 * q) = 2 * q := by unfold wrap64; omega
      have hlt2 : (k : Int) < (r : Int) := by omega
      clear hq
      go_wp2
      exact ⟨⟨k + 1, by omega, by go_num, by rw [HN.out], by first | rfl | trivial⟩, by simp [intOf]; omega⟩
    · have : k = r := by omega
      subst this
      generalize hq : (2 : Int) ^ k = q at h8 h0 HN ⊢
      have e2 : wrap64 (q - 1) = q - 1 := by unfold wrap64; omega
      have HQ := As.mk hq
      clear hq
      go_wp2
      go_ret
      exact ⟨by rw [HQ.out]; rfl, by first | rfl | trivial⟩

/-- Three blocks and an empty one are made, and a row of their own grows. -/
theorem made3 {w w' : World} {c0 c1 c2 c3 : Array Value} {t0 t1 t2 t3 : TypeId} {v : Value} (hv : ∀ k, v.ownBlock = some k → k = w.heap.size + 1 + 1 + 1)
    (h : ((((w.alloc (.cells c0 t0)).alloc (.cells c1 t1)).alloc (.cells c2 t2)).alloc (.cells c3 t3)).grownBy w' v.ownBlock) :
    w'.heap[w.heap.size]? = some (.cells c0 t0 (0, 0)) ∧ w'.heap[w.heap.size + 1]? = some (.cells c1 t1 (0, 0)) ∧ w'.heap[w.heap.size + 1 + 1]? = some (.cells c2 t2 (0, 0)) ∧ Kp no w w' ∧ w.heap.size + 1 + 1 + 1 < w'.heap.size := by
  have hK : Kp no w ((((w.alloc (.cells c0 t0)).alloc (.cells c1 t1)).alloc (.cells c2 t2)).alloc (.cells c3 t3)) := ((((Kp.refl no w).alloc _).alloc _).alloc _).alloc _
  have hs : ((((w.alloc (.cells c0 t0)).alloc (.cells c1 t1)).alloc (.cells c2 t2)).alloc (.cells c3 t3)).heap.size = w.heap.size + 1 + 1 + 1 + 1 := by simp
  have e0 := bk_alloc (bk_alloc (bk_alloc (heap_alloc_new w (.cells c0 t0)) (.cells c1 t1)) (.cells c2 t2)) (.cells c3 t3)
  have e1 := bk_alloc (bk_alloc (heap_alloc_new (w.alloc (.cells c0 t0)) (.cells c1 t1)) (.cells c2 t2)) (.cells c3 t3)
  have e2 := bk_alloc (heap_alloc_new ((w.alloc (.cells c0 t0)).alloc (.cells c1 t1)) (.cells c2 t2)) (.cells c3 t3)
  have s1 : (w.alloc (.cells c0 t0)).heap.size = w.heap.size + 1 := by simp
  have s2 : ((w.alloc (.cells c0 t0)).alloc (.cells c1 t1)).heap.size = w.heap.size + 1 + 1 := by simp
  rw [s1] at e1
  rw [s2] at e2
  have hn : ∀ k, k < w.heap.size + 1 + 1 + 1 → ¬ v.ownBlock = some k := fun k hk e => by have := hv k e; omega
  refine ⟨(h.block _ (by omega) ?_).trans e0, (h.block _ (by omega) ?_).trans e1, (h.block _ (by omega) ?_).trans e2, hK.grown h (fun k e hk => by have := hv k e; omega), by have := h.size; omega⟩
  · exact fun e => hn _ (by omega) e.symm
  · exact fun e => hn _ (by omega) e.symm
  · exact fun e => hn _ (by omega) e.symm

def slV (x : Sl) : Value := .agg #[.int .u64 x.st, .int .u64 x.v, .int .i64 x.left]
set_option maxRecDepth 100000 in
set_option maxHeartbeats 3200000 in
theorem RWith {vv : Value} (h : Rd w vv L.length (slCells L)) (hle : L.length ≤ 64) (i : Nat) (hi : i < L.length) (x : Sl) :
    Calls Try.prog 94 #[.agg #[vv, .int .i64 R], .int .i64 i, .agg #[.int .u64 x.st, .int .u64 x.v, .int .i64 x.left]] w fun e w' => ∃ v', e = .returned (.agg #[v', .int .i64 R]) ∧ Rd w' v' L.length (slCells (L.set i x)) ∧ Kp no w w' ∧ (∀ k, v'.ownBlock = some k → w.heap.size ≤ k) := by
  have hx0 : 0 < (slCells L).length := by rw [slCells_len]; omega
  obtain ⟨ab, ao, c, rfl, hc1, hc2, hc⟩ := h.form hx0
  obtain ⟨i0, hi0, hz0, hz1, hz2⟩ := info_parts Try.infoSlot
  have HC := As.mk hc
  have hsrc : ab < w.heap.size := by
    have h0 := hc 0 _ (List.getElem?_eq_getElem hx0)
    exact World.block_lt_of_cell? _ _ h0
  have HR := As.mk h
  clear hc h hx0
  generalize hb0 : w.heap.size = b0 at hsrc
  have HB0 := As.mk hb0
  clear hb0
  go_enter Try.func94, Try.ntmps94
  have hown0 : ((((w.alloc (.cells #[.slice (some ⟨ab, ao, none⟩) L.length c, .int .i64 R] 60)).alloc (.cells #[.int .u64 x.st, .int .u64 x.v, .int .i64 x.left] 119)).alloc (.cells #[.slice none 0 0, .int .i64 0] 60)).alloc (.cells #[] 119)).ownsRow (b0 + 1 + 1 + 1) 119 3 (.slice (some ⟨b0 + 1 + 1 + 1, 0, none⟩) 0 0) 0 [] := by
    have := World.ownsRow_made (base := b0 + 1 + 1 + 1) (e := 119) (size := 3) (((w.alloc (.cells #[.slice (some ⟨ab, ao, none⟩) L.length c, .int .i64 R] 60)).alloc (.cells #[.int .u64 x.st, .int .u64 x.v, .int .i64 x.left] 119)).alloc (.cells #[.slice none 0 0, .int .i64 0] 60)) #[] 0 (by simp [HB0.out]) (Nat.zero_le _) rfl
    simpa [HB0.out] using this
  have hcell0 : ∀ j u, (slCells L)[j]? = some u → ((((w.alloc (.cells #[.slice (some ⟨ab, ao, none⟩) L.length c, .int .i64 R] 60)).alloc (.cells #[.int .u64 x.st, .int .u64 x.v, .int .i64 x.left] 119)).alloc (.cells #[.slice none 0 0, .int .i64 0] 60)).alloc (.cells #[] 119)).cell? ((⟨ab, ao, none⟩ : Addr).add j) = some u := fun j u hj => by
    rw [add_none]
    have h := HC.out j u hj
    have hK : Kp no w ((((w.alloc (.cells #[.slice (some ⟨ab, ao, none⟩) L.length c, .int .i64 R] 60)).alloc (.cells #[.int .u64 x.st, .int .u64 x.v, .int .i64 x.left] 119)).alloc (.cells #[.slice none 0 0, .int .i64 0] 60)).alloc (.cells #[] 119)) := ((((Kp.refl no w).alloc _).alloc _).alloc _).alloc _
    rw [World.cell?_of_block (hK.block ab (by rw [HB0.out]; exact hsrc) (fun x => x))]; exact h
  have HO := As.mk hown0
  have HCC := As.mk hcell0
  clear hown0 hcell0
  go_wp2_with (rw [HB0.out]; at_builtin; refine wpList_append_own_at _ (by rfl) _ _ 58 (by rfl) (b0 + 1 + 1 + 1) 119 i0 _ 3 24 Try.underlying58 hi0 hz0 hz1 hz2 (by rfl) (by decide) (.slice (some ⟨b0 + 1 + 1 + 1, 0, none⟩) 0 0) 0 [] (by rfl) HO.out ⟨ab, ao, none⟩ L.length c (slCells L) (by rfl) (slCells_len L) HCC.out (slCells_one L) (by unfold maxLen; omega) (by omega) (by simp [HB0.out]) ?_; intro v' w' hown hgrow _ _; rw [List.nil_append, Nat.zero_add] at hown; obtain ⟨g, c', rfl, hg⟩ := or_some hown (by omega); obtain ⟨m0, m1, m2, hK, hsz⟩ := made3 (fun k hk => by rw [HB0.out]; exact (Option.some.inj hk).symm) hgrow; rw [HB0.out] at m0 m1 m2 hsz; have M := As.mk (And.intro m0 (And.intro m1 (And.intro m2 (And.intro hown hK)))); have e01 := bk_cell m0 1; have e10 := bk_cell m1 0; have e11 := bk_cell m1 1; have e12 := bk_cell m1 2; have z0 := bk_fz m0 0; have z20 := bk_fz m2 0; have z21 := bk_fz m2 1; have e00 := bk_cell m0 0; have e20 := bk_cell m2 0; have e21 := bk_cell m2 1; have g0 : ¬ g = b0 := (by omega); have g1 : ¬ g = b0 + 1 := (by omega); have g2 : ¬ g = b0 + 1 + 1 := (by omega); have g0' : ¬ b0 = g := (by omega); have g1' : ¬ b0 + 1 = g := (by omega); have g2' : ¬ b0 + 1 + 1 = g := (by omega); have zg := fun i => hown.frozenAt (g := g) i; obtain ⟨k0, k1, k2⟩ := slCells_get L i hi; replace k0 := or_cell hown _ _ k0; replace k1 := or_cell hown _ _ k1; replace k2 := or_cell hown _ _ k2; clear m0 m1 m2 hown hgrow hK)
  obtain ⟨m0, m1, m2, hown, hK⟩ := M.out
  have hb0 := HB0.out
  clear e01 e10 e11 e12 z0 z20 z21 e00 e20 e21 zg k0 k1 k2 HO HCC HC
  have q1 := bk_far m2 (p := ⟨b0, 0, none⟩) (by show b0 + 1 + 1 ≠ b0; omega) (.slice (some ⟨g, 0, none⟩) L.length c')
  have q2 := bk_far (bk_far (bk_far q1 (p := ⟨g, i * 3, none⟩) g2' (.int .u64 x.st)) (p := ⟨g, i * 3 + 1, none⟩) g2' (.int .u64 x.v)) (p := ⟨g, i * 3 + 2, none⟩) g2' (.int .i64 x.left)
  have q3 := bk_set (cs' := #[.slice (some ⟨g, 0, none⟩) L.length c', .int .i64 0]) q2 0 (.slice (some ⟨g, 0, none⟩) L.length c') rfl
  have q4 := bk_set (cs' := #[.slice (some ⟨g, 0, none⟩) L.length c', .int .i64 R]) q3 1 (.int .i64 R) rfl
  have o1 := or_kp hown ((Kp.refl (· = b0) w').setCell ⟨b0, 0, none⟩ rfl (.slice (some ⟨g, 0, none⟩) L.length c')) (fun b hb e => g0 (by rw [← e]; exact Option.some.inj hb))
  have o2 := (((o1.stored (i * 3) (.int .u64 x.st)).1.stored (i * 3 + 1) (.int .u64 x.v)).1.stored (i * 3 + 2) (.int .i64 x.left)).1
  rw [slCells_set L i hi x] at o2
  have hKs : ∀ W : World, Kp (· = b0 + 1 + 1) W ((W.setCell ⟨b0 + 1 + 1, 0, none⟩ (.slice (some ⟨g, 0, none⟩) L.length c')).setCell ⟨b0 + 1 + 1, 1, none⟩ (.int .i64 R)) := fun W => ((Kp.refl (· = b0 + 1 + 1) W).setCell ⟨b0 + 1 + 1, 0, none⟩ rfl _).setCell ⟨b0 + 1 + 1, 1, none⟩ rfl _
  have o3 := or_kp o2 (hKs _) (fun b hb e => g2 (by rw [← e]; exact Option.some.inj hb))
  have HB := As.mk q4
  have HO := As.mk (Rd.of_own o3)
  have hKf := (((((hK.setNew ⟨b0, 0, none⟩ (by rw [hb0]; exact Nat.le_refl _) (.slice (some ⟨g, 0, none⟩) L.length c')).setNew ⟨g, i * 3, none⟩ (by rw [hb0]; show b0 ≤ g; omega) (.int .u64 x.st)).setNew ⟨g, i * 3 + 1, none⟩ (by rw [hb0]; show b0 ≤ g; omega) (.int .u64 x.v)).setNew ⟨g, i * 3 + 2, none⟩ (by rw [hb0]; show b0 ≤ g; omega) (.int .i64 x.left)).setNew ⟨b0 + 1 + 1, 0, none⟩ (by rw [hb0]; show b0 ≤ b0 + 1 + 1; omega) (.slice (some ⟨g, 0, none⟩) L.length c')).setNew ⟨b0 + 1 + 1, 1, none⟩ (by rw [hb0]; show b0 ≤ b0 + 1 + 1; omega) (.int .i64 R)
  have HK := As.mk hKf
  clear q1 q2 q3 q4 o1 o2 o3 hKs hKf m0 m1 m2 hown hK
  refine bodyPost_ret (results_cell_row rfl _ _ (b0 + 1 + 1) 60 #[.slice (some ⟨g, 0, none⟩) L.length c', .int .i64 R] (0, 0) _ rfl HB.out Try.underlying60 rfl (by kernel_rfl)) rfl ?_
  exact ⟨_, rfl, HO.out, HK.out, fun k hk => by have e : g = k := Option.some.inj hk; omega⟩
end Go.Proofs.Ytmejnhfggmmefaa.H
