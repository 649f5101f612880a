/- Layer 12's reference: New. No condition. -/
import Derived.Test.YtmejnhfggmmefaaR12B
namespace Go.Proofs.Ytmejnhfggmmefaa.H
open Go.RowKit
set_option linter.unusedVariables false
set_option linter.unusedSimpArgs false
variable {w : World} {L : List Sl} {R : Nat} {t v j : Int}

theorem sNew_succ (k : Nat) : sNew (k + 1) = sNew k ++ [⟨2 * (k : Int), 0, 0⟩] := by unfold sNew; rw [List.range_succ, List.map_append]; rfl
theorem slCells_new (k : Nat) : slCells (sNew (k + 1)) = slCells (sNew k) ++ [.int .u64 (2 * (k : Int)), .int .u64 0, .int .i64 0] := by rw [sNew_succ, slCells_append]; rfl

set_option maxRecDepth 100000 in
set_option maxHeartbeats 3200000 in
theorem RNew (bb : Nat → Prop) (p : Nat) (hp : p ≤ 64) (hbb : ∀ k, bb k → k < w.heap.size) : Calls Try.prog 36 #[.int .i64 p, .int .i64 R] w fun e w' => ∃ vv, e = .returned vv ∧ RS bb w' vv (sNew p) R ∧ Kp no w w' := by
  obtain ⟨i0, hi0, hz0, hz1, hz2⟩ := info_parts Try.infoSlot
  go_enter Try.func36, Try.ntmps36
  go_wp2
  obtain ⟨m0, m1, hK, hs⟩ := alloc2 (w := w) #[.slice none 0 0, .int .i64 0] #[.slice none 0 0, .int .i64 R] 60 60
  generalize (w.alloc (Obj.cells #[.slice none 0 0, .int .i64 0] 60)).alloc (Obj.cells #[.slice none 0 0, .int .i64 R] 60) = W at m0 m1 hK hs ⊢
  generalize hb0 : w.heap.size = b0 at m0 m1 hs ⊢
  have hown0 := World.ownsRow_nil W (b0 + 1 + 1) 119 3
  go_loopw [6] (fun v6 wr => ∃ (k : Nat) (A : Option Addr) (c : Nat), k ≤ p ∧ v6 = .int .i64 k ∧ As (wr.heap[b0]? = some (.cells #[.slice none 0 0, .int .i64 0] 60 (0, 0)) ∧ wr.heap[b0 + 1]? = some (.cells #[.slice A k c, .int .i64 R] 60 (0, 0)) ∧ wr.ownsRow (b0 + 1 + 1) 119 3 (.slice A k c) k (slCells (sNew k))) ∧ Kp no w wr ∧ b0 + 1 + 1 ≤ wr.heap.size) (fun v6 _ => p - (intOf v6).toNat)
  case atStart => exact ⟨0, none, 0, Nat.zero_le _, rfl, ⟨m0, m1, hown0⟩, hK, by omega⟩
  case round =>
    clear m0 m1 hK hown0 hs
    obtain ⟨k, A, c, hk, rfl, hM, hK, hsz⟩ := hrel
    obtain ⟨m0, m1, hown⟩ := hM.out
    by_cases hlt : k < p
    · have e0 := bk_cell m1 0
      have hltb : b0 + 1 < wr.heap.size := by omega
      have e0a : (wr.alloc (.cells #[.int .u64 (2 * (k : Int)), .int .u64 0, .int .i64 0] 119)).heap[b0]? = _ := bk_alloc m0 _
      have e1a : (wr.alloc (.cells #[.int .u64 (2 * (k : Int)), .int .u64 0, .int .i64 0] 119)).heap[b0 + 1]? = _ := bk_alloc m1 _
      have hKa : Kp no w (wr.alloc (.cells #[.int .u64 (2 * (k : Int)), .int .u64 0, .int .i64 0] 119)) := hK.alloc _
      have hown1 : (wr.alloc (.cells #[.int .u64 (2 * (k : Int)), .int .u64 0, .int .i64 0] 119)).ownsRow (b0 + 1 + 1) 119 3 (.slice A k c) k (slCells (sNew k)) := hown.alloc _
      have hnew : ∀ j u, [Value.int .u64 (2 * (k : Int)), .int .u64 0, .int .i64 0][j]? = some u → (wr.alloc (.cells #[.int .u64 (2 * (k : Int)), .int .u64 0, .int .i64 0] 119)).cell? ((⟨wr.heap.size, 0, none⟩ : Addr).add j) = some u := fun j u hj => by
        have h := bk_cell (heap_alloc_new wr (.cells #[.int .u64 (2 * (k : Int)), .int .u64 0, .int .i64 0] 119)) j
        rw [add_none, Nat.zero_add, h]; simpa using hj
      have HA := As.mk (And.intro e0a (And.intro e1a (And.intro hKa (And.intro hown1 hnew))))
      have hw : IntKind.u64.wrap (k : Int) = (k : Int) := by rw [IntKind.wrap_u64]; omega
      have hw2 : IntKind.u64.wrap (2 * (k : Int)) = 2 * (k : Int) := by rw [IntKind.wrap_u64]; omega
      have hlt2 : (k : Int) < (p : Int) := by omega
      have hlen : (slCells (sNew k)).length = k * 3 := by rw [slCells_len]; simp [sNew]
      have HLN := As.mk hlen
      clear m0 m1 hown hM e0a e1a hKa hown1 hnew hlen hK
      go_wp2_with (at_builtin; refine wpList_append_own_at _ (by rfl) _ _ 58 (by rfl) (b0 + 1 + 1) 119 i0 _ 3 24 Try.underlying58 hi0 hz0 hz1 hz2 (by rfl) (by decide) (.slice A k c) k (slCells (sNew k)) (by rfl) HA.out.2.2.2.1 ⟨wr.heap.size, 0, none⟩ 1 1 [.int .u64 (2 * (k : Int)), .int .u64 0, .int .i64 0] (by rfl) (by rfl) HA.out.2.2.2.2 (by simp [Value.oneCell']) (by unfold maxLen; omega) (by omega) (by simp; omega) ?_; intro v' w' hown hgrow _ hat; obtain ⟨A', c', rfl⟩ := or_form hown; have hne1 : ∀ q, q < b0 + 1 + 1 → ¬ some q = (Value.slice A k c).ownBlock := (fun q hq e => by have := (HA.out.2.2.2.1.lt q e.symm).1; omega); have hG0 := As.mk ((hgrow.block b0 (by simp; omega) (hne1 b0 (by omega))).trans HA.out.1); have hG1 := As.mk ((hgrow.block (b0 + 1) (by simp; omega) (hne1 (b0 + 1) (by omega))).trans HA.out.2.1); have f10 := bk_cell hG1.out 0; have z10 := bk_fz hG1.out 0; have HO := As.mk hown; have HG := As.mk hgrow; clear hown hgrow hat hne1)
      have hown := HO.out
      rw [← slCells_new] at hown
      have hgrow := HG.out
      have q0 := bk_far hG0.out (p := ⟨b0 + 1, 0, none⟩) (by show b0 ≠ b0 + 1; omega) (.slice A' (k + 1) c')
      have q1 := bk_set (cs' := #[.slice A' (k + 1) c', .int .i64 R]) hG1.out 0 (.slice A' (k + 1) c') rfl
      have hK2 : Kp no w w' := HA.out.2.2.1.grown hgrow (fun q e hq => by have := (HA.out.2.2.2.1.lt q e).1; omega)
      have o2 := or_kp hown ((Kp.refl (· = b0 + 1) w').setCell ⟨b0 + 1, 0, none⟩ rfl (.slice A' (k + 1) c')) (fun b hb e => by have := (hown.lt b hb).1; omega)
      have hsz2 : b0 + 1 + 1 ≤ (w'.setCell ⟨b0 + 1, 0, none⟩ (.slice A' (k + 1) c')).heap.size := by
        have h1 := hgrow.size
        simp at h1
        simp [World.setCell]; omega
      exact ⟨⟨k + 1, A', c', by omega, by go_num, ⟨q0, q1, o2⟩, hK2.setNew ⟨b0 + 1, 0, none⟩ (by show w.heap.size ≤ b0 + 1; omega) _, hsz2⟩, by simp [intOf]; omega⟩
    · have hkp : k = p := by omega
      subst hkp
      have e0 := bk_cell m1 0
      have e1 := bk_cell m1 1
      have d0 := bk_cell m0 0
      have d1 := bk_cell m0 1
      have z0 := bk_fz m0 0
      have z1 := bk_fz m0 1
      have HA := As.mk (And.intro m0 (And.intro m1 hown))
      clear m0 m1 hown hM
      go_wp2
      obtain ⟨m0, m1, hown⟩ := HA.out
      have q1 := bk_set (cs' := #[.slice A k c, .int .i64 0]) m0 0 (.slice A k c) rfl
      have q2 := bk_set (cs' := #[.slice A k c, .int .i64 R]) q1 1 (.int .i64 R) rfl
      refine bodyPost_ret (results_cell_row rfl _ _ b0 60 #[.slice A k c, .int .i64 R] (0, 0) _ rfl q2 Try.underlying60 rfl (by kernel_rfl)) rfl ?_
      have hlen : (sNew k).length = k := by simp [sNew]
      have o2 := or_kp hown (((Kp.refl (· = b0) wr).setCell ⟨b0, 0, none⟩ rfl (.slice A k c)).setCell ⟨b0, 1, none⟩ rfl (.int .i64 R)) (fun b hb e => by have := (hown.lt b hb).1; omega)
      refine ⟨_, rfl, ⟨_, rfl, by rw [hlen]; exact Rd.of_own o2, fun q hq e => by have := (hown.lt q hq).1; have := hbb q e; omega⟩, (hK.setNew ⟨b0, 0, none⟩ (by show w.heap.size ≤ b0; omega) (.slice A k c)).setNew ⟨b0, 1, none⟩ (by show w.heap.size ≤ b0; omega) (.int .i64 R)⟩
end Go.Proofs.Ytmejnhfggmmefaa.H
