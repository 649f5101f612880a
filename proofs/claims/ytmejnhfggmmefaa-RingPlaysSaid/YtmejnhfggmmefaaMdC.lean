/- Layer 14: what model's New does. No condition. -/
import Derived.Test.YtmejnhfggmmefaaMdB
namespace Go.Proofs.Ytmejnhfggmmefaa.H
open Go.RowKit
set_option linter.unusedVariables false
set_option linter.unusedSimpArgs false
variable {w : World}

set_option maxRecDepth 100000 in
set_option maxHeartbeats 1600000 in
theorem MNew_no (k c R : Int) (h : rMay k c R = false) : Calls Try.prog 22 #[.agg #[.int .i64 k, .int .i64 c, .int .i64 R]] w fun e w' => e = .returned (.tuple #[.pointer none, .int .i64 1]) ∧ Kp no w w' := by
  have H := As.mk h
  clear h
  go_enter Try.func22, Try.ntmps22
  go_wp2_with fail
  refine (RNew_no k c R H.out).mono ?_
  rintro e w1 ⟨rfl, hK⟩
  go_wp2
  go_ret2
  exact ⟨rfl, ((Kp.refl _ _).alloc _).trans hK⟩
set_option maxRecDepth 100000 in
set_option maxHeartbeats 3200000 in
theorem MNew_ok (k : Int) (p q : Nat) (h : rMay k p q = true) : Calls Try.prog 22 #[.agg #[.int .i64 k, .int .i64 p, .int .i64 q]] w fun e w' => ∃ B, e = .returned (.tuple #[.pointer (some ⟨B.g, 0, none⟩), .int .i64 0]) ∧
    MdIn w' B ⟨p, [], List.replicate q 0, false⟩ ∧ (∀ i, B.own i → w.heap.size ≤ i) ∧ Kp no w w' := by
  have h1 : mayB p q = true := by unfold rMay at h; rw [Bool.and_eq_true] at h; exact h.1
  have h3 : 1 ≤ (p : Int) ∧ (p : Int) ≤ 64 ∧ 1 ≤ (q : Int) ∧ (q : Int) ≤ 8 := of_decide_eq_true h1
  obtain ⟨i0, hi, hz0, hz1, hz2⟩ := info_parts Try.infoInt
  have H := As.mk h
  have H3 := As.mk h3
  have hmk := fun (w : World) => run_makeSlice_full (P := Try.prog) w w.heap.size 32 3 i0 _ 1 Try.underlying32 hi hz0 hz1 .i64 .i64 q (by omega) (by rw [hz2]; omega) (by unfold maxLen; omega) (Nat.le_refl _)
  have HM := As.mk hmk
  clear h h1 h3 hmk hi hz0 hz1 hz2
  go_enter Try.func22, Try.ntmps22
  go_wp2_with fail
  refine (RNew_ok k p q H.out).mono ?_
  rintro e w2 ⟨RBk, rfl, _, hn, hK⟩
  have hK4 := ((Kp.refl no w).alloc _).trans hK
  have hbk2 : w2.heap[w.heap.size]? = some (.cells #[.int .i64 k, .int .i64 p, .int .i64 q] 23 (0, 0)) := bk_kp (heap_alloc_new _ _) hK (fun x => x)
  have c1 := bk_cell hbk2 1
  have c2 := bk_cell hbk2 2
  change w2.cell? _ = some (.int .i64 p) at c1
  change w2.cell? _ = some (.int .i64 q) at c2
  clear hn hK
  go_wp2
  obtain ⟨w3, hmk, hown, hgr⟩ := HM.out w2.drew
  have hbk3 : w3.heap[w.heap.size]? = some (.cells #[.int .i64 k, .int .i64 p, .int .i64 q] 23 (0, 0)) := (hgr.block _ (bk_lt hbk2) (by simp)).trans hbk2
  have e1 := bk_cell hbk3 1
  have e2 := bk_cell hbk3 2
  change w3.cell? _ = some (.int .i64 p) at e1
  change w3.cell? _ = some (.int .i64 q) at e2
  have hK5 : Kp no w2 w3 := ((Kp.refl no w2).drew).grown hgr (fun k hk => by cases hk)
  have hO := As.mk hown
  have HP := As.mk (show w.heap.size ≤ w2.heap.size from hK4.size)
  clear hown hgr hbk3 hbk2
  change (Instr.makeSlice 32 (.int .i64 (q : Int)) (.int .i64 (q : Int))).run Try.prog w2.drew = .ok (.slice (some ⟨w2.heap.size, 0, none⟩) q q) w3 at hmk
  generalize hpb : w.heap.size = pb at c1 c2 e1 e2 ⊢
  go_region_held3 (fun w' => w'.cell? ⟨pb, 1, none⟩ = some (.int .i64 p) ∧ w'.cell? ⟨pb, 2, none⟩ = some (.int .i64 q)) (first | go_keep | exact ⟨e1, e2⟩) (fail)
  clear hmk c1 c2 e1 e2
  have h4 := H3.out
  have hsz := hK5.size
  have hrow : ints (List.replicate q 0) = (madeCells (Value.int .i64 0).cells (q * 1)).toList := by
    rw [Nat.mul_one]
    exact ((toList_madeCells_one (Value.int .i64 0) q).trans (by simp [ints])).symm
  have hR : MdIn (w3.alloc (.cells #[.int .i64 p, .slice none 0 0, .slice (some ⟨w2.heap.size, 0, none⟩) q q, .bool false] 114)) ⟨w3.heap.size, none, 0, w2.heap.size, q⟩ ⟨p, [], List.replicate q 0, false⟩ := by
    refine ⟨?_, World.ownsRow_nil _ _ _ _, ?_, by show 0 < (List.replicate q (0 : Int)).length; rw [List.length_replicate]; omega, by show (List.replicate q (0 : Int)).length ≤ 8; rw [List.length_replicate]; omega, Nat.zero_le _, by show (1 : Int) ≤ p; omega, by show (p : Int) ≤ 64; omega, ?_⟩
    · have := heap_alloc_new w3 (.cells #[.int .i64 p, .slice none 0 0, .slice (some ⟨w2.heap.size, 0, none⟩) q q, .bool false] 114)
      simpa [Md.cells, MB.v] using this
    · show (w3.alloc _).ownsRow 0 3 1 (.slice (some ⟨w2.heap.size, 0, none⟩) (List.replicate q (0 : Int)).length q) (List.replicate q (0 : Int)).length (ints (List.replicate q 0))
      rw [List.length_replicate, hrow]
      exact or_base (hO.out.alloc _) (Nat.zero_le _)
    · intro x hx
      obtain ⟨_, rfl⟩ := List.mem_replicate.1 hx
      exact ⟨Int.le_refl 0, Int.le_refl 0⟩
  have hown : ∀ i, (⟨w3.heap.size, none, 0, w2.heap.size, q⟩ : MB).own i → w.heap.size ≤ i := by
    have q1 := HP.out
    rintro i (h | h | h)
    · change i = w3.heap.size at h; omega
    · change i = w2.heap.size at h; omega
    · cases h
  have hK6 := (hK4.trans hK5).alloc (.cells #[.int .i64 p, .slice none 0 0, .slice (some ⟨w2.heap.size, 0, none⟩) q q, .bool false] 114)
  clear hO hK4 hK5 hrow hsz
  go_wp2
  go_ret2
  exact ⟨⟨w3.heap.size, none, 0, w2.heap.size, q⟩, rfl, hR, hown, hK6⟩
end Go.Proofs.Ytmejnhfggmmefaa.H
