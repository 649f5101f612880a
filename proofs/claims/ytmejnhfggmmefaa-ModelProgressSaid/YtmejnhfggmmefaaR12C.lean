/- Layer 12's reference: Put, whatever comes. No condition. -/
import Derived.Test.YtmejnhfggmmefaaR12B
namespace Go.Proofs.Ytmejnhfggmmefaa.H
open Go.RowKit
set_option linter.unusedVariables false
set_option linter.unusedSimpArgs false
variable {bb : Nat → Prop} {w : World} {L : List Sl} {R : Nat} {t v j : Int}

theorem rd_ne {W : World} {a o n c b : Nat} {M : List Sl} {ty : TypeId} (h : Rd W (.slice (some ⟨a, o, none⟩) n c) n (slCells M)) (hM : 0 < M.length) (hb : W.heap[b]? = some (.cells #[.slice none 0 0, .int .i64 0] ty (0, 0))) : a ≠ b := by
  intro e
  subst e
  have hx0 : 0 < (slCells M).length := by rw [slCells_len]; omega
  obtain ⟨ab', ao', c', e, _, _, hc⟩ := h.form hx0
  injection e with e1 e2 e3
  injection e1 with e1
  injection e1 with e1 e4
  subst e1; subst e4
  have h0 := hc _ _ (slCells_get M 0 hM).1
  rw [bk_cell hb] at h0
  match o, h0 with
  | 0, h0 => simp at h0
  | 1, h0 => simp at h0
  | _ + 2, h0 => simp at h0

set_option maxRecDepth 100000 in
set_option maxHeartbeats 3200000 in
theorem RPut_ok (hL : RArg L R) (ab ao c : Nat) (hr : Rd w (.slice (some ⟨ab, ao, none⟩) L.length c) L.length (slCells L)) (hf : ∀ k, (Value.slice (some ⟨ab, ao, none⟩) L.length c).ownBlock = some k → ¬ bb k) (hbb : ∀ k, bb k → k < w.heap.size) (ht : 0 ≤ t) (h1 : t < 4611686018427387904) (he : (slAt L t).st = 2 * t) :
    Calls Try.prog 73 #[.agg #[.slice (some ⟨ab, ao, none⟩) L.length c, .int .i64 R], .int .u64 t, .int .u64 v] w fun e w' => ∃ vv, e = .returned (.tuple #[.int .i64 0, vv]) ∧ RS bb w' vv (L.set (pl L t) ⟨2 * t + 1, v, 2 ^ R - 1⟩) R ∧ Kp no w w' := by
  have H := As.mk hr
  have HF := As.mk (And.intro hf hbb)
  clear hf hbb
  have hpl := pl_lt hL.pos t
  obtain ⟨hI, hW, hlw, hl0, hIw, hsrc, hc0, _, _⟩ := rfacts hL hr ht
  change w.cell? _ = some (.int .u64 (slAt L t).st) at hc0
  generalize (slAt L t).st = s at hc0 he
  generalize pl L t = i at hpl hI hIw hc0 ⊢
  have h2 : (decide (4611686018427387904 ≤ t)) = false := by rw [decide_eq_false_iff_not]; omega
  have hm : IntKind.u64.wrap (2 * t) = 2 * t := by rw [IntKind.wrap_u64]; omega
  have hm1 : IntKind.u64.wrap (2 * t + 1) = 2 * t + 1 := by rw [IntKind.wrap_u64]; omega
  have hd : (decide (s < 2 * t)) = false := by rw [decide_eq_false_iff_not]; omega
  have hd2 : (decide (2 * t < s)) = false := by rw [decide_eq_false_iff_not]; omega
  have hle := hL.le
  have hR := hL.hR
  clear hr hL h1 he
  go_enter Try.func73, Try.ntmps73
  go_wp2
  obtain ⟨m0, m1, hK, hs⟩ := alloc2 (w := w) #[.slice (some ⟨ab, ao, none⟩) L.length c, .int .i64 R] #[.slice none 0 0, .int .i64 0] 60 60
  generalize (w.alloc (Obj.cells #[.slice (some ⟨ab, ao, none⟩) L.length c, .int .i64 R] 60)).alloc (Obj.cells #[.slice none 0 0, .int .i64 0] 60) = W at m0 m1 hK hs ⊢
  generalize hb0 : w.heap.size = b0 at m0 m1 hs hsrc ⊢
  have e0 := bk_cell m0 0
  have e1 := bk_cell m0 1
  have HM := As.mk (And.intro m0 (And.intro m1 (And.intro hK (And.intro hs hb0))))
  clear hc0 hd hd2 hI hW hlw hl0 hIw h2
  go_region_held3 (fun w' => w'.cell? ⟨b0, 0, none⟩ = some (.slice (some ⟨ab, ao, none⟩) L.length c) ∧ w'.cell? ⟨b0, 1, none⟩ = some (.int .i64 R)) (first | go_keep | exact ⟨e0, e1⟩ | exact ⟨e0', e1'⟩)
    (first
      | (go_at_call 93; refine (RAll R hR).mono ?_; rintro e w5 ⟨rfl, rfl⟩)
      | (go_at_call 94; have HSZ := As.mk (show w.heap.size ≤ W.drew.heap.size from hK.size); refine (RWith (L := L) (R := R) (w := W.drew) ((H.out.kp hK (fun _ _ x => x)).qd (QD.drew W)) hle i hpl ⟨2 * t + 1, v, 2 ^ R - 1⟩).mono ?_; rintro e w6 ⟨vv, rfl, hrd, hK6, hfr6⟩; obtain ⟨ab2, ao2, c2, rfl, _, _, _⟩ := hrd.form (by rw [slCells_len, List.length_set]; omega); have e0' := bk_cell (bk_kp (bk_qd m0 (QD.drew W)) hK6 (fun x => x)) 0; have e1' := bk_cell (bk_kp (bk_qd m0 (QD.drew W)) hK6 (fun x => x)) 1; have M1 := bk_kp (bk_qd m1 (QD.drew W)) hK6 (fun x => x); have d0 := bk_cell M1 0; have d1 := bk_cell M1 1; have z0 := bk_fz M1 0; have z1 := bk_fz M1 1))
  go_wp2
  obtain ⟨f1, hKf⟩ := tell2 (.slice (some ⟨ab2, ao2, none⟩) L.length c2) (.int .i64 R) rfl M1 ((hK.qd (QD.drew W)).trans hK6) hb0
  refine bodyPost_ret (results_tc rfl _ _ (b0 + 1) 60 #[.slice (some ⟨ab2, ao2, none⟩) L.length c2, .int .i64 R] (0, 0) _ (.int .i64 0) rfl rfl f1 Try.underlying60 rfl (by kernel_rfl)) rfl ?_
  refine ⟨_, rfl, ⟨_, rfl, ?_, fun k hk e => by have h1 := hfr6 k hk; have h2 := HF.out.2 k e; have h3 := HSZ.out; omega⟩, hKf⟩
  have hKs := ((Kp.refl (· = b0 + 1) w6).setCell ⟨b0 + 1, 0, none⟩ rfl (.slice (some ⟨ab2, ao2, none⟩) L.length c2)).setCell ⟨b0 + 1, 1, none⟩ rfl (.int .i64 R)
  rw [List.length_set]
  exact hrd.kp hKs (fun b hb e => rd_ne hrd (by rw [List.length_set]; omega) M1 ((Option.some.inj hb).trans e))

theorem RPut_any (hL : RArg L R) {e0 : Value} (h : RS bb w e0 L R) (hbb : ∀ k, bb k → k < w.heap.size) (ht : 0 ≤ t) :
    Calls Try.prog 73 #[e0, .int .u64 t, .int .u64 v] w fun e w' => ∃ vv, e = .returned (.tuple #[.int .i64 (sPut L R t v).1, vv]) ∧ RS bb w' vv (sPut L R t v).2 R ∧ Kp no w w' := by
  obtain ⟨v0, rfl, hr, hf⟩ := h
  have hx0 : 0 < (slCells L).length := by rw [slCells_len]; have := hL.pos; omega
  obtain ⟨ab, ao, c, rfl, _, _, _⟩ := hr.form hx0
  unfold sPut
  by_cases h1 : t < 4611686018427387904
  · rw [if_pos h1]
    by_cases h2 : (slAt L t).st < 2 * t
    · rw [if_pos h2]; exact RPut_full hL ab ao c hr hf hbb ht h1 h2
    · rw [if_neg h2]
      by_cases h3 : 2 * t < (slAt L t).st
      · rw [if_pos h3]; exact RPut_order hL ab ao c hr hf hbb ht h1 h3
      · rw [if_neg h3]; exact RPut_ok hL ab ao c hr hf hbb ht h1 (by omega)
  · rw [if_neg h1]; exact RPut_arg _ _ _ hr hf hbb h1
end Go.Proofs.Ytmejnhfggmmefaa.H
