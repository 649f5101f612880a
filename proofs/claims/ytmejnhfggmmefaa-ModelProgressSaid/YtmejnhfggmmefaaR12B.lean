/- Layer 12's reference: Put. No condition. -/
import Derived.Test.YtmejnhfggmmefaaR12
namespace Go.Proofs.Ytmejnhfggmmefaa.H
open Go.RowKit
set_option linter.unusedVariables false
set_option linter.unusedSimpArgs false
variable {bb : Nat → Prop} {w : World} {L : List Sl} {R : Nat} {t v j : Int}

/-- A reference's places, as a value. -/
def RS (bb : Nat → Prop) (w : World) (e : Value) (L : List Sl) (R : Nat) : Prop := ∃ v, e = .agg #[v, .int .i64 R] ∧ Rd w v L.length (slCells L) ∧ ∀ k, v.ownBlock = some k → ¬ bb k
theorem RS.kp {S : Nat → Prop} {bb : Nat → Prop} {w w' : World} {e : Value} (h : RS bb w e L R) (k : Kp S w w') (hS : ∀ i, S i → bb i) : RS bb w' e L R := by
  obtain ⟨v, rfl, hr, hf⟩ := h; exact ⟨v, rfl, hr.kp k (fun q hq x => hf q hq (hS q x)), hf⟩
theorem RS.qd {bb : Nat → Prop} {w w' : World} {e : Value} (h : RS bb w e L R) (k : QD w w') : RS bb w' e L R := h.kp (Kp.of_qd (S := no) k) (fun _ x => x.elim)

structure RArg (L : List Sl) (R : Nat) : Prop where
  pos : 0 < L.length
  le : L.length ≤ 64
  hR : R ≤ 8
  wf : ∀ x ∈ L, x.ok

theorem alloc2 {w : World} (c0 c1 : Array Value) (t0 t1 : TypeId) : let W := (w.alloc (.cells c0 t0)).alloc (.cells c1 t1)
    W.heap[w.heap.size]? = some (.cells c0 t0 (0, 0)) ∧ W.heap[w.heap.size + 1]? = some (.cells c1 t1 (0, 0)) ∧ Kp no w W ∧ W.heap.size = w.heap.size + 1 + 1 := by
  have e0 := bk_alloc (heap_alloc_new w (.cells c0 t0)) (.cells c1 t1)
  have e1 := heap_alloc_new (w.alloc (.cells c0 t0)) (.cells c1 t1)
  have s1 : (w.alloc (.cells c0 t0)).heap.size = w.heap.size + 1 := by simp
  rw [s1] at e1
  exact ⟨e0, e1, ((Kp.refl no w).alloc _).alloc _, by simp⟩

theorem results_tc {P : Program} {fn : Func} {u p : Tmp} {ty : TypeId} (h : fn.results = #[.tmp u, .cell p ty]) (tmps : Array Value) (w : World) (g : Nat) (t : TypeId) (cs : Array Value) (fr : Nat × Nat) (d : TypeDesc) (x : Value)
    (hx : tmps.getD u undef = x) (hp : tmps.getD p undef = .pointer (some ⟨g, 0, none⟩)) (hg : w.heap[g]? = some (.cells cs t fr))
    (hu : P.underlying ty = some d) (hd : (match d with | .struct _ | .array _ _ => true | _ => false) = true) (hi : (P.info? ty).map (·.size) = some cs.size) :
    (results fn tmps).run P w = .ok (.tuple #[x, .agg cs]) w := by
  have hp' : tmps[p]?.getD undef = .pointer (some ⟨g, 0, none⟩) := by simpa using hp
  have hx' : tmps[u]?.getD undef = x := by simpa using hx
  simp [results, h, hp', hx', asAddr, run_loadVar_row w g t ty cs fr d hg hu hd hi]
theorem results_ttc {P : Program} {fn : Func} {u u2 p : Tmp} {ty : TypeId} (h : fn.results = #[.tmp u, .tmp u2, .cell p ty]) (tmps : Array Value) (w : World) (g : Nat) (t : TypeId) (cs : Array Value) (fr : Nat × Nat) (d : TypeDesc) (x y : Value)
    (hx : tmps.getD u undef = x) (hy : tmps.getD u2 undef = y) (hp : tmps.getD p undef = .pointer (some ⟨g, 0, none⟩)) (hg : w.heap[g]? = some (.cells cs t fr))
    (hu : P.underlying ty = some d) (hd : (match d with | .struct _ | .array _ _ => true | _ => false) = true) (hi : (P.info? ty).map (·.size) = some cs.size) :
    (results fn tmps).run P w = .ok (.tuple #[x, y, .agg cs]) w := by
  have hp' : tmps[p]?.getD undef = .pointer (some ⟨g, 0, none⟩) := by simpa using hp
  have hx' : tmps[u]?.getD undef = x := by simpa using hx
  have hy' : tmps[u2]?.getD undef = y := by simpa using hy
  simp [results, h, hp', hx', hy', asAddr, run_loadVar_row w g t ty cs fr d hg hu hd hi]
/-- The given places, told in a result's cell. -/
theorem tell2 {w W : World} {b0 : Nat} (S0 S1 : Value) {t1 : TypeId} {c1 : Array Value} (hc1 : c1.size = 2) (m1 : W.heap[b0 + 1]? = some (.cells c1 t1 (0, 0))) (hK : Kp no w W) (hb : w.heap.size = b0) :
    ((W.setCell ⟨b0 + 1, 0, none⟩ S0).setCell ⟨b0 + 1, 1, none⟩ S1).heap[b0 + 1]? = some (.cells #[S0, S1] t1 (0, 0)) ∧ Kp no w ((W.setCell ⟨b0 + 1, 0, none⟩ S0).setCell ⟨b0 + 1, 1, none⟩ S1) := by
  obtain ⟨l⟩ := c1
  match l, hc1 with
  | [a, b], _ =>
    have q1 := bk_set (cs' := #[S0, b]) m1 0 S0 rfl
    have q2 := bk_set (cs' := #[S0, S1]) q1 1 S1 rfl
    exact ⟨q2, (hK.setNew ⟨b0 + 1, 0, none⟩ (by show w.heap.size ≤ b0 + 1; omega) S0).setNew ⟨b0 + 1, 1, none⟩ (by show w.heap.size ≤ b0 + 1; omega) S1⟩

set_option maxRecDepth 100000 in
set_option maxHeartbeats 3200000 in
theorem RPut_arg (A : Option Addr) (n c : Nat) (hr : Rd w (.slice A n c) L.length (slCells L)) (hf : ∀ k, (Value.slice A n c).ownBlock = some k → ¬ bb k) (hbb : ∀ k, bb k → k < w.heap.size) (h1 : ¬ t < 4611686018427387904) :
    Calls Try.prog 73 #[.agg #[.slice A n c, .int .i64 R], .int .u64 t, .int .u64 v] w fun e w' => ∃ vv, e = .returned (.tuple #[.int .i64 1, vv]) ∧ RS bb w' vv L R ∧ Kp no w w' := by
  have H := As.mk hr
  have HF := As.mk (And.intro hf hbb)
  clear hf hbb
  clear hr
  have h2 : (decide (4611686018427387904 ≤ t)) = true := by rw [decide_eq_true_iff]; omega
  go_enter Try.func73, Try.ntmps73
  go_wp2
  obtain ⟨m0, m1, hK, hs⟩ := alloc2 (w := w) #[.slice A n c, .int .i64 R] #[.slice none 0 0, .int .i64 0] 60 60
  generalize (w.alloc (Obj.cells #[.slice A n c, .int .i64 R] 60)).alloc (Obj.cells #[.slice none 0 0, .int .i64 0] 60) = W at m0 m1 hK hs ⊢
  generalize hb0 : w.heap.size = b0 at m0 m1 hs ⊢
  refine wp_region_still_tail 2 (by kernel_rfl) (by kernel_rfl) ?_
  generalize hq : ({ W with drawn := W.drawn + 1 } : World) = W2
  replace hq : QD W W2 := ⟨1, hq.symm⟩
  replace m0 := bk_qd m0 hq
  replace m1 := bk_qd m1 hq
  replace hK := hK.qd hq
  have e0 := bk_cell m0 0
  have e1 := bk_cell m0 1
  have d0 := bk_cell m1 0
  have d1 := bk_cell m1 1
  have z0 := bk_fz m1 0
  have z1 := bk_fz m1 1
  clear hq hs
  simp only [List.take_succ_cons, List.take_zero, List.drop_succ_cons, List.drop_zero]
  repeat still_step
  refine wpStill_nil ?_
  go_wp2
  obtain ⟨f1, hKf⟩ := tell2 (.slice A n c) (.int .i64 R) rfl m1 hK hb0
  refine bodyPost_ret (results_tc rfl _ _ (b0 + 1) 60 #[.slice A n c, .int .i64 R] (0, 0) _ (.int .i64 1) rfl rfl f1 Try.underlying60 rfl (by kernel_rfl)) rfl ?_
  exact ⟨_, rfl, ⟨_, rfl, H.out.kp hKf (fun _ _ x => x), HF.out.1⟩, hKf⟩

theorem rfacts {ab ao c : Nat} (hL : RArg L R) (hr : Rd w (.slice (some ⟨ab, ao, none⟩) L.length c) L.length (slCells L)) (ht : 0 ≤ t) :
    Int.tmod t (L.length : Int) = ((pl L t : Nat) : Int) ∧ IntKind.u64.wrap (L.length : Int) = (L.length : Int) ∧ wrap64 (L.length : Int) = (L.length : Int) ∧ ¬ (L.length : Int) = 0 ∧ wrap64 ((pl L t : Nat) : Int) = ((pl L t : Nat) : Int) ∧ ab < w.heap.size ∧
    w.cell? ⟨ab, ao + pl L t * 3, none⟩ = some (.int .u64 (slAt L t).st) ∧ w.cell? ⟨ab, ao + (pl L t * 3 + 1), none⟩ = some (.int .u64 (slAt L t).v) ∧ w.cell? ⟨ab, ao + (pl L t * 3 + 2), none⟩ = some (.int .i64 (slAt L t).left) := by
  have hpos := hL.pos
  have hle := hL.le
  have hp := pl_lt hpos t
  have hx0 : 0 < (slCells L).length := by rw [slCells_len]; omega
  obtain ⟨ab', ao', c', e, _, _, hc⟩ := hr.form hx0
  injection e with e1 e2 e3
  injection e1 with e1
  injection e1 with e1 e4
  subst e1; subst e4
  obtain ⟨k0, k1, k2⟩ := slCells_get L (pl L t) hp
  have hr0 : 0 ≤ t % (L.length : Int) := Int.emod_nonneg _ (by omega)
  refine ⟨?_, by rw [IntKind.wrap_u64]; omega, by unfold wrap64; omega, by omega, by unfold wrap64; omega, ?_, hc _ _ k0, hc _ _ k1, hc _ _ k2⟩
  · rw [Int.tmod_eq_emod_of_nonneg ht]; unfold pl; omega
  · exact World.block_lt_of_cell? _ _ (hc _ _ k0)

set_option maxRecDepth 100000 in
set_option maxHeartbeats 3200000 in
theorem RPut_full (hL : RArg L R) (ab ao c : Nat) (hr : Rd w (.slice (some ⟨ab, ao, none⟩) L.length c) L.length (slCells L)) (hf : ∀ k, (Value.slice (some ⟨ab, ao, none⟩) L.length c).ownBlock = some k → ¬ bb k) (hbb : ∀ k, bb k → k < w.heap.size) (ht : 0 ≤ t) (h1 : t < 4611686018427387904) (he : (slAt L t).st < 2 * t) :
    Calls Try.prog 73 #[.agg #[.slice (some ⟨ab, ao, none⟩) L.length c, .int .i64 R], .int .u64 t, .int .u64 v] w fun e w' => ∃ vv, e = .returned (.tuple #[.int .i64 8, vv]) ∧ RS bb w' vv L R ∧ Kp no w w' := by
  have H := As.mk hr
  have HF := As.mk (And.intro hf hbb)
  clear hf hbb
  have hpl := pl_lt hL.pos t
  obtain ⟨hI, hW, hlw, hl0, hIw, hsrc, hc0, _, _⟩ := rfacts hL hr ht
  change w.cell? _ = some (.int .u64 (slAt L t).st) at hc0
  generalize (slAt L t).st = s at hc0 he
  generalize pl L t = i at hpl hI hIw hc0
  have h2 : (decide (4611686018427387904 ≤ t)) = false := by rw [decide_eq_false_iff_not]; omega
  have hm : IntKind.u64.wrap (2 * t) = 2 * t := by rw [IntKind.wrap_u64]; omega
  have hd : (decide (s < 2 * t)) = true := by rw [decide_eq_true_iff]; omega
  have hle := hL.le
  clear hr hL h1
  go_enter Try.func73, Try.ntmps73
  go_wp2
  obtain ⟨m0, m1, hK, hs⟩ := alloc2 (w := w) #[.slice (some ⟨ab, ao, none⟩) L.length c, .int .i64 R] #[.slice none 0 0, .int .i64 0] 60 60
  generalize (w.alloc (Obj.cells #[.slice (some ⟨ab, ao, none⟩) L.length c, .int .i64 R] 60)).alloc (Obj.cells #[.slice none 0 0, .int .i64 0] 60) = W at m0 m1 hK hs ⊢
  generalize hb0 : w.heap.size = b0 at m0 m1 hs ⊢
  refine wp_region_still_tail 2 (by kernel_rfl) (by kernel_rfl) ?_
  generalize hq : ({ W with drawn := W.drawn + 1 } : World) = W2
  replace hq : QD W W2 := ⟨1, hq.symm⟩
  replace m0 := bk_qd m0 hq
  replace m1 := bk_qd m1 hq
  replace hK := hK.qd hq
  have e0 := bk_cell m0 0
  have e1 := bk_cell m0 1
  have d0 := bk_cell m1 0
  have d1 := bk_cell m1 1
  have z0 := bk_fz m1 0
  have z1 := bk_fz m1 1
  clear hq hs
  simp only [List.take_succ_cons, List.take_zero, List.drop_succ_cons, List.drop_zero]
  repeat still_step
  refine wpStill_nil ?_
  go_wp2
  obtain ⟨f1, hKf⟩ := tell2 (.slice (some ⟨ab, ao, none⟩) L.length c) (.int .i64 R) rfl m1 hK hb0
  refine bodyPost_ret (results_tc rfl _ _ (b0 + 1) 60 #[.slice (some ⟨ab, ao, none⟩) L.length c, .int .i64 R] (0, 0) _ (.int .i64 8) rfl rfl f1 Try.underlying60 rfl (by kernel_rfl)) rfl ?_
  exact ⟨_, rfl, ⟨_, rfl, H.out.kp hKf (fun _ _ x => x), HF.out.1⟩, hKf⟩

set_option maxRecDepth 100000 in
set_option maxHeartbeats 3200000 in
theorem RPut_order (hL : RArg L R) (ab ao c : Nat) (hr : Rd w (.slice (some ⟨ab, ao, none⟩) L.length c) L.length (slCells L)) (hf : ∀ k, (Value.slice (some ⟨ab, ao, none⟩) L.length c).ownBlock = some k → ¬ bb k) (hbb : ∀ k, bb k → k < w.heap.size) (ht : 0 ≤ t) (h1 : t < 4611686018427387904) (he : 2 * t < (slAt L t).st) :
    Calls Try.prog 73 #[.agg #[.slice (some ⟨ab, ao, none⟩) L.length c, .int .i64 R], .int .u64 t, .int .u64 v] w fun e w' => ∃ vv, e = .returned (.tuple #[.int .i64 11, vv]) ∧ RS bb w' vv L R ∧ Kp no w w' := by
  have H := As.mk hr
  have HF := As.mk (And.intro hf hbb)
  clear hf hbb
  have hpl := pl_lt hL.pos t
  obtain ⟨hI, hW, hlw, hl0, hIw, hsrc, hc0, _, _⟩ := rfacts hL hr ht
  change w.cell? _ = some (.int .u64 (slAt L t).st) at hc0
  generalize (slAt L t).st = s at hc0 he
  generalize pl L t = i at hpl hI hIw hc0
  have h2 : (decide (4611686018427387904 ≤ t)) = false := by rw [decide_eq_false_iff_not]; omega
  have hm : IntKind.u64.wrap (2 * t) = 2 * t := by rw [IntKind.wrap_u64]; omega
  have hd : (decide (s < 2 * t)) = false := by rw [decide_eq_false_iff_not]; omega
  have hd2 : (decide (2 * t < s)) = true := by rw [decide_eq_true_iff]; omega
  have hle := hL.le
  clear hr hL h1
  go_enter Try.func73, Try.ntmps73
  go_wp2
  obtain ⟨m0, m1, hK, hs⟩ := alloc2 (w := w) #[.slice (some ⟨ab, ao, none⟩) L.length c, .int .i64 R] #[.slice none 0 0, .int .i64 0] 60 60
  generalize (w.alloc (Obj.cells #[.slice (some ⟨ab, ao, none⟩) L.length c, .int .i64 R] 60)).alloc (Obj.cells #[.slice none 0 0, .int .i64 0] 60) = W at m0 m1 hK hs ⊢
  generalize hb0 : w.heap.size = b0 at m0 m1 hs ⊢
  refine wp_region_still_tail 2 (by kernel_rfl) (by kernel_rfl) ?_
  generalize hq : ({ W with drawn := W.drawn + 1 } : World) = W2
  replace hq : QD W W2 := ⟨1, hq.symm⟩
  replace m0 := bk_qd m0 hq
  replace m1 := bk_qd m1 hq
  replace hK := hK.qd hq
  have e0 := bk_cell m0 0
  have e1 := bk_cell m0 1
  have d0 := bk_cell m1 0
  have d1 := bk_cell m1 1
  have z0 := bk_fz m1 0
  have z1 := bk_fz m1 1
  clear hq hs
  simp only [List.take_succ_cons, List.take_zero, List.drop_succ_cons, List.drop_zero]
  repeat still_step
  refine wpStill_nil ?_
  go_wp2
  obtain ⟨f1, hKf⟩ := tell2 (.slice (some ⟨ab, ao, none⟩) L.length c) (.int .i64 R) rfl m1 hK hb0
  refine bodyPost_ret (results_tc rfl _ _ (b0 + 1) 60 #[.slice (some ⟨ab, ao, none⟩) L.length c, .int .i64 R] (0, 0) _ (.int .i64 11) rfl rfl f1 Try.underlying60 rfl (by kernel_rfl)) rfl ?_
  exact ⟨_, rfl, ⟨_, rfl, H.out.kp hKf (fun _ _ x => x), HF.out.1⟩, hKf⟩
end Go.Proofs.Ytmejnhfggmmefaa.H
