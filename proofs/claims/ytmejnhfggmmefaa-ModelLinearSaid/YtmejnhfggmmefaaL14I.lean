/- Layer 14: what the laws' begin and further do. No condition. -/
import Derived.Test.YtmejnhfggmmefaaL14H
import Derived.Test.YtmejnhfggmmefaaSeq
namespace Go.Proofs.Ytmejnhfggmmefaa.H
open Go.RowKit
set_option linter.unusedVariables false
set_option linter.unusedSimpArgs false

/-- A ring and a log, made behind a world, side by side. -/
structure LM (W w : World) (B : RB) (C : MB) (r : Rg) (m : Md) : Prop where
  R : RgNew W w B r
  M : MdNew W w C m
  d : ∀ k, B.own k → ¬ C.own k
section
variable {W w w' w'' : World} {B : RB} {C C0 C' : MB} {r r' : Rg} {m m' : Md} {X S : Nat → Prop}
theorem RgNew.kpS (h : RgNew W w B r) (k : Kp S w w') (hS : ∀ i, S i → W.heap.size ≤ i ∧ ¬ B.own i) : RgNew W w' B r := ⟨h.i.kp k (fun i a b => (hS i b).2 a), h.n, h.K.new k (fun i hi => (hS i hi).1)⟩
theorem MdNew.kpS (h : MdNew W w C m) (k : Kp S w w') (hS : ∀ i, S i → W.heap.size ≤ i ∧ ¬ C.own i) : MdNew W w' C m := ⟨h.i.kp k (fun i a b => (hS i b).2 a), h.n, h.K.new k (fun i hi => (hS i hi).1)⟩
theorem LM.kpS (h : LM W w B C r m) (k : Kp S w w') (hS : ∀ i, S i → W.heap.size ≤ i ∧ ¬ B.own i ∧ ¬ C.own i) : LM W w' B C r m := ⟨h.R.kpS k (fun i hi => ⟨(hS i hi).1, (hS i hi).2.1⟩), h.M.kpS k (fun i hi => ⟨(hS i hi).1, (hS i hi).2.2⟩), h.d⟩
theorem LM.kp (h : LM W w B C r m) (k : Kp no w w') : LM W w' B C r m := h.kpS k (fun i hi => hi.elim)
/-- In the midst of a call that was entered at w, with blocks X of its own. -/
structure LS (W w : World) (X : Nat → Prop) (B : RB) (C0 : MB) (w' : World) (C : MB) (r : Rg) (m : Md) : Prop where
  L : LM W w' B C r m
  hw : W.heap.size ≤ w.heap.size
  g : C0.g = C.g
  bl : ∀ k, B.own k → k < w.heap.size
  cl : ∀ k, C0.own k → k < w.heap.size
  x : ∀ k, X k → w.heap.size ≤ k ∧ k < w'.heap.size
  n : ∀ k, C.own k → C0.own k ∨ (w.heap.size ≤ k ∧ ¬ X k)
  K : Kp (fun k => B.own k ∨ C0.own k) w w'
theorem LS.start (h : LM W w B C r m) (k : Kp no w w') (x : ∀ k, X k → w.heap.size ≤ k ∧ k < w'.heap.size) : LS W w X B C w' C r m :=
  ⟨h.kp k, h.R.K.size, rfl, h.R.i.glt, h.M.i.lt, x, fun k hk => .inl hk, k.mono (fun _ x => x.elim)⟩
theorem LS.xB (h : LS W w X B C0 w' C r m) {k : Nat} (hk : X k) : ¬ B.own k := fun hb => by have := h.bl k hb; have := h.x k hk; omega
theorem LS.xC (h : LS W w X B C0 w' C r m) {k : Nat} (hk : X k) : ¬ C.own k := fun hb => by
  rcases h.n k hb with h1 | h1
  · have := h.cl k h1; have := h.x k hk; omega
  · exact h1.2 hk
theorem LS.ring (h : LS W w X B C0 w' C r m) (hr : RgNew W w'' B r') (k : Kp B.own w' w'') : LS W w X B C0 w'' C r' m :=
  ⟨⟨hr, h.L.M.kpS k (fun i hi => ⟨h.L.R.n i hi, h.L.d i hi⟩), h.L.d⟩, h.hw, h.g, h.bl, h.cl, fun i hi => ⟨(h.x i hi).1, by have := (h.x i hi).2; have := k.size; omega⟩, h.n, h.K.step k (fun i _ hi => .inl hi)⟩
theorem LS.log (h : LS W w X B C0 w' C r m) (hm : MdNew W w'' C' m') (hg : C.g = C'.g) (hn : ∀ k, C'.own k → C.own k ∨ w'.heap.size ≤ k) (k : Kp C.own w' w'') : LS W w X B C0 w'' C' r m' := by
  have hsz := h.K.size
  refine ⟨⟨h.L.R.kpS k (fun i hi => ⟨h.L.M.n i hi, fun hb => h.L.d i hb hi⟩), hm, fun i hb hc => ?_⟩, h.hw, h.g.trans hg, h.bl, h.cl, fun i hi => ⟨(h.x i hi).1, by have := (h.x i hi).2; have := k.size; omega⟩, fun i hi => ?_, h.K.step k (fun i hi hc => ?_)⟩
  · rcases hn i hc with h1 | h1
    · exact h.L.d i hb h1
    · have := h.bl i hb; omega
  · rcases hn i hi with h1 | h1
    · exact h.n i h1
    · exact .inr ⟨by omega, fun hx => by have := h.x i hx; omega⟩
  · rcases h.n i hc with h1 | h1
    · exact .inr h1
    · omega
theorem LS.inX (h : LS W w X B C0 w' C r m) (k : Kp X w' w'') : LS W w X B C0 w'' C r m :=
  ⟨h.L.kpS k (fun i hi => ⟨by have := h.x i hi; have := h.hw; omega, h.xB hi, h.xC hi⟩), h.hw, h.g, h.bl, h.cl, fun i hi => ⟨(h.x i hi).1, by have := (h.x i hi).2; have := k.size; omega⟩, h.n, h.K.step k (fun i hi hx => by have := h.x i hx; omega)⟩
theorem LS.kp (h : LS W w X B C0 w' C r m) (k : Kp no w' w'') : LS W w X B C0 w'' C r m := h.inX (k.mono (fun _ x => x.elim))
theorem LS.drop (h : LS W w X B C0 w' C r m) : LS W w no B C0 w' C r m := ⟨h.L, h.hw, h.g, h.bl, h.cl, fun _ x => x.elim, fun k hk => (h.n k hk).imp id (fun x => ⟨x.1, fun y => y⟩), h.K⟩
theorem LS.bkB (h : LS W w X B C0 w' C r m) {b : Nat} {o : Obj} (hb : w'.heap[b]? = some o) (hX : X b) (k : Kp B.own w' w'') : w''.heap[b]? = some o := bk_kp hb k (h.xB hX)
theorem LS.bkC (h : LS W w X B C0 w' C r m) {b : Nat} {o : Obj} (hb : w'.heap[b]? = some o) (hX : X b) (k : Kp C.own w' w'') : w''.heap[b]? = some o := bk_kp hb k (h.xC hX)
def LSPost (W w : World) (B : RB) (C0 : MB) (v : Value) (r : Rg) (m : Md) (e : Ending) (w' : World) : Prop := ∃ C, e = .returned v ∧ LS W w no B C0 w' C r m
theorem results_ct {P : Program} {fn : Func} {u p : Tmp} {ty : TypeId} (h : fn.results = #[.cell p ty, .tmp u]) (tmps : Array Value) (w : World) (g : Nat) (t : TypeId) (cs : Array Value) (fr : Nat × Nat) (d : TypeDesc) (x : Value)
    (hx : tmps.getD u undef = x) (hp : tmps.getD p undef = .pointer (some ⟨g, 0, none⟩)) (hg : w.heap[g]? = some (.cells cs t fr))
    (hu : P.underlying ty = some d) (hd : (match d with | .struct _ | .array _ _ => true | _ => false) = true) (hi : (P.info? ty).map (·.size) = some cs.size) :
    (results fn tmps).run P w = .ok (.tuple #[.agg cs, x]) w := by
  have hp' : tmps[p]?.getD undef = .pointer (some ⟨g, 0, none⟩) := by simpa using hp
  have hx' : tmps[u]?.getD undef = x := by simpa using hx
  simp [results, h, hp', hx', asAddr, run_loadVar_row w g t ty cs fr d hg hu hd hi]
end
section
variable {W w : World} {B : RB} {C : MB} {r : Rg} {m : Md}
set_option maxRecDepth 100000 in
set_option maxHeartbeats 6400000 in
theorem begin_claim0 (h : LM W w B C r m) (cl k j v : Int) (hq : Int.tmod (IntKind.u64.wrap k) 5 = 0) (hb : r.tail + 1 < 9223372036854775808) (hb2 : m.l.length < 1000000) (t0 e0 : Int) (hr1 : (rClaim r).1 = t0) (hr2 : (rClaim r).2.1 = e0) (hm1 : (mPut m v).1 = t0) (hm2 : (mPut m v).2.1 = e0) (res : Array Value) (hres : (e0 = 0 ∧ res = #[.int .i64 1, .int .i64 0, .int .u64 t0, .int .u64 v]) ∨ (e0 ≠ 0 ∧ res = #[.int .i64 0, .int .i64 0, .int .u64 0, .int .u64 0])) : Calls Try.prog 79 #[.pointer (some ⟨B.g, 0, none⟩), .pointer (some ⟨C.g, 0, none⟩), .agg #[.int .i64 cl, .int .i64 k, .int .i64 j, .int .u64 v]] w (LSPost W w B C (.tuple #[.agg res, .bool true]) (rClaim r).2.2 (mPut m v).2.2) := by
  have H := As.mk h
  clear h
  have HB := As.mk (And.intro hb hb2)
  have HR := As.mk (And.intro hr1 (And.intro hr2 (And.intro hm1 hm2)))
  have HX := As.mk hres
  clear hb hb2 hr1 hr2 hm1 hm2 hres
  go_enter Try.func79, Try.ntmps79
  go_wp2_with fail
  obtain ⟨m0, m1, hK, hsz⟩ := alloc2 (w := w) #[.int .i64 cl, .int .i64 k, .int .i64 j, .int .u64 v] #[.int .i64 0, .int .i64 0, .int .u64 0, .int .u64 0] 134 79
  generalize (w.alloc (.cells #[.int .i64 cl, .int .i64 k, .int .i64 j, .int .u64 v] 134)).alloc (.cells #[.int .i64 0, .int .i64 0, .int .u64 0, .int .u64 0] 79) = W1 at m0 m1 hK hsz ⊢
  have HS := As.mk (LS.start (X := fun k => k = w.heap.size ∨ k = w.heap.size + 1) H.out hK (fun i hi => by rcases hi with rfl | rfl <;> omega))
  clear H hK hsz
  have M0 := As.mk m0
  have M1 := As.mk m1
  clear m0 m1
  generalize w.heap.size = b0 at M0 M1 HS ⊢
  refine (Claim_new HS.out.L.R HB.out.1).mono ?_
  rintro e w2 ⟨rfl, h2, k2⟩
  replace M0 := As.mk (HS.out.bkB M0.out (.inl rfl) k2)
  replace M1 := As.mk (HS.out.bkB M1.out (.inr rfl) k2)
  replace HS := As.mk (HS.out.ring h2 k2)
  clear h2 k2
  rw [HR.out.1, HR.out.2.1]
  have c0 := bk_cell M0.out 0
  have c1 := bk_cell M0.out 1
  have c2 := bk_cell M0.out 2
  have c3 := bk_cell M0.out 3
  go_wp2_with fail
  rw [HS.out.g]
  refine (MPut_new HS.out.L.M HB.out.2 v).mono ?_
  rintro e w3 ⟨C2, rfl, g2, h3, n3, k3⟩
  rw [HR.out.2.2.1, HR.out.2.2.2]
  replace M0 := As.mk (HS.out.bkC M0.out (.inl rfl) k3)
  replace M1 := As.mk (HS.out.bkC M1.out (.inr rfl) k3)
  replace HS := As.mk (HS.out.log h3 g2 n3 k3)
  clear h3 g2 n3 k3 c0 c1 c2 c3
  have c0 := bk_cell M0.out 0
  have c1 := bk_cell M0.out 1
  have c2 := bk_cell M0.out 2
  have c3 := bk_cell M0.out 3
  have y0 := bk_fz M1.out 0
  have y1 := bk_fz M1.out 1
  have y2 := bk_fz M1.out 2
  have y3 := bk_fz M1.out 3
  have d0 := bk_cell M1.out 0
  have d1 := bk_cell M1.out 1
  have d2 := bk_cell M1.out 2
  have d3 := bk_cell M1.out 3
  have s1 := ne_selfm e0
  have s2 := ne_selfm t0
  rcases HX.out with ⟨he, hr⟩ | ⟨he, hr⟩
  · subst he; subst hr
    go_wp2_with fail
    refine bodyPost_ret (results_ct rfl _ _ (b0 + 1) 79 _ (0, 0) _ (.bool true) rfl rfl (by (with_reducible repeat (first | exact M1.out | refine st_drew ?_ | apply st_same | refine st_far (by omega) ?_ | (refine st_new ?_; (first | with_reducible rfl | assumption | (simp; done) | (simp; omega))) | refine st_alloc ?_))) Try.underlying79 rfl (by kernel_rfl)) rfl ?_
    refine (fun (k : Kp (fun k => k = b0 ∨ k = b0 + 1) _ _) => ⟨_, rfl, (HS.out.inX k).drop⟩) ?_
    (with_reducible repeat (first | exact Kp.refl _ w3 | refine kp_drew ?_ | refine kp_in (by first | exact rfl | exact Or.inl rfl | exact Or.inr rfl | exact Or.inr (Or.inl rfl) | exact Or.inr (Or.inr rfl)) ?_ | refine kp_new (by omega) ?_ | refine kp_alloc ?_))
  · have s3 : (e0 != 0) = true := by simpa using he
    subst hr
    clear he HX
    go_wp2_with fail
    refine bodyPost_ret (results_ct rfl _ _ (b0 + 1) 79 _ (0, 0) _ (.bool true) rfl rfl (by (with_reducible repeat (first | exact M1.out | refine st_drew ?_ | apply st_same | refine st_far (by omega) ?_ | (refine st_new ?_; (first | with_reducible rfl | assumption | (simp; done) | (simp; omega))) | refine st_alloc ?_))) Try.underlying79 rfl (by kernel_rfl)) rfl ?_
    refine (fun (k : Kp (fun k => k = b0 ∨ k = b0 + 1) _ _) => ⟨_, rfl, (HS.out.inX k).drop⟩) ?_
    (with_reducible repeat (first | exact Kp.refl _ w3 | refine kp_drew ?_ | refine kp_in (by first | exact rfl | exact Or.inl rfl | exact Or.inr rfl | exact Or.inr (Or.inl rfl) | exact Or.inr (Or.inr rfl)) ?_ | refine kp_new (by omega) ?_ | refine kp_alloc ?_))
set_option maxRecDepth 100000 in
set_option maxHeartbeats 6400000 in
theorem begin_claim1 (h : LM W w B C r m) (cl k j v : Int) (hq : Int.tmod (IntKind.u64.wrap k) 5 = 1) (hb : r.tail + 1 < 9223372036854775808) (hb2 : m.l.length < 1000000) (t0 e0 : Int) (hr1 : (rClaim r).1 = t0) (hr2 : (rClaim r).2.1 = e0) (hm1 : (mPut m v).1 = t0) (hm2 : (mPut m v).2.1 = e0) (res : Array Value) (hres : (e0 = 0 ∧ res = #[.int .i64 1, .int .i64 0, .int .u64 t0, .int .u64 v]) ∨ (e0 ≠ 0 ∧ res = #[.int .i64 0, .int .i64 0, .int .u64 0, .int .u64 0])) : Calls Try.prog 79 #[.pointer (some ⟨B.g, 0, none⟩), .pointer (some ⟨C.g, 0, none⟩), .agg #[.int .i64 cl, .int .i64 k, .int .i64 j, .int .u64 v]] w (LSPost W w B C (.tuple #[.agg res, .bool true]) (rClaim r).2.2 (mPut m v).2.2) := by
  have H := As.mk h
  clear h
  have HB := As.mk (And.intro hb hb2)
  have HR := As.mk (And.intro hr1 (And.intro hr2 (And.intro hm1 hm2)))
  have HX := As.mk hres
  clear hb hb2 hr1 hr2 hm1 hm2 hres
  go_enter Try.func79, Try.ntmps79
  go_wp2_with fail
  obtain ⟨m0, m1, hK, hsz⟩ := alloc2 (w := w) #[.int .i64 cl, .int .i64 k, .int .i64 j, .int .u64 v] #[.int .i64 0, .int .i64 0, .int .u64 0, .int .u64 0] 134 79
  generalize (w.alloc (.cells #[.int .i64 cl, .int .i64 k, .int .i64 j, .int .u64 v] 134)).alloc (.cells #[.int .i64 0, .int .i64 0, .int .u64 0, .int .u64 0] 79) = W1 at m0 m1 hK hsz ⊢
  have HS := As.mk (LS.start (X := fun k => k = w.heap.size ∨ k = w.heap.size + 1) H.out hK (fun i hi => by rcases hi with rfl | rfl <;> omega))
  clear H hK hsz
  have M0 := As.mk m0
  have M1 := As.mk m1
  clear m0 m1
  generalize w.heap.size = b0 at M0 M1 HS ⊢
  refine (Claim_new HS.out.L.R HB.out.1).mono ?_
  rintro e w2 ⟨rfl, h2, k2⟩
  replace M0 := As.mk (HS.out.bkB M0.out (.inl rfl) k2)
  replace M1 := As.mk (HS.out.bkB M1.out (.inr rfl) k2)
  replace HS := As.mk (HS.out.ring h2 k2)
  clear h2 k2
  rw [HR.out.1, HR.out.2.1]
  have c0 := bk_cell M0.out 0
  have c1 := bk_cell M0.out 1
  have c2 := bk_cell M0.out 2
  have c3 := bk_cell M0.out 3
  go_wp2_with fail
  rw [HS.out.g]
  refine (MPut_new HS.out.L.M HB.out.2 v).mono ?_
  rintro e w3 ⟨C2, rfl, g2, h3, n3, k3⟩
  rw [HR.out.2.2.1, HR.out.2.2.2]
  replace M0 := As.mk (HS.out.bkC M0.out (.inl rfl) k3)
  replace M1 := As.mk (HS.out.bkC M1.out (.inr rfl) k3)
  replace HS := As.mk (HS.out.log h3 g2 n3 k3)
  clear h3 g2 n3 k3 c0 c1 c2 c3
  have c0 := bk_cell M0.out 0
  have c1 := bk_cell M0.out 1
  have c2 := bk_cell M0.out 2
  have c3 := bk_cell M0.out 3
  have y0 := bk_fz M1.out 0
  have y1 := bk_fz M1.out 1
  have y2 := bk_fz M1.out 2
  have y3 := bk_fz M1.out 3
  have d0 := bk_cell M1.out 0
  have d1 := bk_cell M1.out 1
  have d2 := bk_cell M1.out 2
  have d3 := bk_cell M1.out 3
  have s1 := ne_selfm e0
  have s2 := ne_selfm t0
  rcases HX.out with ⟨he, hr⟩ | ⟨he, hr⟩
  · subst he; subst hr
    go_wp2_with fail
    refine bodyPost_ret (results_ct rfl _ _ (b0 + 1) 79 _ (0, 0) _ (.bool true) rfl rfl (by (with_reducible repeat (first | exact M1.out | refine st_drew ?_ | apply st_same | refine st_far (by omega) ?_ | (refine st_new ?_; (first | with_reducible rfl | assumption | (simp; done) | (simp; omega))) | refine st_alloc ?_))) Try.underlying79 rfl (by kernel_rfl)) rfl ?_
    refine (fun (k : Kp (fun k => k = b0 ∨ k = b0 + 1) _ _) => ⟨_, rfl, (HS.out.inX k).drop⟩) ?_
    (with_reducible repeat (first | exact Kp.refl _ w3 | refine kp_drew ?_ | refine kp_in (by first | exact rfl | exact Or.inl rfl | exact Or.inr rfl | exact Or.inr (Or.inl rfl) | exact Or.inr (Or.inr rfl)) ?_ | refine kp_new (by omega) ?_ | refine kp_alloc ?_))
  · have s3 : (e0 != 0) = true := by simpa using he
    subst hr
    clear he HX
    go_wp2_with fail
    refine bodyPost_ret (results_ct rfl _ _ (b0 + 1) 79 _ (0, 0) _ (.bool true) rfl rfl (by (with_reducible repeat (first | exact M1.out | refine st_drew ?_ | apply st_same | refine st_far (by omega) ?_ | (refine st_new ?_; (first | with_reducible rfl | assumption | (simp; done) | (simp; omega))) | refine st_alloc ?_))) Try.underlying79 rfl (by kernel_rfl)) rfl ?_
    refine (fun (k : Kp (fun k => k = b0 ∨ k = b0 + 1) _ _) => ⟨_, rfl, (HS.out.inX k).drop⟩) ?_
    (with_reducible repeat (first | exact Kp.refl _ w3 | refine kp_drew ?_ | refine kp_in (by first | exact rfl | exact Or.inl rfl | exact Or.inr rfl | exact Or.inr (Or.inl rfl) | exact Or.inr (Or.inr rfl)) ?_ | refine kp_new (by omega) ?_ | refine kp_alloc ?_))
set_option maxRecDepth 100000 in
set_option maxHeartbeats 6400000 in
theorem begin_take2 (h : LM W w B C r m) (cl k j v : Int) (hq : Int.tmod (IntKind.u64.wrap k) 5 = 2) (t0 e0 v0 : Int) (hr1 : (rTake r j).1 = t0) (hr2 : (rTake r j).2.1 = e0) (hm1 : (mGet m j).1 = v0) (hm2 : (mGet m j).2.1 = e0) (hz : e0 ≠ 0 → t0 = 0) (res : Array Value) (hres : (e0 = 0 ∧ res = #[.int .i64 2, .int .i64 j, .int .u64 t0, .int .u64 v0]) ∨ (e0 ≠ 0 ∧ res = #[.int .i64 0, .int .i64 0, .int .u64 0, .int .u64 0])) : Calls Try.prog 79 #[.pointer (some ⟨B.g, 0, none⟩), .pointer (some ⟨C.g, 0, none⟩), .agg #[.int .i64 cl, .int .i64 k, .int .i64 j, .int .u64 v]] w (LSPost W w B C (.tuple #[.agg res, .bool true]) (rTake r j).2.2 (mGet m j).2.2) := by
  have H := As.mk h
  clear h
  have HR := As.mk (And.intro hr1 (And.intro hr2 (And.intro hm1 (And.intro hm2 hz))))
  have HX := As.mk hres
  clear hr1 hr2 hm1 hm2 hz hres
  go_enter Try.func79, Try.ntmps79
  go_wp2_with fail
  obtain ⟨m0, m1, hK, hsz⟩ := alloc2 (w := w) #[.int .i64 cl, .int .i64 k, .int .i64 j, .int .u64 v] #[.int .i64 0, .int .i64 0, .int .u64 0, .int .u64 0] 134 79
  generalize (w.alloc (.cells #[.int .i64 cl, .int .i64 k, .int .i64 j, .int .u64 v] 134)).alloc (.cells #[.int .i64 0, .int .i64 0, .int .u64 0, .int .u64 0] 79) = W1 at m0 m1 hK hsz ⊢
  have HS := As.mk (LS.start (X := fun k => k = w.heap.size ∨ k = w.heap.size + 1) H.out hK (fun i hi => by rcases hi with rfl | rfl <;> omega))
  clear H hK hsz
  have M0 := As.mk m0
  have M1 := As.mk m1
  clear m0 m1
  generalize w.heap.size = b0 at M0 M1 HS ⊢
  refine (Take_new HS.out.L.R j).mono ?_
  rintro e w2 ⟨rfl, h2, k2⟩
  replace M0 := As.mk (HS.out.bkB M0.out (.inl rfl) k2)
  replace M1 := As.mk (HS.out.bkB M1.out (.inr rfl) k2)
  replace HS := As.mk (HS.out.ring h2 k2)
  clear h2 k2
  rw [HR.out.1, HR.out.2.1]
  have c0 := bk_cell M0.out 0
  have c1 := bk_cell M0.out 1
  have c2 := bk_cell M0.out 2
  have c3 := bk_cell M0.out 3
  go_wp2_with fail
  rw [HS.out.g]
  refine (MGet_new HS.out.L.M j).mono ?_
  rintro e w3 ⟨rfl, h3, k3⟩
  rw [HR.out.2.2.1, HR.out.2.2.2.1]
  replace M0 := As.mk (HS.out.bkC M0.out (.inl rfl) k3)
  replace M1 := As.mk (HS.out.bkC M1.out (.inr rfl) k3)
  replace HS := As.mk (HS.out.log h3 rfl (fun k hk => .inl hk) k3)
  clear h3 k3 c0 c1 c2 c3
  have c0 := bk_cell M0.out 0
  have c1 := bk_cell M0.out 1
  have c2 := bk_cell M0.out 2
  have c3 := bk_cell M0.out 3
  have y0 := bk_fz M1.out 0
  have y1 := bk_fz M1.out 1
  have y2 := bk_fz M1.out 2
  have y3 := bk_fz M1.out 3
  have d0 := bk_cell M1.out 0
  have d1 := bk_cell M1.out 1
  have d2 := bk_cell M1.out 2
  have d3 := bk_cell M1.out 3
  have s1 := ne_selfm e0
  rcases HX.out with ⟨he, hr⟩ | ⟨he, hr⟩
  · subst he; subst hr
    go_wp2_with fail
    refine bodyPost_ret (results_ct rfl _ _ (b0 + 1) 79 _ (0, 0) _ (.bool true) rfl rfl (by (with_reducible repeat (first | exact M1.out | refine st_drew ?_ | apply st_same | refine st_far (by omega) ?_ | (refine st_new ?_; (first | with_reducible rfl | assumption | (simp; done) | (simp; omega))) | refine st_alloc ?_))) Try.underlying79 rfl (by kernel_rfl)) rfl ?_
    refine (fun (k : Kp (fun k => k = b0 ∨ k = b0 + 1) _ _) => ⟨_, rfl, (HS.out.inX k).drop⟩) ?_
    (with_reducible repeat (first | exact Kp.refl _ w3 | refine kp_drew ?_ | refine kp_in (by first | exact rfl | exact Or.inl rfl | exact Or.inr rfl | exact Or.inr (Or.inl rfl) | exact Or.inr (Or.inr rfl)) ?_ | refine kp_new (by omega) ?_ | refine kp_alloc ?_))
  · have s3 : (e0 != 0) = true := by simpa using he
    have ht := HR.out.2.2.2.2 he
    subst ht; subst hr
    clear he HX
    go_wp2_with fail
    refine bodyPost_ret (results_ct rfl _ _ (b0 + 1) 79 _ (0, 0) _ (.bool true) rfl rfl (by (with_reducible repeat (first | exact M1.out | refine st_drew ?_ | apply st_same | refine st_far (by omega) ?_ | (refine st_new ?_; (first | with_reducible rfl | assumption | (simp; done) | (simp; omega))) | refine st_alloc ?_))) Try.underlying79 rfl (by kernel_rfl)) rfl ?_
    refine (fun (k : Kp (fun k => k = b0 ∨ k = b0 + 1) _ _) => ⟨_, rfl, (HS.out.inX k).drop⟩) ?_
    (with_reducible repeat (first | exact Kp.refl _ w3 | refine kp_drew ?_ | refine kp_in (by first | exact rfl | exact Or.inl rfl | exact Or.inr rfl | exact Or.inr (Or.inl rfl) | exact Or.inr (Or.inr rfl)) ?_ | refine kp_new (by omega) ?_ | refine kp_alloc ?_))
set_option maxRecDepth 100000 in
set_option maxHeartbeats 6400000 in
theorem begin_take3 (h : LM W w B C r m) (cl k j v : Int) (hq : Int.tmod (IntKind.u64.wrap k) 5 = 3) (t0 e0 v0 : Int) (hr1 : (rTake r j).1 = t0) (hr2 : (rTake r j).2.1 = e0) (hm1 : (mGet m j).1 = v0) (hm2 : (mGet m j).2.1 = e0) (hz : e0 ≠ 0 → t0 = 0) (res : Array Value) (hres : (e0 = 0 ∧ res = #[.int .i64 2, .int .i64 j, .int .u64 t0, .int .u64 v0]) ∨ (e0 ≠ 0 ∧ res = #[.int .i64 0, .int .i64 0, .int .u64 0, .int .u64 0])) : Calls Try.prog 79 #[.pointer (some ⟨B.g, 0, none⟩), .pointer (some ⟨C.g, 0, none⟩), .agg #[.int .i64 cl, .int .i64 k, .int .i64 j, .int .u64 v]] w (LSPost W w B C (.tuple #[.agg res, .bool true]) (rTake r j).2.2 (mGet m j).2.2) := by
  have H := As.mk h
  clear h
  have HR := As.mk (And.intro hr1 (And.intro hr2 (And.intro hm1 (And.intro hm2 hz))))
  have HX := As.mk hres
  clear hr1 hr2 hm1 hm2 hz hres
  go_enter Try.func79, Try.ntmps79
  go_wp2_with fail
  obtain ⟨m0, m1, hK, hsz⟩ := alloc2 (w := w) #[.int .i64 cl, .int .i64 k, .int .i64 j, .int .u64 v] #[.int .i64 0, .int .i64 0, .int .u64 0, .int .u64 0] 134 79
  generalize (w.alloc (.cells #[.int .i64 cl, .int .i64 k, .int .i64 j, .int .u64 v] 134)).alloc (.cells #[.int .i64 0, .int .i64 0, .int .u64 0, .int .u64 0] 79) = W1 at m0 m1 hK hsz ⊢
  have HS := As.mk (LS.start (X := fun k => k = w.heap.size ∨ k = w.heap.size + 1) H.out hK (fun i hi => by rcases hi with rfl | rfl <;> omega))
  clear H hK hsz
  have M0 := As.mk m0
  have M1 := As.mk m1
  clear m0 m1
  generalize w.heap.size = b0 at M0 M1 HS ⊢
  refine (Take_new HS.out.L.R j).mono ?_
  rintro e w2 ⟨rfl, h2, k2⟩
  replace M0 := As.mk (HS.out.bkB M0.out (.inl rfl) k2)
  replace M1 := As.mk (HS.out.bkB M1.out (.inr rfl) k2)
  replace HS := As.mk (HS.out.ring h2 k2)
  clear h2 k2
  rw [HR.out.1, HR.out.2.1]
  have c0 := bk_cell M0.out 0
  have c1 := bk_cell M0.out 1
  have c2 := bk_cell M0.out 2
  have c3 := bk_cell M0.out 3
  go_wp2_with fail
  rw [HS.out.g]
  refine (MGet_new HS.out.L.M j).mono ?_
  rintro e w3 ⟨rfl, h3, k3⟩
  rw [HR.out.2.2.1, HR.out.2.2.2.1]
  replace M0 := As.mk (HS.out.bkC M0.out (.inl rfl) k3)
  replace M1 := As.mk (HS.out.bkC M1.out (.inr rfl) k3)
  replace HS := As.mk (HS.out.log h3 rfl (fun k hk => .inl hk) k3)
  clear h3 k3 c0 c1 c2 c3
  have c0 := bk_cell M0.out 0
  have c1 := bk_cell M0.out 1
  have c2 := bk_cell M0.out 2
  have c3 := bk_cell M0.out 3
  have y0 := bk_fz M1.out 0
  have y1 := bk_fz M1.out 1
  have y2 := bk_fz M1.out 2
  have y3 := bk_fz M1.out 3
  have d0 := bk_cell M1.out 0
  have d1 := bk_cell M1.out 1
  have d2 := bk_cell M1.out 2
  have d3 := bk_cell M1.out 3
  have s1 := ne_selfm e0
  rcases HX.out with ⟨he, hr⟩ | ⟨he, hr⟩
  · subst he; subst hr
    go_wp2_with fail
    refine bodyPost_ret (results_ct rfl _ _ (b0 + 1) 79 _ (0, 0) _ (.bool true) rfl rfl (by (with_reducible repeat (first | exact M1.out | refine st_drew ?_ | apply st_same | refine st_far (by omega) ?_ | (refine st_new ?_; (first | with_reducible rfl | assumption | (simp; done) | (simp; omega))) | refine st_alloc ?_))) Try.underlying79 rfl (by kernel_rfl)) rfl ?_
    refine (fun (k : Kp (fun k => k = b0 ∨ k = b0 + 1) _ _) => ⟨_, rfl, (HS.out.inX k).drop⟩) ?_
    (with_reducible repeat (first | exact Kp.refl _ w3 | refine kp_drew ?_ | refine kp_in (by first | exact rfl | exact Or.inl rfl | exact Or.inr rfl | exact Or.inr (Or.inl rfl) | exact Or.inr (Or.inr rfl)) ?_ | refine kp_new (by omega) ?_ | refine kp_alloc ?_))
  · have s3 : (e0 != 0) = true := by simpa using he
    have ht := HR.out.2.2.2.2 he
    subst ht; subst hr
    clear he HX
    go_wp2_with fail
    refine bodyPost_ret (results_ct rfl _ _ (b0 + 1) 79 _ (0, 0) _ (.bool true) rfl rfl (by (with_reducible repeat (first | exact M1.out | refine st_drew ?_ | apply st_same | refine st_far (by omega) ?_ | (refine st_new ?_; (first | with_reducible rfl | assumption | (simp; done) | (simp; omega))) | refine st_alloc ?_))) Try.underlying79 rfl (by kernel_rfl)) rfl ?_
    refine (fun (k : Kp (fun k => k = b0 ∨ k = b0 + 1) _ _) => ⟨_, rfl, (HS.out.inX k).drop⟩) ?_
    (with_reducible repeat (first | exact Kp.refl _ w3 | refine kp_drew ?_ | refine kp_in (by first | exact rfl | exact Or.inl rfl | exact Or.inr rfl | exact Or.inr (Or.inl rfl) | exact Or.inr (Or.inr rfl)) ?_ | refine kp_new (by omega) ?_ | refine kp_alloc ?_))
set_option maxRecDepth 100000 in
set_option maxHeartbeats 6400000 in
theorem begin_close (h : LM W w B C r m) (cl k j v : Int) (hq : Int.tmod (IntKind.u64.wrap k) 5 = 4) : Calls Try.prog 79 #[.pointer (some ⟨B.g, 0, none⟩), .pointer (some ⟨C.g, 0, none⟩), .agg #[.int .i64 cl, .int .i64 k, .int .i64 j, .int .u64 v]] w (LSPost W w B C (.tuple #[.agg #[.int .i64 0, .int .i64 0, .int .u64 0, .int .u64 0], .bool true]) { r with closed := true } { m with closed := true }) := by
  have H := As.mk h
  clear h
  go_enter Try.func79, Try.ntmps79
  go_wp2_with fail
  obtain ⟨m0, m1, hK, hsz⟩ := alloc2 (w := w) #[.int .i64 cl, .int .i64 k, .int .i64 j, .int .u64 v] #[.int .i64 0, .int .i64 0, .int .u64 0, .int .u64 0] 134 79
  generalize (w.alloc (.cells #[.int .i64 cl, .int .i64 k, .int .i64 j, .int .u64 v] 134)).alloc (.cells #[.int .i64 0, .int .i64 0, .int .u64 0, .int .u64 0] 79) = W1 at m0 m1 hK hsz ⊢
  have HS := As.mk (LS.start (X := fun k => k = w.heap.size ∨ k = w.heap.size + 1) H.out hK (fun i hi => by rcases hi with rfl | rfl <;> omega))
  clear H hK hsz
  have M0 := As.mk m0
  have M1 := As.mk m1
  clear m0 m1
  generalize w.heap.size = b0 at M0 M1 HS ⊢
  refine (Close_new HS.out.L.R).mono ?_
  rintro e w2 ⟨rfl, h2, k2⟩
  replace M0 := As.mk (HS.out.bkB M0.out (.inl rfl) k2)
  replace M1 := As.mk (HS.out.bkB M1.out (.inr rfl) k2)
  replace HS := As.mk (HS.out.ring h2 k2)
  clear h2 k2
  go_wp2_with fail
  rw [HS.out.g]
  refine (MClose_new HS.out.L.M).mono ?_
  rintro e w3 ⟨rfl, h3, k3⟩
  replace M0 := As.mk (HS.out.bkC M0.out (.inl rfl) k3)
  replace M1 := As.mk (HS.out.bkC M1.out (.inr rfl) k3)
  replace HS := As.mk (HS.out.log h3 rfl (fun k hk => .inl hk) k3)
  clear h3 k3
  have y0 := bk_fz M1.out 0
  have y1 := bk_fz M1.out 1
  have y2 := bk_fz M1.out 2
  have y3 := bk_fz M1.out 3
  have d0 := bk_cell M1.out 0
  have d1 := bk_cell M1.out 1
  have d2 := bk_cell M1.out 2
  have d3 := bk_cell M1.out 3
  go_wp2_with fail
  refine bodyPost_ret (results_ct rfl _ _ (b0 + 1) 79 _ (0, 0) _ (.bool true) rfl rfl (by (with_reducible repeat (first | exact M1.out | refine st_drew ?_ | apply st_same | refine st_far (by omega) ?_ | (refine st_new ?_; (first | with_reducible rfl | assumption | (simp; done) | (simp; omega))) | refine st_alloc ?_))) Try.underlying79 rfl (by kernel_rfl)) rfl ?_
  refine (fun (k : Kp (fun k => k = b0 ∨ k = b0 + 1) _ _) => ⟨_, rfl, (HS.out.inX k).drop⟩) ?_
  (with_reducible repeat (first | exact Kp.refl _ w3 | refine kp_drew ?_ | refine kp_in (by first | exact rfl | exact Or.inl rfl | exact Or.inr rfl | exact Or.inr (Or.inl rfl) | exact Or.inr (Or.inr rfl)) ?_ | refine kp_new (by omega) ?_ | refine kp_alloc ?_))
def pv (x : P14) : Value := .agg #[.int .i64 x.k, .int .i64 x.j, .int .u64 x.t, .int .u64 x.v]
theorem kd5_tmod (s : S14) : Int.tmod (IntKind.u64.wrap s.k) 5 = kd5 s := by
  unfold kd5; exact Int.tmod_eq_emod_of_nonneg (by rw [IntKind.wrap_u64]; omega)
theorem begin_any {p q i : Nat} {N : List P14} (h : LM W w B C r m) (hl : Lin p q i r m N) (hi : i ≤ 1000) (s : S14) :
    Calls Try.prog 79 #[.pointer (some ⟨B.g, 0, none⟩), .pointer (some ⟨C.g, 0, none⟩), .agg #[.int .i64 s.cl, .int .i64 s.k, .int .i64 s.j, .int .u64 s.v]] w (LSPost W w B C (.tuple #[pv (bB r m s).1, .bool true]) (bB r m s).2.1 (bB r m s).2.2) := by
  have hk := kd5_tmod s
  have hle : 0 ≤ kd5 s ∧ kd5 s < 5 := by unfold kd5; omega
  have hti := hl.W.I.ti
  have htl := hl.tl
  have hA := hl.agreeP s.v
  have hT := hl.agreeT s.j
  unfold bB
  generalize kd5 s = q at hk hle ⊢
  rcases (show q = 0 ∨ q = 1 ∨ q = 2 ∨ q = 3 ∨ q = 4 by omega) with rfl | rfl | rfl | rfl | rfl
  · rw [if_pos (by decide)]
    have := begin_claim0 h s.cl s.k s.j s.v hk (by omega) (by omega) _ _ rfl rfl hA.1 hA.2.1
    by_cases e : (rClaim r).2.1 = 0
    · rw [if_pos e]; exact this _ (.inl ⟨e, rfl⟩)
    · rw [if_neg e]; exact this _ (.inr ⟨e, rfl⟩)
  · rw [if_pos (by decide)]
    have := begin_claim1 h s.cl s.k s.j s.v hk (by omega) (by omega) _ _ rfl rfl hA.1 hA.2.1
    by_cases e : (rClaim r).2.1 = 0
    · rw [if_pos e]; exact this _ (.inl ⟨e, rfl⟩)
    · rw [if_neg e]; exact this _ (.inr ⟨e, rfl⟩)
  · rw [if_neg (by decide), if_pos (by decide)]
    have := begin_take2 h s.cl s.k s.j s.v hk _ _ _ rfl rfl rfl hT.1 hT.2
    by_cases e : (rTake r s.j).2.1 = 0
    · rw [if_pos e]; exact this _ (.inl ⟨e, rfl⟩)
    · rw [if_neg e]; exact this _ (.inr ⟨e, rfl⟩)
  · rw [if_neg (by decide), if_pos (by decide)]
    have := begin_take3 h s.cl s.k s.j s.v hk _ _ _ rfl rfl rfl hT.1 hT.2
    by_cases e : (rTake r s.j).2.1 = 0
    · rw [if_pos e]; exact this _ (.inl ⟨e, rfl⟩)
    · rw [if_neg e]; exact this _ (.inr ⟨e, rfl⟩)
  · rw [if_neg (by decide), if_neg (by decide)]
    exact begin_close h s.cl s.k s.j s.v hk
set_option maxRecDepth 100000 in
set_option maxHeartbeats 6400000 in
theorem further_send (h : LM W w B C r m) (j t v : Int) (ht : 0 ≤ t) (e0 : Int) (hr1 : (rPublish r t v).1 = e0) (res : Array Value) (he : (e0 = 0 ∧ res = #[.int .i64 0, .int .i64 0, .int .u64 0, .int .u64 0]) ∨ (e0 = 8 ∧ res = #[.int .i64 1, .int .i64 j, .int .u64 t, .int .u64 v])) : Calls Try.prog 45 #[.pointer (some ⟨B.g, 0, none⟩), .agg #[.int .i64 1, .int .i64 j, .int .u64 t, .int .u64 v]] w (LSPost W w B C (.tuple #[.agg res, .bool true]) (rPublish r t v).2 m) := by
  have H := As.mk h
  clear h
  go_enter Try.func45, Try.ntmps45
  go_wp2_with fail
  obtain ⟨m0, m1, hK, hsz⟩ := alloc2 (w := w) #[.int .i64 1, .int .i64 j, .int .u64 t, .int .u64 v] #[.int .i64 0, .int .i64 0, .int .u64 0, .int .u64 0] 79 79
  generalize (w.alloc (.cells #[.int .i64 1, .int .i64 j, .int .u64 t, .int .u64 v] 79)).alloc (.cells #[.int .i64 0, .int .i64 0, .int .u64 0, .int .u64 0] 79) = W1 at m0 m1 hK hsz ⊢
  have HS := As.mk (LS.start (X := fun k => k = w.heap.size ∨ k = w.heap.size + 1) H.out hK (fun i hi => by rcases hi with rfl | rfl <;> omega))
  clear H hK hsz
  have M0 := As.mk m0
  have M1 := As.mk m1
  clear m0 m1
  generalize w.heap.size = b0 at M0 M1 HS ⊢
  refine (Publish_new HS.out.L.R ht).mono ?_
  rintro e w2 ⟨rfl, h2, k2⟩
  replace M0 := As.mk (HS.out.bkB M0.out (.inl rfl) k2)
  replace M1 := As.mk (HS.out.bkB M1.out (.inr rfl) k2)
  replace HS := As.mk (HS.out.ring h2 k2)
  clear h2 k2
  rw [hr1]
  clear hr1
  have c0 := bk_cell M0.out 0
  have c1 := bk_cell M0.out 1
  have c2 := bk_cell M0.out 2
  have c3 := bk_cell M0.out 3
  have y0 := bk_fz M1.out 0
  have y1 := bk_fz M1.out 1
  have y2 := bk_fz M1.out 2
  have y3 := bk_fz M1.out 3
  have d0 := bk_cell M1.out 0
  have d1 := bk_cell M1.out 1
  have d2 := bk_cell M1.out 2
  have d3 := bk_cell M1.out 3
  rcases he with ⟨rfl, rfl⟩ | ⟨rfl, rfl⟩
  · skip
    go_wp2_with fail
    refine bodyPost_ret (results_ct rfl _ _ (b0 + 1) 79 _ (0, 0) _ (.bool true) rfl rfl (by (with_reducible repeat (first | exact M1.out | refine st_drew ?_ | apply st_same | refine st_far (by omega) ?_ | (refine st_new ?_; (first | with_reducible rfl | assumption | (simp; done) | (simp; omega))) | refine st_alloc ?_))) Try.underlying79 rfl (by kernel_rfl)) rfl ?_
    refine (fun (k : Kp (fun k => k = b0 ∨ k = b0 + 1) _ _) => ⟨_, rfl, (HS.out.inX k).drop⟩) ?_
    (with_reducible repeat (first | exact Kp.refl _ w2 | refine kp_drew ?_ | refine kp_in (by first | exact rfl | exact Or.inl rfl | exact Or.inr rfl | exact Or.inr (Or.inl rfl) | exact Or.inr (Or.inr rfl)) ?_ | refine kp_new (by omega) ?_ | refine kp_alloc ?_))
  · skip
    go_wp2_with fail
    refine bodyPost_ret (results_ct rfl _ _ (b0 + 1) 79 _ (0, 0) _ (.bool true) rfl rfl (by (with_reducible repeat (first | exact M1.out | refine st_drew ?_ | apply st_same | refine st_far (by omega) ?_ | (refine st_new ?_; (first | with_reducible rfl | assumption | (simp; done) | (simp; omega))) | refine st_alloc ?_))) Try.underlying79 rfl (by kernel_rfl)) rfl ?_
    refine (fun (k : Kp (fun k => k = b0 ∨ k = b0 + 1) _ _) => ⟨_, rfl, (HS.out.inX k).drop⟩) ?_
    (with_reducible repeat (first | exact Kp.refl _ w2 | refine kp_drew ?_ | refine kp_in (by first | exact rfl | exact Or.inl rfl | exact Or.inr rfl | exact Or.inr (Or.inl rfl) | exact Or.inr (Or.inr rfl)) ?_ | refine kp_new (by omega) ?_ | refine kp_alloc ?_))
set_option maxRecDepth 100000 in
set_option maxHeartbeats 6400000 in
theorem further_recv (h : LM W w B C r m) (j t v : Int) (ht : 0 ≤ t) (e0 v0 : Int) (hr0 : (rRelease r j t).1 = v0) (hr1 : (rRelease r j t).2.1 = e0) (res : Array Value) (he : (e0 = 0 ∧ v0 = v ∧ res = #[.int .i64 0, .int .i64 0, .int .u64 0, .int .u64 0]) ∨ (e0 = 9 ∧ res = #[.int .i64 2, .int .i64 j, .int .u64 t, .int .u64 v])) : Calls Try.prog 45 #[.pointer (some ⟨B.g, 0, none⟩), .agg #[.int .i64 2, .int .i64 j, .int .u64 t, .int .u64 v]] w (LSPost W w B C (.tuple #[.agg res, .bool true]) (rRelease r j t).2.2 m) := by
  have H := As.mk h
  clear h
  go_enter Try.func45, Try.ntmps45
  go_wp2_with fail
  obtain ⟨m0, m1, hK, hsz⟩ := alloc2 (w := w) #[.int .i64 2, .int .i64 j, .int .u64 t, .int .u64 v] #[.int .i64 0, .int .i64 0, .int .u64 0, .int .u64 0] 79 79
  generalize (w.alloc (.cells #[.int .i64 2, .int .i64 j, .int .u64 t, .int .u64 v] 79)).alloc (.cells #[.int .i64 0, .int .i64 0, .int .u64 0, .int .u64 0] 79) = W1 at m0 m1 hK hsz ⊢
  have HS := As.mk (LS.start (X := fun k => k = w.heap.size ∨ k = w.heap.size + 1) H.out hK (fun i hi => by rcases hi with rfl | rfl <;> omega))
  clear H hK hsz
  have M0 := As.mk m0
  have M1 := As.mk m1
  clear m0 m1
  generalize w.heap.size = b0 at M0 M1 HS ⊢
  refine (Release_new HS.out.L.R ht j).mono ?_
  rintro e w2 ⟨rfl, h2, k2⟩
  replace M0 := As.mk (HS.out.bkB M0.out (.inl rfl) k2)
  replace M1 := As.mk (HS.out.bkB M1.out (.inr rfl) k2)
  replace HS := As.mk (HS.out.ring h2 k2)
  clear h2 k2
  rw [hr0, hr1]
  clear hr0 hr1
  have c0 := bk_cell M0.out 0
  have c1 := bk_cell M0.out 1
  have c2 := bk_cell M0.out 2
  have c3 := bk_cell M0.out 3
  have y0 := bk_fz M1.out 0
  have y1 := bk_fz M1.out 1
  have y2 := bk_fz M1.out 2
  have y3 := bk_fz M1.out 3
  have d0 := bk_cell M1.out 0
  have d1 := bk_cell M1.out 1
  have d2 := bk_cell M1.out 2
  have d3 := bk_cell M1.out 3
  rcases he with ⟨rfl, rfl, rfl⟩ | ⟨rfl, rfl⟩
  · skip
    go_upto_region 8 with fail
    go_region_held3 (fun w' => w'.cell? ⟨b0, 3, none⟩ = some (.int .u64 v0)) (first | exact c3 | go_keep) (fail)
    all_goals go_wp2_with fail
    refine bodyPost_ret (results_ct rfl _ _ (b0 + 1) 79 _ (0, 0) _ (.bool true) rfl rfl (by (with_reducible repeat (first | exact M1.out | refine st_drew ?_ | apply st_same | refine st_far (by omega) ?_ | (refine st_new ?_; (first | with_reducible rfl | assumption | (simp; done) | (simp; omega))) | refine st_alloc ?_))) Try.underlying79 rfl (by kernel_rfl)) rfl ?_
    refine (fun (k : Kp (fun k => k = b0 ∨ k = b0 + 1) _ _) => ⟨_, rfl, (HS.out.inX k).drop⟩) ?_
    (with_reducible repeat (first | exact Kp.refl _ w2 | refine kp_drew ?_ | refine kp_in (by first | exact rfl | exact Or.inl rfl | exact Or.inr rfl | exact Or.inr (Or.inl rfl) | exact Or.inr (Or.inr rfl)) ?_ | refine kp_new (by omega) ?_ | refine kp_alloc ?_))
  · skip
    go_wp2_with fail
    refine bodyPost_ret (results_ct rfl _ _ (b0 + 1) 79 _ (0, 0) _ (.bool true) rfl rfl (by (with_reducible repeat (first | exact M1.out | refine st_drew ?_ | apply st_same | refine st_far (by omega) ?_ | (refine st_new ?_; (first | with_reducible rfl | assumption | (simp; done) | (simp; omega))) | refine st_alloc ?_))) Try.underlying79 rfl (by kernel_rfl)) rfl ?_
    refine (fun (k : Kp (fun k => k = b0 ∨ k = b0 + 1) _ _) => ⟨_, rfl, (HS.out.inX k).drop⟩) ?_
    (with_reducible repeat (first | exact Kp.refl _ w2 | refine kp_drew ?_ | refine kp_in (by first | exact rfl | exact Or.inl rfl | exact Or.inr rfl | exact Or.inr (Or.inl rfl) | exact Or.inr (Or.inr rfl)) ?_ | refine kp_new (by omega) ?_ | refine kp_alloc ?_))
theorem further_any {p q i : Nat} {N : List P14} (h : LM W w B C r m) (hl : Lin p q i r m N) (hp : 1 ≤ p) (hp64 : p ≤ 64) (hq : 1 ≤ q) (hq8 : q ≤ 8) (hi : i ≤ 1000) {c : Nat} (hc : c < 6) (x : P14) (hx : atP N c = x) (hk : x.k ≠ 0) :
    Calls Try.prog 45 #[.pointer (some ⟨B.g, 0, none⟩), pv x] w (LSPost W w B C (.tuple #[pv (bF r x).1, .bool true]) (bF r x).2 m) := by
  subst hx
  have ht := (hl.tick hc hk).1
  rcases hl.kinds hc with h0 | h1 | h2
  · exact absurd h0 hk
  · have hP := hl.pubC hp hp64 hq hq8 hi hc h1
    have := further_send h (atP N c).j (atP N c).t (atP N c).v ht _ rfl
    unfold bF pv
    rw [if_pos h1, h1]
    by_cases e : (rPublish r (atP N c).t (atP N c).v).1 = 0
    · rw [if_pos e]; exact this _ (.inl ⟨e, rfl⟩)
    · rw [if_neg e]; rw [h1]; exact this _ (.inr ⟨by omega, rfl⟩)
  · have hP := hl.relC hp hp64 hq hq8 hi hc h2
    have := further_recv h (atP N c).j (atP N c).t (atP N c).v ht _ _ rfl rfl
    have hk1 : ¬ (atP N c).k = 1 := by omega
    unfold bF pv
    rw [if_neg hk1, h2]
    by_cases e : (rRelease r (atP N c).j (atP N c).t).2.1 = 0
    · rw [if_pos e]; exact this _ (.inl ⟨e, by rcases hP with h | h; exact h.2.2.1; omega, rfl⟩)
    · rw [if_neg e]; rw [h2]; exact this _ (.inr ⟨by omega, rfl⟩)
end
end Go.Proofs.Ytmejnhfggmmefaa.H
