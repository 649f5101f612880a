/- Layer 14: what the laws' played does. No condition. -/
import Derived.Test.YtmejnhfggmmefaaL14I
import Derived.Test.YtmejnhfggmmefaaL13P
namespace Go.Proofs.Ytmejnhfggmmefaa.H
open Go.RowKit
set_option linter.unusedVariables false
set_option linter.unusedSimpArgs false

def pCells (N : List P14) : List Value := N.flatMap P14.vals
theorem pCells_len (N : List P14) : (pCells N).length = N.length * 4 := by
  induction N with
  | nil => rfl
  | cons x N ih => simp only [pCells, List.flatMap_cons, List.length_append, List.length_cons] at ih ⊢; rw [ih]; simp [P14.vals]; omega
theorem pCells_one (N : List P14) : ∀ u ∈ pCells N, u.oneCell' = true := by
  intro u hu
  obtain ⟨x, _, hx⟩ := List.mem_flatMap.1 hu
  simp [P14.vals] at hx
  rcases hx with rfl | rfl | rfl | rfl <;> rfl
theorem pCells_get (N : List P14) (i : Nat) (h : i < N.length) : (pCells N)[i * 4]? = some (.int .i64 (atP N i).k) ∧ (pCells N)[i * 4 + 1]? = some (.int .i64 (atP N i).j) ∧ (pCells N)[i * 4 + 2]? = some (.int .u64 (atP N i).t) ∧ (pCells N)[i * 4 + 3]? = some (.int .u64 (atP N i).v) := by
  have hk : ∀ o : P14, o.vals.length = 4 := fun _ => rfl
  have e : atP N i = N[i] := by simp [atP, List.getD, h]
  rw [e]
  refine ⟨?_, ?_, ?_, ?_⟩
  · rw [pCells, flat_get P14.vals 4 hk, if_neg (by decide), show i * 4 / 4 = i by omega, show i * 4 % 4 = 0 by omega, List.getElem?_eq_getElem h]; rfl
  · rw [pCells, flat_get P14.vals 4 hk, if_neg (by decide), show (i * 4 + 1) / 4 = i by omega, show (i * 4 + 1) % 4 = 1 by omega, List.getElem?_eq_getElem h]; rfl
  · rw [pCells, flat_get P14.vals 4 hk, if_neg (by decide), show (i * 4 + 2) / 4 = i by omega, show (i * 4 + 2) % 4 = 2 by omega, List.getElem?_eq_getElem h]; rfl
  · rw [pCells, flat_get P14.vals 4 hk, if_neg (by decide), show (i * 4 + 3) / 4 = i by omega, show (i * 4 + 3) % 4 = 3 by omega, List.getElem?_eq_getElem h]; rfl
theorem pCells_set (N : List P14) (i : Nat) (h : i < N.length) (x : P14) : ((((pCells N).set (i * 4) (.int .i64 x.k)).set (i * 4 + 1) (.int .i64 x.j)).set (i * 4 + 2) (.int .u64 x.t)).set (i * 4 + 3) (.int .u64 x.v) = pCells (N.set i x) := by
  induction N generalizing i with
  | nil => simp at h
  | cons y N ih =>
    cases i with
    | zero => simp [pCells, P14.vals]
    | succ i =>
      have h2 := ih i (by simpa using h)
      have e : ∀ j (l : List Value) u, ((y.vals ++ l).set ((i + 1) * 4 + j) u) = y.vals ++ l.set (i * 4 + j) u := by
        intro j l u
        rw [show (i + 1) * 4 + j = (i * 4 + j) + 4 from by omega]
        simp [P14.vals]
      have e0 : ∀ (l : List Value) u, ((y.vals ++ l).set ((i + 1) * 4) u) = y.vals ++ l.set (i * 4) u := fun l u => e 0 l u
      show (((((y.vals ++ pCells N).set _ _).set _ _).set _ _).set _ _) = y.vals ++ pCells (N.set i x)
      rw [e0, e, e, e, h2]
def pArr (N : List P14) : Array Value := (pCells N).toArray
theorem pArr_size (N : List P14) (h : N.length = 6) : (pArr N).size = 24 := by unfold pArr; rw [List.size_toArray, pCells_len, h]
theorem pArr_one (N : List P14) : (pArr N).all (·.oneCell') = true := by
  unfold pArr; rw [List.all_toArray, List.all_eq_true]; exact pCells_one N
section
variable {W W' w : World} {b c : Nat} {N : List P14} {T : TypeId}
theorem p_cells (h : W.heap[b]? = some (.cells (pArr N) T (0, 0))) (hc : c < N.length) : W.cell? ⟨b, c * 4, none⟩ = some (.int .i64 (atP N c).k) ∧ W.cell? ⟨b, c * 4 + 1, none⟩ = some (.int .i64 (atP N c).j) ∧ W.cell? ⟨b, c * 4 + 2, none⟩ = some (.int .u64 (atP N c).t) ∧ W.cell? ⟨b, c * 4 + 3, none⟩ = some (.int .u64 (atP N c).v) := by
  obtain ⟨h0, h1, h2, h3⟩ := pCells_get N c hc
  have q : ∀ i, W.cell? ⟨b, i, none⟩ = (pCells N)[i]? := fun i => by rw [bk_cell h i]; unfold pArr; simp
  exact ⟨by rw [q]; exact h0, by rw [q]; exact h1, by rw [q]; exact h2, by rw [q]; exact h3⟩
theorem p_set (h : W.heap[b]? = some (.cells (pArr N) T (0, 0))) (hc : c < N.length) (x : P14) :
    ((((W.setCell ⟨b, c * 4, none⟩ (.int .i64 x.k)).setCell ⟨b, c * 4 + 1, none⟩ (.int .i64 x.j)).setCell ⟨b, c * 4 + 2, none⟩ (.int .u64 x.t)).setCell ⟨b, c * 4 + 3, none⟩ (.int .u64 x.v)).heap[b]? = some (.cells (pArr (N.set c x)) T (0, 0)) ∧
    Kp (· = b) W ((((W.setCell ⟨b, c * 4, none⟩ (.int .i64 x.k)).setCell ⟨b, c * 4 + 1, none⟩ (.int .i64 x.j)).setCell ⟨b, c * 4 + 2, none⟩ (.int .u64 x.t)).setCell ⟨b, c * 4 + 3, none⟩ (.int .u64 x.v)) := by
  have h4 := st_same (v := .int .u64 x.v) (i := c * 4 + 3) (st_same (v := .int .u64 x.t) (i := c * 4 + 2) (st_same (v := .int .i64 x.j) (i := c * 4 + 1) (st_same (v := .int .i64 x.k) (i := c * 4) h)))
  refine ⟨?_, kp_in rfl (kp_in rfl (kp_in rfl (kp_in rfl (Kp.refl _ _))))⟩
  rw [h4]
  unfold pArr
  rw [List.setIfInBounds_toArray, List.setIfInBounds_toArray, List.setIfInBounds_toArray, List.setIfInBounds_toArray, pCells_set N c hc x]
end
theorem results_tct {P : Program} {fn : Func} {u u2 p : Tmp} {ty : TypeId} (h : fn.results = #[.tmp u, .cell p ty, .tmp u2]) (tmps : Array Value) (w : World) (g : Nat) (t : TypeId) (cs : Array Value) (fr : Nat × Nat) (d : TypeDesc) (x y : Value)
    (hx : tmps.getD u undef = x) (hy : tmps.getD u2 undef = y) (hp : tmps.getD p undef = .pointer (some ⟨g, 0, none⟩)) (hg : w.heap[g]? = some (.cells cs t fr))
    (hu : P.underlying ty = some d) (hd : (match d with | .struct _ | .array _ _ => true | _ => false) = true) (hi : (P.info? ty).map (·.size) = some cs.size) :
    (results fn tmps).run P w = .ok (.tuple #[x, .agg cs, y]) w := by
  have hp' : tmps[p]?.getD undef = .pointer (some ⟨g, 0, none⟩) := by simpa using hp
  have hx' : tmps[u]?.getD undef = x := by simpa using hx
  have hy' : tmps[u2]?.getD undef = y := by simpa using hy
  simp [results, h, hp', hx', hy', asAddr, run_loadVar_row w g t ty cs fr d hg hu hd hi]
theorem sCells14_get (l : List S14) (i : Nat) (h : i < l.length) : (sCells14 l)[i * 4]? = some (.int .i64 (l.getD i S14.z).cl) ∧ (sCells14 l)[i * 4 + 1]? = some (.int .i64 (l.getD i S14.z).k) ∧ (sCells14 l)[i * 4 + 2]? = some (.int .i64 (l.getD i S14.z).j) ∧ (sCells14 l)[i * 4 + 3]? = some (.int .u64 (l.getD i S14.z).v) := by
  have hk : ∀ o : S14, o.vals.length = 4 := fun _ => rfl
  have e : l.getD i S14.z = l[i] := by simp [List.getD, h]
  rw [e]
  refine ⟨?_, ?_, ?_, ?_⟩
  · rw [sCells14, flat_get S14.vals 4 hk, if_neg (by decide), show i * 4 / 4 = i by omega, show i * 4 % 4 = 0 by omega, List.getElem?_eq_getElem h]; rfl
  · rw [sCells14, flat_get S14.vals 4 hk, if_neg (by decide), show (i * 4 + 1) / 4 = i by omega, show (i * 4 + 1) % 4 = 1 by omega, List.getElem?_eq_getElem h]; rfl
  · rw [sCells14, flat_get S14.vals 4 hk, if_neg (by decide), show (i * 4 + 2) / 4 = i by omega, show (i * 4 + 2) % 4 = 2 by omega, List.getElem?_eq_getElem h]; rfl
  · rw [sCells14, flat_get S14.vals 4 hk, if_neg (by decide), show (i * 4 + 3) / 4 = i by omega, show (i * 4 + 3) % 4 = 3 by omega, List.getElem?_eq_getElem h]; rfl
theorem sCells14_len (l : List S14) : (sCells14 l).length = l.length * 4 := by
  unfold sCells14
  induction l with
  | nil => rfl
  | cons x l ih => rw [List.flatMap_cons, List.length_append, ih]; simp [S14.vals]; omega
/-- What holds in a round. -/
structure PL (w wr : World) (b1 b2 : Nat) (B : RB) (C : MB) (G : Nat) (p q i : Nat) (r : Rg) (m : Md) (N : List P14) : Prop where
  L : LM w wr B C r m
  I : Lin p q i r m N
  a : wr.heap[b2]? = some (.cells (pArr N) 80 (0, 0))
  z : wr.heap[b1]? = some (.cells (pArr (List.replicate 6 P14.z)) 80 (0, 0))
  g : C.g = G
  ne : b1 ≠ b2
  l1 : w.heap.size ≤ b1
  l2 : w.heap.size ≤ b2
  nB1 : ¬ B.own b1
  nB2 : ¬ B.own b2
  nC1 : ¬ C.own b1
  nC2 : ¬ C.own b2
theorem PL.kp {w wr w' : World} {b1 b2 : Nat} {B : RB} {C : MB} {G p q i : Nat} {r : Rg} {m : Md} {N : List P14} (h : PL w wr b1 b2 B C G p q i r m N) (k : Kp no wr w') : PL w w' b1 b2 B C G p q i r m N :=
  ⟨h.L.kp k, h.I, bk_kp h.a k (fun x => x), bk_kp h.z k (fun x => x), h.g, h.ne, h.l1, h.l2, h.nB1, h.nB2, h.nC1, h.nC2⟩
/-- behind a client's step: what it came to is stored. -/
theorem PL.next {w wr w1 w2 : World} {b1 b2 : Nat} {B : RB} {C C2 : MB} {G p q i : Nat} {r r2 : Rg} {m m2 : Md} {N : List P14} (h : PL w wr b1 b2 B C G p q i r m N) (k0 : Kp no wr w1) (hs : LS w w1 no B C w2 C2 r2 m2) {c : Nat} (hc : c < 6) {x : P14} (hL : Lin p q (i + 1) r2 m2 (N.set c x)) :
    w2.heap[b2]? = some (.cells (pArr N) 80 (0, 0)) ∧
    PL w ((((w2.setCell ⟨b2, c * 4, none⟩ (.int .i64 x.k)).setCell ⟨b2, c * 4 + 1, none⟩ (.int .i64 x.j)).setCell ⟨b2, c * 4 + 2, none⟩ (.int .u64 x.t)).setCell ⟨b2, c * 4 + 3, none⟩ (.int .u64 x.v)) b1 b2 B C2 G p q (i + 1) r2 m2 (N.set c x) := by
  have h1 := h.kp k0
  have ha := bk_kp h1.a hs.K (fun x => x.elim h.nB2 h.nC2)
  have hz := bk_kp h1.z hs.K (fun x => x.elim h.nB1 h.nC1)
  have hlt2 := bk_lt h1.a
  have hlt1 := bk_lt h1.z
  have n2 : ¬ C2.own b2 := fun hk => by
    rcases hs.n _ hk with h3 | h3
    · exact h.nC2 h3
    · omega
  have n1 : ¬ C2.own b1 := fun hk => by
    rcases hs.n _ hk with h3 | h3
    · exact h.nC1 h3
    · omega
  obtain ⟨s1, s2⟩ := p_set ha (c := c) (by have := h.I.n6; omega) x
  exact ⟨ha, hs.L.kpS s2 (fun k hk => by subst hk; exact ⟨h.l2, h.nB2, n2⟩), hL, s1, bk_kp hz s2 h.ne, hs.g.symm.trans h.g, h.ne, h.l1, h.l2, h.nB1, h.nB2, n1, n2⟩
def PlayPost (w : World) (p q : Nat) (e : Ending) (w' : World) : Prop := ∃ B C r m N i, e = .returned (.tuple #[.pointer (some ⟨B.g, 0, none⟩), .agg (pArr N), .bool true]) ∧ Lin p q i r m N ∧ i ≤ 300 ∧ LM w w' B C r m ∧ Kp no w w'
theorem cl_tmod (a : Int) : ∃ c : Nat, c < 6 ∧ Int.tmod (IntKind.u64.wrap a) 6 = c := by
  have h : Int.tmod (IntKind.u64.wrap a) 6 = IntKind.u64.wrap a % 6 := Int.tmod_eq_emod_of_nonneg (by rw [IntKind.wrap_u64]; omega)
  refine ⟨(IntKind.u64.wrap a % 6).toNat, by omega, by rw [h]; omega⟩

set_option maxRecDepth 100000 in
set_option maxHeartbeats 6400000 in
theorem played_any {w : World} (k : Int) (p q : Nat) (hm : rMay k p q = true) (hp1 : 1 ≤ p) (hp2 : p ≤ 64) (hq1 : 1 ≤ q) (hq2 : q ≤ 8) {v : Value} (O : List S14) (hl : O.length ≤ 300) (hrd : Rd w v O.length (sCells14 O)) :
    Calls Try.prog 42 #[.agg #[.int .i64 k, .int .i64 p, .int .i64 q], v] w (PlayPost w p q) := by
  have HM := As.mk hm
  have HP := As.mk (And.intro hp1 (And.intro hp2 (And.intro hq1 hq2)))
  have hO := As.mk hrd
  obtain ⟨A, cap, rfl, -⟩ := id hrd
  clear hm hp1 hp2 hq1 hq2 hrd
  go_enter Try.func42, Try.ntmps42
  go_wp2_with fail
  obtain ⟨m0, m1, hK, hsz⟩ := alloc2 (w := w) #[.int .i64 k, .int .i64 p, .int .i64 q] #[.int .i64 0, .int .i64 0, .int .u64 0, .int .u64 0, .int .i64 0, .int .i64 0, .int .u64 0, .int .u64 0, .int .i64 0, .int .i64 0, .int .u64 0, .int .u64 0, .int .i64 0, .int .i64 0, .int .u64 0, .int .u64 0, .int .i64 0, .int .i64 0, .int .u64 0, .int .u64 0, .int .i64 0, .int .i64 0, .int .u64 0, .int .u64 0] 23 80
  generalize (w.alloc (.cells #[.int .i64 k, .int .i64 p, .int .i64 q] 23)).alloc (.cells #[.int .i64 0, .int .i64 0, .int .u64 0, .int .u64 0, .int .i64 0, .int .i64 0, .int .u64 0, .int .u64 0, .int .i64 0, .int .i64 0, .int .u64 0, .int .u64 0, .int .i64 0, .int .i64 0, .int .u64 0, .int .u64 0, .int .i64 0, .int .i64 0, .int .u64 0, .int .u64 0, .int .i64 0, .int .i64 0, .int .u64 0, .int .u64 0] 80) = W1 at m0 m1 hK hsz ⊢
  change W1.heap[w.heap.size + 1]? = some (.cells (pArr (List.replicate 6 P14.z)) 80 (0, 0)) at m1
  generalize hb0 : w.heap.size = b0 at m0 m1 hsz ⊢
  refine (RNew_new k p q HM.out hK).mono ?_
  rintro e w2 ⟨B, rfl, hR, hnB, hk⟩
  replace m0 := bk_kp m0 hk (fun x => x)
  replace m1 := bk_kp m1 hk (fun x => x)
  have d0 := bk_cell m0 0
  have d1 := bk_cell m0 1
  have d2 := bk_cell m0 2
  go_wp2_with fail
  refine (MNew_new k p q HM.out hR.K).mono ?_
  rintro e w3 ⟨C, rfl, hC, hnC, hk3⟩
  replace m1 := bk_kp m1 hk3 (fun x => x)
  have hR3 := hR.kp hk3
  have hlt := hR.i.glt
  clear d0 d1 d2 m0
  have hL := As.mk (show LM w w3 B C ⟨0, List.replicate q 0, false, sNew p⟩ ⟨p, [], List.replicate q 0, false⟩ from ⟨hR3, hC, fun i hb hc => by have := hlt i hb; have := hnC i hc; omega⟩)
  have hi0 := As.mk (Lin.new (p := p) (q := q) HP.out.2.1 HP.out.2.2.1)
  have ha := heap_alloc_new w3 (.cells #[.int .i64 0, .int .i64 0, .int .u64 0, .int .u64 0, .int .i64 0, .int .i64 0, .int .u64 0, .int .u64 0, .int .i64 0, .int .i64 0, .int .u64 0, .int .u64 0, .int .i64 0, .int .i64 0, .int .u64 0, .int .u64 0, .int .i64 0, .int .i64 0, .int .u64 0, .int .u64 0, .int .i64 0, .int .i64 0, .int .u64 0, .int .u64 0] 80)
  change (w3.alloc (.cells #[.int .i64 0, .int .i64 0, .int .u64 0, .int .u64 0, .int .i64 0, .int .i64 0, .int .u64 0, .int .u64 0, .int .i64 0, .int .i64 0, .int .u64 0, .int .u64 0, .int .i64 0, .int .i64 0, .int .u64 0, .int .u64 0, .int .i64 0, .int .i64 0, .int .u64 0, .int .u64 0, .int .i64 0, .int .i64 0, .int .u64 0, .int .u64 0] 80)).heap[w3.heap.size]? = some (.cells (pArr (List.replicate 6 P14.z)) 80 (0, 0)) at ha
  have hk4 := (Kp.refl no w3).alloc (.cells #[.int .i64 0, .int .i64 0, .int .u64 0, .int .u64 0, .int .i64 0, .int .i64 0, .int .u64 0, .int .u64 0, .int .i64 0, .int .i64 0, .int .u64 0, .int .u64 0, .int .i64 0, .int .i64 0, .int .u64 0, .int .u64 0, .int .i64 0, .int .i64 0, .int .u64 0, .int .u64 0, .int .i64 0, .int .i64 0, .int .u64 0, .int .u64 0] 80)
  have hb2 : b0 + 1 < w2.heap.size := by have := hk.size; omega
  have hs3 := hk3.size
  have hPL := As.mk (show PL w (w3.alloc (.cells #[.int .i64 0, .int .i64 0, .int .u64 0, .int .u64 0, .int .i64 0, .int .i64 0, .int .u64 0, .int .u64 0, .int .i64 0, .int .i64 0, .int .u64 0, .int .u64 0, .int .i64 0, .int .i64 0, .int .u64 0, .int .u64 0, .int .i64 0, .int .i64 0, .int .u64 0, .int .u64 0, .int .i64 0, .int .i64 0, .int .u64 0, .int .u64 0] 80)) (b0 + 1) w3.heap.size B C C.g p q 0 ⟨0, List.replicate q 0, false, sNew p⟩ ⟨p, [], List.replicate q 0, false⟩ (List.replicate 6 P14.z) from
    ⟨hL.out.kp hk4, hi0.out, ha, bk_kp m1 hk4 (fun x => x), rfl, by omega, by omega, by have := hL.out.R.K.size; omega, fun hb => by have := hnB _ hb; omega, fun hb => by have := hlt _ hb; omega, fun hb => by have := hnC _ hb; omega, fun hb => by have := hC.i.lt _ hb; omega⟩)
  clear hR hnB hk hC hnC hk3 hR3 hlt hL hi0 ha hk4 hb2 hs3 m1 hsz hb0 hK
  go_wp2_with fail
  generalize w3.alloc (.cells #[.int .i64 0, .int .i64 0, .int .u64 0, .int .u64 0, .int .i64 0, .int .i64 0, .int .u64 0, .int .u64 0, .int .i64 0, .int .i64 0, .int .u64 0, .int .u64 0, .int .i64 0, .int .i64 0, .int .u64 0, .int .u64 0, .int .i64 0, .int .i64 0, .int .u64 0, .int .u64 0, .int .i64 0, .int .i64 0, .int .u64 0, .int .u64 0] 80) = W4 at hPL ⊢
  generalize w3.heap.size = b2 at hPL ⊢
  generalize b0 + 1 = b1 at hPL ⊢
  generalize hG : C.g = G at hPL ⊢
  generalize (⟨0, List.replicate q 0, false, sNew p⟩ : Rg) = r0 at hPL
  generalize (⟨p, [], List.replicate q 0, false⟩ : Md) = m0 at hPL
  generalize List.replicate 6 P14.z = N0 at hPL
  clear hG
  have hO' := hO
  go_loopw [35] (fun v35 wr => ∃ (i : Nat) (C : MB) (r : Rg) (m : Md) (N : List P14), i ≤ O.length ∧ v35 = .int .i64 i ∧ As (PL w wr b1 b2 B C G p q i r m N)) (fun v35 _ => O.length - (intOf v35).toNat)
  case atStart => exact ⟨0, _, _, _, _, Nat.zero_le _, rfl, hPL⟩
  case round =>
    obtain ⟨i, C, r, m, N, hi, rfl, hI⟩ := hrel
    clear hPL
    by_cases hlt : i < O.length
    · as_aux_lemma =>
        have hr := hO.out.kp hI.out.L.R.K (fun _ _ x => x)
        obtain ⟨ab, ao, c', he, -, -, hc⟩ := hr.form (by rw [sCells14_len]; omega)
        injection he with e1 e2 e3
        subst e1; subst e3; clear e2
        obtain ⟨h0, h1, h2, h3⟩ := sCells14_get O i hlt
        have k0 := hc _ _ h0
        have k1 := hc _ _ h1
        have k2 := hc _ _ h2
        have k3 := hc _ _ h3
        rw [← Nat.add_assoc] at k1 k2 k3
        generalize O.getD i S14.z = s at k0 k1 k2 k3
        obtain ⟨cl, kk, j, vv⟩ := s
        dsimp only at k0 k1 k2 k3
        obtain ⟨c, hc6, hcl⟩ := cl_tmod cl
        have HC6 := As.mk hc6
        have hwc : wrap64 (c : Int) = (c : Int) := by unfold wrap64; omega
        have hn6 := hI.out.I.n6
        have HI3 := As.mk (show i ≤ 1000 by omega)
        have hkA := As.mk ((Kp.refl no wr).alloc (.cells #[.int .i64 cl, .int .i64 kk, .int .i64 j, .int .u64 vv] 134))
        have hA := bk_kp hI.out.a hkA.out (fun x => x)
        obtain ⟨p0, p1, p2, p3⟩ := p_cells hA (c := c) (by omega)
        have st := heap_alloc_new wr (.cells #[.int .i64 cl, .int .i64 kk, .int .i64 j, .int .u64 vv] 134)
        have s0 := bk_cell st 0
        have s1 := bk_cell st 1
        have s2 := bk_cell st 2
        have s3 := bk_cell st 3
        have hlt2 : (i : Int) < (O.length : Int) := by omega
        have hnn : (0 : Int) ≤ (i : Int) := by omega
        have hi64 : i ≤ 300 := by omega
        generalize hxx : atP N c = x at p0 p1 p2 p3
        have HX := As.mk hxx
        obtain ⟨xk, xj, xt, xv⟩ := x
        dsimp only at p0 p1 p2 p3
        clear hr hc h0 h1 h2 h3 hA st hn6 hxx
        by_cases hz : xk = 0
        · subst hz
          go_wp2_with fail
          have hcc := begin_any (hI.out.L.kp hkA.out) hI.out.I HI3.out ⟨cl, kk, j, vv⟩
          rw [hI.out.g] at hcc
          refine hcc.mono ?_
          clear hcc
          rintro e w5 ⟨C5, rfl, hS⟩
          obtain ⟨ha, hP⟩ := hI.out.next hkA.out hS HC6.out (hI.out.I.begin HP.out.1 HP.out.2.1 HP.out.2.2.1 HP.out.2.2.2 HI3.out HC6.out (by rw [HX.out]) ⟨cl, kk, j, vv⟩)
          have HPN := As.mk hP
          clear hP hS
          generalize bB r m ⟨cl, kk, j, vv⟩ = x5 at HPN ⊢
          obtain ⟨x5, r5, m5⟩ := x5
          obtain ⟨d0, d1, d2, d3⟩ := p_cells ha (c := c) (by have := hI.out.I.n6; omega)
          have y0 := bk_fz ha (c * 4)
          have y1 := bk_fz ha (c * 4 + 1)
          have y2 := bk_fz ha (c * 4 + 2)
          have y3 := bk_fz ha (c * 4 + 3)
          unfold pv
          dsimp only at HPN ⊢
          clear ha p0 p1 p2 p3 s0 s1 s2 s3 k0 k1 k2 k3
          go_wp2_with fail
          exact ⟨⟨i + 1, C5, r5, m5, _, by omega, by go_num, HPN⟩, by simp [intOf]; omega⟩
        · have hzb : (xk == 0) = false := by simpa using hz
          go_wp2_with fail
          refine (further_any (hI.out.L.kp hkA.out) hI.out.I HP.out.1 HP.out.2.1 HP.out.2.2.1 HP.out.2.2.2 HI3.out HC6.out ⟨xk, xj, xt, xv⟩ HX.out hz).mono ?_
          rintro e w5 ⟨C5, rfl, hS⟩
          have hF := (hI.out.I.further HP.out.1 HP.out.2.1 HP.out.2.2.1 HP.out.2.2.2 HI3.out HC6.out (by rw [HX.out]; exact hz)).1
          rw [HX.out] at hF
          obtain ⟨ha, hP⟩ := hI.out.next hkA.out hS HC6.out hF
          have HPN := As.mk hP
          clear hP hS hF
          generalize bF r ⟨xk, xj, xt, xv⟩ = x5 at HPN ⊢
          obtain ⟨x5, r5⟩ := x5
          obtain ⟨d0, d1, d2, d3⟩ := p_cells ha (c := c) (by have := hI.out.I.n6; omega)
          have y0 := bk_fz ha (c * 4)
          have y1 := bk_fz ha (c * 4 + 1)
          have y2 := bk_fz ha (c * 4 + 2)
          have y3 := bk_fz ha (c * 4 + 3)
          unfold pv
          dsimp only at HPN ⊢
          clear ha p0 p1 p2 p3 s0 s1 s2 s3 k0 k1 k2 k3 hz hzb
          go_wp2_with fail
          exact ⟨⟨i + 1, C5, r5, m, _, by omega, by go_num, HPN⟩, by simp [intOf]; omega⟩
    · have hlt2 : ¬ (i : Int) < (O.length : Int) := by omega
      have ha := st_drew hI.out.a
      have hz := st_drew hI.out.z
      have hs := pArr_size N hI.out.I.n6
      have hi3 : i ≤ 300 := by omega
      go_wp2_with (first | (refine wpStill_op (by rfl) (by rfl) (fun K hK => ?_); refine wp_loadRow (.tmp 11) 80 rfl rfl ha Try.underlying80 rfl (by rw [hs]; kernel_rfl) ?_; simp only [Act.put, List.setIfInBounds_toArray, List.set_cons_zero, List.set_cons_succ]) | (refine wpList_store_row (by rfl) 80 (.tmp 5) (.tmp 74) rfl b1 (pArr N) rfl rfl 80 _ hz (by rw [hs]; kernel_rfl) (by rw [hs]; rfl) (pArr_one N) ?_; simp only [Act.put, List.setIfInBounds_toArray, List.set_cons_zero, List.set_cons_succ]) | (refine wpStill_op (by rfl) (by rfl) (fun K hK => ?_)) | (refine wpStill_nil ?_) | (refine wpStill_want (by rfl) (by rfl) (fun K hK => ?_)) | (refine wpStill_skip (by rfl) ?_; simp only [Act.put, List.setIfInBounds_toArray, List.set_cons_zero, List.set_cons_succ]) | (refine reg_tail (id := 5) 2 (by kernel_rfl) (by kernel_rfl) ?_; simp only [List.take_succ_cons, List.take_zero, List.drop_succ_cons, List.drop_zero]) | (refine reg_tail (id := 15) 2 (by kernel_rfl) (by kernel_rfl) ?_; simp only [List.take_succ_cons, List.take_zero, List.drop_succ_cons, List.drop_zero]) | (refine reg_tail (id := 17) 3 (by kernel_rfl) (by kernel_rfl) ?_; simp only [List.take_succ_cons, List.take_zero, List.drop_succ_cons, List.drop_zero]))
      refine bodyPost_ret (results_tct rfl _ _ b1 80 (pArr N) (0, 0) _ _ _ rfl rfl rfl (setRow_heap hz) Try.underlying80 rfl (by rw [hs]; kernel_rfl)) rfl ?_
      refine ⟨B, C, r, m, N, i, rfl, hI.out.I, hi3, ?_, ?_⟩
      · exact hI.out.L.kpS (setRow_kp (S := (· = b1)) rfl ((Kp.refl _ wr).drew)) (fun k hk => by subst hk; exact ⟨hI.out.l1, hI.out.nB1, hI.out.nC1⟩)
      · exact (hI.out.L.kpS (setRow_kp (S := (· = b1)) rfl ((Kp.refl _ wr).drew)) (fun k hk => by subst hk; exact ⟨hI.out.l1, hI.out.nB1, hI.out.nC1⟩)).R.K
end Go.Proofs.Ytmejnhfggmmefaa.H
