/- Layer 13: where a ring, the reference's and a script lie, in a round of plays. No condition. -/
import Derived.Test.YtmejnhfggmmefaaR13G
import Derived.Test.YtmejnhfggmmefaaL13E
import Derived.Test.YtmejnhfggmmefaaSeqQ
namespace Go.Proofs.Ytmejnhfggmmefaa.H
open Go.RowKit
set_option linter.unusedVariables false
set_option linter.unusedSimpArgs false
variable {w : World}

theorem RG.form {w : World} {bb S : Nat → Prop} {e : Value} {r : Rg} (h : RG bb S w e r) : ∃ A1 c1 A2 c2, e = .agg #[.int .u64 r.L.length, .int .u64 r.tail, .slice A1 r.heads.length c1, .bool r.closed, .slice A2 r.L.length c2, .int .i64 r.heads.length] := by
  obtain ⟨vh, vl, rfl, ⟨A1, c1, rfl, -⟩, ⟨A2, c2, rfl, -⟩, -, -⟩ := h
  exact ⟨A1, c1, A2, c2, rfl⟩
/-- What is changed by whatever a round does to the ring, and to the reference's. -/
def Sg (B : RB) (g4 : Nat) (k : Nat) : Prop := B.own k ∨ k = g4
def rgA (A1 : Option Addr) (c1 : Nat) (A2 : Option Addr) (c2 : Nat) (r : Rg) : Array Value := #[.int .u64 r.L.length, .int .u64 r.tail, .slice A1 r.heads.length c1, .bool r.closed, .slice A2 r.L.length c2, .int .i64 r.heads.length]
structure P13 (w0 w : World) (B : RB) (r : Rg) (T : Int) (g4 : Nat) (O : List O12) (sb so : Nat) (A1 : Option Addr) (c1 : Nat) (A2 : Option Addr) (c2 : Nat) : Prop where
  R : RingIn w B r
  box : w.heap[g4]? = some (.cells (rgA A1 c1 A2 c2 r) 104 (0, 0))
  ref : RG (Sg B g4) (Sg B g4) w (.agg (rgA A1 c1 A2 c2 r)) r
  sc : ∀ j u, (oCells O)[j]? = some u → w.cell? ⟨sb, so + j, none⟩ = some u
  sbn : ¬ Sg B g4 sb
  gn : ¬ B.own g4
  g0 : w0.heap.size ≤ g4
  slt : sb < w0.heap.size
  tl : r.tail ≤ T
  K : Kp B.own w0 w
section
variable {w0 w w' : World} {B : RB} {r : Rg} {T : Int} {g4 : Nat} {O : List O12} {sb so : Nat} {A1 A2 : Option Addr} {c1 c2 : Nat}
theorem P13.kp (h : P13 w0 w B r T g4 O sb so A1 c1 A2 c2) (k : Kp no w w') : P13 w0 w' B r T g4 O sb so A1 c1 A2 c2 :=
  ⟨h.R.kp k (fun _ _ x => x), bk_kp h.box k (fun x => x), h.ref.kp k (fun _ x => x.elim), fun j u hj => by
    have := h.sc j u hj
    rw [World.cell?_of_block (k.block sb (World.block_lt_of_cell? _ _ this) (fun x => x))]; exact this, h.sbn, h.gn, h.g0, h.slt, h.tl, h.K.step k (fun _ _ x => x.elim)⟩
theorem P13.A (h : P13 w0 w B r T g4 O sb so A1 c1 A2 c2) (hT : T < 9223372036854775807) : RA13 r :=
  ⟨h.R.s.rarg, h.R.t0, by have := h.tl; omega, h.R.s.hR0, h.R.h0, h.R.s.le⟩
theorem P13.glt (h : P13 w0 w B r T g4 O sb so A1 c1 A2 c2) : ∀ k, Sg B g4 k → k < w.heap.size := by
  rintro k (hk | rfl)
  · exact h.R.glt k hk
  · exact bk_lt h.box
theorem P13.refAt (h : P13 w0 w B r T g4 O sb so A1 c1 A2 c2) (k : Kp no w w') : RG (Sg B g4) (Sg B g4) w' (.agg (rgA A1 c1 A2 c2 r)) r ∧ (∀ i, Sg B g4 i → i < w'.heap.size) ∧ w'.heap[g4]? = some (.cells (rgA A1 c1 A2 c2 r) 104 (0, 0)) ∧ RingIn w' B r :=
  ⟨h.ref.kp k (fun _ x => x.elim), fun i hi => Nat.lt_of_lt_of_le (h.glt i hi) k.size, bk_kp h.box k (fun x => x), h.R.kp k (fun _ _ x => x)⟩
theorem P13.grown (h : P13 w0 w B r T g4 O sb so A1 c1 A2 c2) (k : Kp no w w') : ∀ (d : Nat) (os : Array Obj), RingIn (Go.Sort.grow (redrawn w' d) os) B r := fun d os => (h.refAt k).2.2.2.kp (kp_grow w' d os) (fun _ _ x => x)
theorem P13.grownG (h : P13 w0 w B r T g4 O sb so A1 c1 A2 c2) (k : Kp no w w') : ∀ (d : Nat) (os : Array Obj), RG (Sg B g4) (Sg B g4) (Go.Sort.grow (redrawn w' d) os) (.agg (rgA A1 c1 A2 c2 r)) r := fun d os => (h.refAt (k.trans (kp_grow w' d os))).1
theorem P13.headAt (h : P13 w0 w B r T g4 O sb so A1 c1 A2 c2) {k : Nat} (hk : k < r.heads.length) : ∃ gh o, A1 = some ⟨gh, o, none⟩ ∧ gh < w.heap.size ∧ ∀ w', Kp no w w' → w'.cell? ⟨gh, o + k, none⟩ = some (.int .u64 (r.heads.getD k 0)) := by
  obtain ⟨vh, vl, e, h1, -, -, -⟩ := h.ref
  have e1 : vh = .slice A1 r.heads.length c1 := by unfold rgA at e; simp at e; exact e.1.symm
  subst e1
  obtain ⟨gh, o, c, e2, -, -, hc⟩ := h1.form (by rw [u64s_len]; omega)
  injection e2 with e2 _ _
  have hx := hc k _ (u64s_get _ k hk)
  have hl := World.block_lt_of_cell? _ _ hx
  exact ⟨gh, o, e2, hl, fun w' k' => by rw [World.cell?_of_block (k'.block gh hl (fun x => x))]; exact hx⟩
theorem P13.cells (h : P13 w0 w B r T g4 O sb so A1 c1 A2 c2) : w.cell? ⟨g4, 0, none⟩ = some (.int .u64 r.L.length) ∧ w.cell? ⟨g4, 1, none⟩ = some (.int .u64 r.tail) ∧ w.cell? ⟨g4, 2, none⟩ = some (.slice A1 r.heads.length c1) ∧ w.cell? ⟨g4, 3, none⟩ = some (.bool r.closed) ∧ w.cell? ⟨g4, 4, none⟩ = some (.slice A2 r.L.length c2) ∧ w.cell? ⟨g4, 5, none⟩ = some (.int .i64 r.heads.length) :=
  ⟨bk_cell h.box 0, bk_cell h.box 1, bk_cell h.box 2, bk_cell h.box 3, bk_cell h.box 4, bk_cell h.box 5⟩
/-- Behind the ring's call: the reference's value, as it is. -/
theorem P13.mid {wa : World} (h : P13 w0 w B r T g4 O sb so A1 c1 A2 c2) (k : Kp B.own w wa) : RG (Sg B g4) (Sg B g4) wa (.agg (rgA A1 c1 A2 c2 r)) r ∧ wa.heap[g4]? = some (.cells (rgA A1 c1 A2 c2 r) 104 (0, 0)) ∧ ∀ i, Sg B g4 i → i < wa.heap.size :=
  ⟨h.ref.kp k (fun i hi => ⟨.inl hi, .inl hi⟩), bk_kp h.box k h.gn, fun i hi => Nat.lt_of_lt_of_le (h.glt i hi) k.size⟩
theorem RG.more {w : World} {S S' : Nat → Prop} {e : Value} {r : Rg} (h : RG S S w e r) (hL : 0 < r.L.length) (hH : 0 < r.heads.length) (hS : ∀ i, S' i → S i ∨ w.heap.size ≤ i) : RG S' S' w e r := by
  obtain ⟨vh, vl, rfl, h1, h2, h3, h4⟩ := h
  refine ⟨vh, vl, rfl, h1, h2, fun k hk hs => ?_, fun k hk hs => ?_⟩
  · rcases hS k hs with h | h
    · exact h3 k hk h
    · obtain ⟨ab, ao, c, rfl, -, -, hc⟩ := h1.form (by rw [u64s_len]; omega)
      have e : ab = k := Option.some.inj hk
      have := World.block_lt_of_cell? _ _ (hc 0 _ (u64s_get _ 0 hH))
      simp only at this
      omega
  · rcases hS k hs with h | h
    · exact h4 k hk h
    · obtain ⟨ab, ao, c, rfl, -, -, hc⟩ := h2.form (by rw [slCells_len]; omega)
      have e : ab = k := Option.some.inj hk
      have := World.block_lt_of_cell? _ _ (hc 0 _ (by simpa using (slCells_get r.L 0 hL).1))
      simp only at this
      omega
/-- Behind a round: the ring's call, the reference's, and the reference's ring stored. -/
theorem P13.next {r' : Rg} {T' : Int} {wa wb wc : World} {S2 Sc : Nat → Prop} {B1 B2 : Option Addr} {d1 d2 : Nat} (h : P13 w0 w B r T g4 O sb so A1 c1 A2 c2) (ka : Kp B.own w wa) (Ra : RingIn wa B r') (kb : Kp no wa wb)
    (hr : RG S2 S2 wb (.agg (rgA B1 d1 B2 d2 r')) r') (hS2 : ∀ i, Sg B g4 i → S2 i) (hSc : ∀ i, Sc i → S2 i ∧ ¬ B.own i ∧ i ≠ sb ∧ w0.heap.size ≤ i) (kc : Kp Sc wb wc) {cs : Array Value} (hb : wc.heap[g4]? = some (.cells cs 104 (0, 0))) (hcs : cs = rgA B1 d1 B2 d2 r') (ht : r'.tail ≤ T') : P13 w0 wc B r' T' g4 O sb so B1 d1 B2 d2 := by
  subst hcs
  have hsz := h.K.size
  have hg := h.g0
  have hs := h.slt
  have hr2 := hr.kp kc (fun i e => ⟨(hSc i e).1, (hSc i e).1⟩)
  refine ⟨(Ra.kp kb (fun _ _ x => x)).kp kc (fun i hi e => (hSc i e).2.1 hi), hb, ?_, fun j u hj => ?_, h.sbn, h.gn, hg, hs, ht, ((h.K.trans ka).step kb (fun _ _ x => x.elim)).step kc (fun i hi e => by have := (hSc i e).2.2.2; omega)⟩
  · obtain ⟨vh, vl, e, q1, q2, q3, q4⟩ := hr2
    exact ⟨vh, vl, e, q1, q2, fun k hk hs => q3 k hk (hS2 k hs), fun k hk hs => q4 k hk (hS2 k hs)⟩
  · have h1 := h.sc j u hj
    have l1 := World.block_lt_of_cell? _ _ h1
    rw [World.cell?_of_block (kc.block sb (by have := ka.size; have := kb.size; omega) (fun e => (hSc _ e).2.2.1 rfl)), World.cell?_of_block (kb.block sb (by have := ka.size; omega) (fun x => x)), World.cell?_of_block (ka.block sb (by omega) (fun e => h.sbn (.inl e)))]
    exact h1
theorem P13.one (h : P13 w0 w B r T g4 O sb so A1 c1 A2 c2) : ∀ i, i = g4 → Sg B g4 i ∧ ¬ B.own i ∧ i ≠ sb ∧ w0.heap.size ≤ i := by
  rintro i rfl; exact ⟨.inr rfl, h.gn, fun e => h.sbn (.inr e.symm), h.g0⟩
end
theorem rpub_free' (r : Rg) (t v : Int) : ((rPublish r t v).1 == 0) = rFree r t := by
  by_cases hT : t < 4611686018427387904
  · unfold rPublish rFree sFree
    by_cases h1 : r.tail ≤ t
    · rw [if_pos h1, decide_eq_false (by omega)]; rfl
    · rw [if_neg h1, decide_eq_true (by omega), decide_eq_true hT, Bool.true_and, Bool.true_and]
      unfold sPut
      rw [if_pos (by omega)]
      by_cases h2 : (slAt r.L t).st < 2 * t
      · rw [if_pos h2]; symm; show _ = ((8 : Int) == 0); rw [show ((8 : Int) == 0) = false from rfl]; simp; omega
      · rw [if_neg h2]
        by_cases h3 : 2 * t < (slAt r.L t).st
        · rw [if_pos h3]; symm; show _ = ((11 : Int) == 0); rw [show ((11 : Int) == 0) = false from rfl]; simp; omega
        · rw [if_neg h3]; symm; show _ = ((0 : Int) == 0); rw [show ((0 : Int) == 0) = true from rfl]; simp; omega
  · unfold rPublish rFree sFree
    by_cases h1 : r.tail ≤ t
    · rw [if_pos h1, decide_eq_false (by omega)]; rfl
    · rw [if_neg h1, decide_eq_false hT, Bool.false_and, Bool.and_false]
      unfold sPut
      rw [if_neg hT]; simp
theorem rtake_empty (r : Rg) (j : Int) : ((rTake r j).2.1 != 0) = rEmpty r j := by
  unfold rTake rEmpty
  cases hj : rIs r j with
  | false => rw [if_neg (by decide)]; rfl
  | true =>
    rw [if_pos rfl]
    by_cases h : rHead r j = r.tail
    · rw [if_pos h, h]; simp; cases r.closed <;> simp
    · rw [if_neg h]; simp [h]
theorem set6 {W : World} {b : Nat} {y0 y1 y2 y3 y4 y5 : Value} (a0 a1 a2 a3 a4 a5 : Value) {T : TypeId} (h : W.heap[b]? = some (.cells #[y0, y1, y2, y3, y4, y5] T (0, 0))) :
    ((((((W.setCell ⟨b, 0, none⟩ a0).setCell ⟨b, 1, none⟩ a1).setCell ⟨b, 2, none⟩ a2).setCell ⟨b, 3, none⟩ a3).setCell ⟨b, 4, none⟩ a4).setCell ⟨b, 5, none⟩ a5).heap[b]? = some (.cells #[a0, a1, a2, a3, a4, a5] T (0, 0)) ∧
    Kp (· = b) W ((((((W.setCell ⟨b, 0, none⟩ a0).setCell ⟨b, 1, none⟩ a1).setCell ⟨b, 2, none⟩ a2).setCell ⟨b, 3, none⟩ a3).setCell ⟨b, 4, none⟩ a4).setCell ⟨b, 5, none⟩ a5) :=
  ⟨st_same (st_same (st_same (st_same (st_same (st_same h))))), kp_in rfl (kp_in rfl (kp_in rfl (kp_in rfl (kp_in rfl (kp_in rfl (Kp.refl _ _))))))⟩
theorem wp_loadRow {P : Program} {o : Oper} {a : Act} {w : World} {K : Act → World → Prop} {Q : Exit → Act → World → Prop} (x : Operand) (t : TypeId) (h : o.op = .load t x) {g : Nat} (hx : a.eval x = .pointer (some ⟨g, 0, none⟩)) {cs : Array Value} {T : TypeId} {fr : Nat × Nat} (hg : w.heap[g]? = some (.cells cs T fr)) {d : TypeDesc} (hu : P.underlying t = some d)
    (hd : (match d with | .struct _ | .array _ _ => true | _ => false) = true) (hi : (P.info? t).map (·.size) = some cs.size) (hk : K (a.put o.dst (.agg cs)) w) : o.wp P a w K Q := by
  unfold Oper.wp execOp
  rw [h]
  simp only [Instr.loadAt, hx, Instr.sureAddr, Sem.run_bind, Sem.run_pure, Result.andThen_ok, run_loadVar_row w g T t cs fr d hg hu hd hi]
  exact hk
theorem setRow_heap {w : World} {g : Nat} {cs old : Array Value} {T : TypeId} (h : w.heap[g]? = some (.cells old T (0, 0))) : (w.setRow g cs).heap[g]? = some (.cells cs T (0, 0)) := by simp [World.setRow, Array.getElem?_modify, h]
theorem setRow_kp {w W : World} {S : Nat → Prop} {g : Nat} {cs : Array Value} (hg : S g) (h : Kp S w W) : Kp S w (W.setRow g cs) :=
  ⟨h.os, h.tape, h.output, by have := h.size; simp [World.setRow]; omega, fun k hk hn => by
    have e : ¬ g = k := fun e => hn (e ▸ hg)
    rw [← h.block k hk hn]; simp [World.setRow, Array.getElem?_modify, e]⟩
theorem rDo_tail (r : Rg) (o : O12) : (rDo r o).2.2.tail ≤ r.tail + 1 := by
  have hT := rDo_tells r o
  have hk := kd_le o
  generalize (rDo r o).2.2 = r' at hT
  obtain ⟨h0, h1, h2, h3, h4⟩ := hT
  rcases (show kd o = 0 ∨ kd o = 1 ∨ kd o = 2 ∨ kd o = 3 ∨ kd o = 4 by omega) with h | h | h | h | h
  · rcases h0 h with ⟨-, -, -, -, e⟩ | ⟨-, e⟩
    · rw [e]; exact Int.le_refl _
    · rw [e]; omega
  · obtain ⟨L, e, -⟩ := h1 h; rw [e]; show r.tail ≤ r.tail + 1; omega
  · rcases h2 h with ⟨-, -, -, -, e⟩ | ⟨-, e⟩
    · rw [e]; show r.tail ≤ r.tail + 1; omega
    · rw [e]; omega
  · obtain ⟨L, e, -⟩ := h3 h; rw [e]; show r.tail ≤ r.tail + 1; omega
  · rw [h4 h]; show r.tail ≤ r.tail + 1; omega
theorem RG.close {w : World} {bb S : Nat → Prop} {A1 A2 : Option Addr} {c1 c2 : Nat} {r : Rg} (h : RG bb S w (.agg (rgA A1 c1 A2 c2 r)) r) : RG bb S w (.agg (rgA A1 c1 A2 c2 { r with closed := true })) { r with closed := true } := by
  obtain ⟨vh, vl, e, h1, h2, h3, h4⟩ := h
  unfold rgA at e
  simp at e
  obtain ⟨rfl, rfl⟩ := e
  exact ⟨_, _, rfl, h1, h2, h3, h4⟩
end Go.Proofs.Ytmejnhfggmmefaa.H
