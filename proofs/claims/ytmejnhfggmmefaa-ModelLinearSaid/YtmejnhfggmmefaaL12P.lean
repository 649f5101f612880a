/- Layer 12's statements: plays: whatever is put and got, each answer is the reference's. No condition. -/
import Derived.Test.YtmejnhfggmmefaaR12F
import Derived.Test.YtmejnhfggmmefaaR12G
import Derived.Test.YtmejnhfggmmefaaR12H
namespace Go.Proofs.Ytmejnhfggmmefaa.H
open Go.RowKit
set_option linter.unusedVariables false
set_option linter.unusedSimpArgs false
variable {w : World} {L : List Sl} {R : Nat} {t v j : Int} {g b cap : Nat}

/-- An op of a script. -/
structure O12 where
  k : Int
  j : Int
  t : Int
  v : Int
def O12.z : O12 := ⟨0, 0, 0, 0⟩
def O12.vals (x : O12) : List Value := [.int .i64 x.k, .int .i64 x.j, .int .u64 x.t, .int .u64 x.v]
def oCells (l : List O12) : List Value := l.flatMap O12.vals
theorem oCells_len (l : List O12) : (oCells l).length = l.length * 4 := by
  induction l with
  | nil => rfl
  | cons x l ih => simp only [oCells, List.flatMap_cons, List.length_append] at ih ⊢; rw [ih]; simp [O12.vals]; omega
theorem oCells_get (l : List O12) (i : Nat) (h : i < l.length) : (oCells l)[i * 4]? = some (.int .i64 (l.getD i O12.z).k) ∧ (oCells l)[i * 4 + 1]? = some (.int .i64 (l.getD i O12.z).j) ∧ (oCells l)[i * 4 + 2]? = some (.int .u64 (l.getD i O12.z).t) ∧ (oCells l)[i * 4 + 3]? = some (.int .u64 (l.getD i O12.z).v) := by
  induction l generalizing i with
  | nil => simp at h
  | cons x l ih =>
    cases i with
    | zero => simp [oCells, O12.vals]
    | succ i =>
      have h2 := ih i (by simpa using h)
      have e : ∀ j, (oCells (x :: l))[(i + 1) * 4 + j]? = (oCells l)[i * 4 + j]? := by
        intro j
        rw [show (i + 1) * 4 + j = (i * 4 + j) + 4 from by omega]
        simp [oCells, O12.vals]
      refine ⟨?_, ?_, ?_, ?_⟩
      · have := e 0; simp only [Nat.add_zero] at this; rw [this]; simpa using h2.1
      · rw [e 1]; simpa using h2.2.1
      · rw [e 2]; simpa using h2.2.2.1
      · rw [e 3]; simpa using h2.2.2.2

theorem SlotsIn.rarg (h : SlotsIn w g b cap L R) : RArg L R := ⟨h.pos, h.le, h.hR, h.wf⟩

/-- Where the script, the ring and the reference's places lie, in a round. -/
structure P12 (w0 w : World) (g b cap : Nat) (L : List Sl) (R : Nat) (g4 : Nat) (vv : Value) (O : List O12) (sb so : Nat) : Prop where
  S : SlotsIn w g b cap L R
  box : w.heap[g4]? = some (.cells #[vv, .int .i64 R] 60 (0, 0))
  ref : RS (· = b) w (.agg #[vv, .int .i64 R]) L R
  sc : ∀ j u, (oCells O)[j]? = some u → w.cell? ⟨sb, so + j, none⟩ = some u
  sbb : sb ≠ b
  sb4 : sb ≠ g4
  slt : sb < w.heap.size
  new : w0.heap.size ≤ g4
  K : Kp (· = b) w0 w
theorem P12.kp {w0 w w' : World} {g4 : Nat} {vv : Value} {O : List O12} {sb so : Nat} (h : P12 w0 w g b cap L R g4 vv O sb so) (k : Kp no w w') : P12 w0 w' g b cap L R g4 vv O sb so where
  S := h.S.kp k (fun x => x) (fun x => x)
  box := bk_kp h.box k (fun x => x)
  ref := h.ref.kp k (fun _ x => x.elim)
  sc := fun j u hj => by rw [World.cell?_of_block (k.block sb h.slt (fun x => x))]; exact h.sc j u hj
  sbb := h.sbb
  sb4 := h.sb4
  slt := Nat.lt_of_lt_of_le h.slt k.size
  new := h.new
  K := h.K.step k (fun _ _ x => x.elim)
theorem P12.qd {w0 w w' : World} {g4 : Nat} {vv : Value} {O : List O12} {sb so : Nat} (h : P12 w0 w g b cap L R g4 vv O sb so) (k : QD w w') : P12 w0 w' g b cap L R g4 vv O sb so := h.kp (Kp.of_qd k)
theorem P12.g4b {w0 w : World} {g4 : Nat} {vv : Value} {O : List O12} {sb so : Nat} (h : P12 w0 w g b cap L R g4 vv O sb so) : g4 ≠ b := by
  obtain ⟨cur, hc⟩ := or_bk h.S.bk (b := b) rfl
  exact bk_ne h.box hc (by decide)
/-- .. behind what a ring's call has changed. -/
theorem P12.put {w0 w w' : World} {g4 : Nat} {vv : Value} {O : List O12} {sb so : Nat} (h : P12 w0 w g b cap L R g4 vv O sb so) (k : Kp (· = b) w w') :
    w'.heap[g4]? = some (.cells #[vv, .int .i64 R] 60 (0, 0)) ∧ RS (· = b) w' (.agg #[vv, .int .i64 R]) L R ∧ (∀ j u, (oCells O)[j]? = some u → w'.cell? ⟨sb, so + j, none⟩ = some u) ∧ sb < w'.heap.size ∧ Kp (· = b) w0 w' :=
  ⟨bk_kp h.box k h.g4b, h.ref.kp k (fun _ x => x), fun j u hj => by rw [World.cell?_of_block (k.block sb h.slt h.sbb)]; exact h.sc j u hj, Nat.lt_of_lt_of_le h.slt k.size, h.K.step k (fun _ _ x => x)⟩
end Go.Proofs.Ytmejnhfggmmefaa.H
