/- Layer 12: the places of a ring, plainly, and how they lie in memory. No condition. -/
import Derived.Test.YtmejnhfggmmefaaBase
namespace Go.Proofs.Ytmejnhfggmmefaa.H
open Go.RowKit
set_option linter.unusedVariables false
set_option linter.unusedSimpArgs false

structure Sl where
  st : Int
  v : Int
  left : Int
def Sl.vals (x : Sl) : List Value := [.int .u64 x.st, .int .u64 x.v, .int .i64 x.left]
def Sl.z : Sl := ⟨0, 0, 0⟩
def slCells (L : List Sl) : List Value := L.flatMap Sl.vals
theorem slCells_len (L : List Sl) : (slCells L).length = L.length * 3 := by
  induction L with
  | nil => rfl
  | cons x L ih => simp only [slCells, List.flatMap_cons, List.length_append, List.length_cons] at ih ⊢; rw [ih]; simp [Sl.vals]; omega
theorem slCells_one (L : List Sl) : ∀ u ∈ slCells L, u.oneCell' = true := by
  intro u hu
  obtain ⟨x, _, hx⟩ := List.mem_flatMap.1 hu
  simp [Sl.vals] at hx
  rcases hx with rfl | rfl | rfl <;> rfl
theorem slCells_append (L M : List Sl) : slCells (L ++ M) = slCells L ++ slCells M := by simp [slCells]
theorem slCells_get (L : List Sl) (i : Nat) (h : i < L.length) : (slCells L)[i * 3]? = some (.int .u64 (L.getD i Sl.z).st) ∧ (slCells L)[i * 3 + 1]? = some (.int .u64 (L.getD i Sl.z).v) ∧ (slCells L)[i * 3 + 2]? = some (.int .i64 (L.getD i Sl.z).left) := by
  induction L generalizing i with
  | nil => simp at h
  | cons x L ih =>
    cases i with
    | zero => simp [slCells, Sl.vals]
    | succ i =>
      have h2 := ih i (by simpa using h)
      have e : ∀ j, (slCells (x :: L))[(i + 1) * 3 + j]? = (slCells L)[i * 3 + j]? := by
        intro j
        rw [show (i + 1) * 3 + j = (i * 3 + j) + 3 from by omega]
        simp [slCells, Sl.vals]
      refine ⟨?_, ?_, ?_⟩
      · have := e 0; simp only [Nat.add_zero] at this; rw [this]; simpa using h2.1
      · rw [e 1]; simpa using h2.2.1
      · rw [e 2]; simpa using h2.2.2
theorem slCells_set (L : List Sl) (i : Nat) (h : i < L.length) (x : Sl) : (((slCells L).set (i * 3) (.int .u64 x.st)).set (i * 3 + 1) (.int .u64 x.v)).set (i * 3 + 2) (.int .i64 x.left) = slCells (L.set i x) := by
  induction L generalizing i with
  | nil => simp at h
  | cons y L ih =>
    cases i with
    | zero => simp [slCells, Sl.vals]
    | succ i =>
      have h2 := ih i (by simpa using h)
      have e : ∀ j (l : List Value) u, ((y.vals ++ l).set ((i + 1) * 3 + j) u) = y.vals ++ l.set (i * 3 + j) u := by
        intro j l u
        rw [show (i + 1) * 3 + j = (i * 3 + j) + 3 from by omega]
        simp [Sl.vals]
      have e0 : ∀ (l : List Value) u, ((y.vals ++ l).set ((i + 1) * 3) u) = y.vals ++ l.set (i * 3) u := fun l u => e 0 l u
      show ((((y.vals ++ slCells L).set _ _).set _ _).set _ _) = y.vals ++ slCells (L.set i x)
      rw [e0, e, e, h2]
theorem slCells_set0 (L : List Sl) (i : Nat) (h : i < L.length) (s : Int) : (slCells L).set (i * 3) (.int .u64 s) = slCells (L.set i ⟨s, (L.getD i Sl.z).v, (L.getD i Sl.z).left⟩) := by
  rw [← slCells_set L i h]
  have h3 := slCells_get L i h
  apply List.ext_getElem?
  intro j
  simp only [List.getElem?_set, List.length_set]
  have hl := slCells_len L
  by_cases h2 : i * 3 + 2 = j
  · subst h2; simp [h3.2.2]; omega
  · by_cases h1 : i * 3 + 1 = j
    · subst h1; simp [h3.2.1]; omega
    · simp [h1, h2]
theorem slCells_set2 (L : List Sl) (i : Nat) (h : i < L.length) (s : Int) : (slCells L).set (i * 3 + 2) (.int .i64 s) = slCells (L.set i ⟨(L.getD i Sl.z).st, (L.getD i Sl.z).v, s⟩) := by
  rw [← slCells_set L i h]
  have h3 := slCells_get L i h
  apply List.ext_getElem?
  intro j
  simp only [List.getElem?_set, List.length_set]
  have hl := slCells_len L
  by_cases h2 : i * 3 + 2 = j
  · subst h2; simp
  · by_cases h1 : i * 3 + 1 = j
    · subst h1; simp [h3.2.1]; omega
    · by_cases h0 : i * 3 = j
      · subst h0; simp [h3.1]; omega
      · simp [h0, h1, h2]

/-- A place in its bounds. -/
def Sl.ok (x : Sl) : Prop := 0 ≤ x.st ∧ x.st < 18446744073709551616 ∧ 0 ≤ x.left ∧ x.left < 256

/-- The places in memory: the object at block g, the row at block b. -/
structure SlotsIn (w : World) (g b cap : Nat) (L : List Sl) (R : Nat) : Prop where
  hd : w.heap[g]? = some (.cells #[.slice (some ⟨b, 0, none⟩) L.length cap, .int .i64 R] 122 (0, 0))
  bk : w.ownsRow 0 119 3 (.slice (some ⟨b, 0, none⟩) L.length cap) L.length (slCells L)
  pos : 0 < L.length
  le : L.length ≤ 64
  hR : R ≤ 8
  hR0 : 0 < R
  wf : ∀ x ∈ L, x.ok
section
variable {w w' : World} {g b cap : Nat} {L : List Sl} {R : Nat}
theorem SlotsIn.gb (h : SlotsIn w g b cap L R) : g ≠ b := by
  obtain ⟨_, hr⟩ := h.bk
  rcases hr with ⟨h0, _⟩ | ⟨g', c, cur, h0, _, hg, _⟩
  · cases h0
  · injection h0 with h1; injection h1 with h1; injection h1 with h1
    subst h1
    exact bk_ne h.hd hg (by decide)
theorem SlotsIn.c0 (h : SlotsIn w g b cap L R) : w.cell? ⟨g, 0, none⟩ = some (.slice (some ⟨b, 0, none⟩) L.length cap) := bk_cell h.hd 0
theorem SlotsIn.c1 (h : SlotsIn w g b cap L R) : w.cell? ⟨g, 1, none⟩ = some (.int .i64 R) := bk_cell h.hd 1
theorem SlotsIn.cell (h : SlotsIn w g b cap L R) {i : Nat} (hi : i < L.length) : w.cell? ⟨b, i * 3, none⟩ = some (.int .u64 (L.getD i Sl.z).st) ∧ w.cell? ⟨b, i * 3 + 1, none⟩ = some (.int .u64 (L.getD i Sl.z).v) ∧ w.cell? ⟨b, i * 3 + 2, none⟩ = some (.int .i64 (L.getD i Sl.z).left) := by
  have h3 := slCells_get L i hi
  exact ⟨or_cell h.bk _ _ h3.1, or_cell h.bk _ _ h3.2.1, or_cell h.bk _ _ h3.2.2⟩
theorem SlotsIn.fz (h : SlotsIn w g b cap L R) (i : Nat) : w.frozen? ⟨b, i, none⟩ = false := h.bk.frozenAt i
theorem SlotsIn.kp {S : Nat → Prop} (h : SlotsIn w g b cap L R) (k : Kp S w w') (hg : ¬ S g) (hb : ¬ S b) : SlotsIn w' g b cap L R :=
  ⟨bk_kp h.hd k hg, or_kp h.bk k (by intro c hc; cases hc; exact hb), h.pos, h.le, h.hR, h.hR0, h.wf⟩
theorem SlotsIn.qd (h : SlotsIn w g b cap L R) (q : QD w w') : SlotsIn w' g b cap L R := ⟨bk_qd h.hd q, or_qd h.bk q, h.pos, h.le, h.hR, h.hR0, h.wf⟩
theorem SlotsIn.glt (h : SlotsIn w g b cap L R) : g < w.heap.size := bk_lt h.hd
theorem SlotsIn.blt (h : SlotsIn w g b cap L R) : b < w.heap.size := (h.bk.lt b rfl).2
theorem okSet {L : List Sl} {x : Sl} (h : ∀ y ∈ L, y.ok) (hx : x.ok) (i : Nat) : ∀ y ∈ L.set i x, y.ok := by
  intro y hy
  rcases List.mem_or_eq_of_mem_set hy with h1 | rfl
  · exact h y h1
  · exact hx
theorem SlotsIn.at_ (h : SlotsIn w g b cap L R) {i : Nat} (hi : i < L.length) : (L.getD i Sl.z).ok := by
  have e : L.getD i Sl.z = L[i] := by simp [List.getD, hi]
  rw [e]; exact h.wf _ (List.getElem_mem hi)
theorem SlotsIn.put3 (h : SlotsIn w g b cap L R) {i : Nat} (hi : i < L.length) {s v l : Int} (hx : (⟨s, v, l⟩ : Sl).ok) :
    SlotsIn (((w.setCell ⟨b, i * 3, none⟩ (.int .u64 s)).setCell ⟨b, i * 3 + 1, none⟩ (.int .u64 v)).setCell ⟨b, i * 3 + 2, none⟩ (.int .i64 l)) g b cap (L.set i ⟨s, v, l⟩) R := by
  have e := slCells_set L i hi ⟨s, v, l⟩
  have h1 := ((h.bk.stored (i * 3) (.int .u64 s)).1.stored (i * 3 + 1) (.int .u64 v)).1.stored (i * 3 + 2) (.int .i64 l) |>.1
  rw [e] at h1
  refine ⟨?_, by simpa using h1, by simpa using h.pos, by simpa using h.le, h.hR, h.hR0, okSet h.wf hx i⟩
  rw [List.length_set]
  exact bk_far (bk_far (bk_far h.hd h.gb _) h.gb _) h.gb _
theorem SlotsIn.put0 (h : SlotsIn w g b cap L R) {i : Nat} (hi : i < L.length) {s : Int} (h0 : 0 ≤ s) (h1 : s < 18446744073709551616) :
    SlotsIn (w.setCell ⟨b, i * 3, none⟩ (.int .u64 s)) g b cap (L.set i ⟨s, (L.getD i Sl.z).v, (L.getD i Sl.z).left⟩) R := by
  have e := slCells_set0 L i hi s
  have h2 := (h.bk.stored (i * 3) (.int .u64 s)).1
  rw [e] at h2
  have ho := h.at_ hi
  refine ⟨?_, by simpa using h2, by simpa using h.pos, by simpa using h.le, h.hR, h.hR0, okSet (x := ⟨s, (L.getD i Sl.z).v, (L.getD i Sl.z).left⟩) h.wf ⟨h0, h1, ho.2.2.1, ho.2.2.2⟩ i⟩
  rw [List.length_set]
  exact bk_far h.hd h.gb _
theorem SlotsIn.put2 (h : SlotsIn w g b cap L R) {i : Nat} (hi : i < L.length) {l : Int} (h0 : 0 ≤ l) (h1 : l < 256) :
    SlotsIn (w.setCell ⟨b, i * 3 + 2, none⟩ (.int .i64 l)) g b cap (L.set i ⟨(L.getD i Sl.z).st, (L.getD i Sl.z).v, l⟩) R := by
  have e := slCells_set2 L i hi l
  have h2 := (h.bk.stored (i * 3 + 2) (.int .i64 l)).1
  rw [e] at h2
  have ho := h.at_ hi
  refine ⟨?_, by simpa using h2, by simpa using h.pos, by simpa using h.le, h.hR, h.hR0, okSet (x := ⟨(L.getD i Sl.z).st, (L.getD i Sl.z).v, l⟩) h.wf ⟨ho.1, ho.2.1, h0, h1⟩ i⟩
  rw [List.length_set]
  exact bk_far h.hd h.gb _
end

/-- the place of a ticket -/
def pl (L : List Sl) (t : Int) : Nat := (t % (L.length : Int)).toNat
theorem pl_lt {L : List Sl} (h : 0 < L.length) (t : Int) : pl L t < L.length := by
  have h1 : t % (L.length : Int) < (L.length : Int) := Int.emod_lt_of_pos _ (by omega)
  have h0 : 0 ≤ t % (L.length : Int) := Int.emod_nonneg _ (by omega)
  unfold pl; omega
def slAt (L : List Sl) (t : Int) : Sl := L.getD (pl L t) Sl.z
/-- the bit of a reader -/
def bitOf (left j : Int) : Bool := left / 2 ^ j.toNat % 2 == 1

/-- Put: an error, the places behind. -/
def sPut (L : List Sl) (R : Nat) (t v : Int) : Int × List Sl :=
  if t < 4611686018427387904 then (if (slAt L t).st < 2 * t then (8, L) else if 2 * t < (slAt L t).st then (11, L) else (0, L.set (pl L t) ⟨2 * t + 1, v, 2 ^ R - 1⟩)) else (1, L)
/-- what is wrong with getting -/
def sGot (L : List Sl) (R : Nat) (j t : Int) : Int :=
  if t < 4611686018427387904 ∧ 0 ≤ j ∧ j < R then (if (slAt L t).st < 2 * t + 1 then 9 else if 2 * t + 1 < (slAt L t).st then 11 else if bitOf (slAt L t).left j then 0 else 11) else 1
def sGet (L : List Sl) (R : Nat) (j t : Int) : Int × Int × List Sl :=
  if sGot L R j t = 0 then ((slAt L t).v, 0, L.set (pl L t) (if (slAt L t).left - 2 ^ j.toNat = 0 then ⟨2 * (t + L.length), 0, 0⟩ else ⟨(slAt L t).st, (slAt L t).v, (slAt L t).left - 2 ^ j.toNat⟩)) else (0, sGot L R j t, L)
def sFree (L : List Sl) (t : Int) : Bool := decide (t < 4611686018427387904) && ((slAt L t).st == 2 * t)
def sNew (n : Nat) : List Sl := (List.range n).map fun (k : Nat) => ⟨2 * (k : Int), 0, 0⟩

/- The bits of readers: 8 of them. -/
theorem pow_le8 {R : Nat} (h : R ≤ 8) : (2 : Int) ^ R ≤ 256 := by
  have : ∀ r : Fin 9, (2 : Int) ^ r.val ≤ 256 := by decide
  exact this ⟨R, by omega⟩
theorem pow_pos' (R : Nat) : (0 : Int) < 2 ^ R := Int.pow_pos (by decide)
theorem wrap_pow {R : Nat} (h : R ≤ 8) : wrap64 (2 ^ R) = 2 ^ R := by
  have h1 := pow_le8 h; have h2 := pow_pos' R; unfold wrap64; omega
theorem bits_and1 (l j : Nat) (hl : l < 256) (hj : j < 8) : bits .and .i64 ((l : Int) / 2 ^ j) 1 = (l : Int) / 2 ^ j % 2 := by
  have : ∀ l : Fin 256, ∀ j : Fin 8, bits .and .i64 ((l.val : Int) / 2 ^ j.val) 1 = (l.val : Int) / 2 ^ j.val % 2 := by decide +kernel
  exact this ⟨l, hl⟩ ⟨j, hj⟩
theorem bits_off (l j : Nat) (hl : l < 256) (hj : j < 8) (hb : (l : Int) / 2 ^ j % 2 = 1) : bits .andNot .i64 (l : Int) (2 ^ j) = (l : Int) - 2 ^ j ∧ 0 ≤ (l : Int) - 2 ^ j := by
  have : ∀ l : Fin 256, ∀ j : Fin 8, (l.val : Int) / 2 ^ j.val % 2 = 1 → bits .andNot .i64 (l.val : Int) (2 ^ j.val) = (l.val : Int) - 2 ^ j.val ∧ 0 ≤ (l.val : Int) - 2 ^ j.val := by decide +kernel
  exact this ⟨l, hl⟩ ⟨j, hj⟩ hb
end Go.Proofs.Ytmejnhfggmmefaa.H
