/- Layer 14: the bounded log, plainly, and how it lies in memory. No condition. -/
import Derived.Test.YtmejnhfggmmefaaRgH
namespace Go.Proofs.Ytmejnhfggmmefaa.H
open Go.RowKit
set_option linter.unusedVariables false
set_option linter.unusedSimpArgs false

def ints (l : List Int) : List Value := l.map (Value.int .i64)
theorem ints_len (l : List Int) : (ints l).length = l.length * 1 := by simp [ints]
theorem ints_one (l : List Int) : ∀ u ∈ ints l, u.oneCell' = true := by
  intro u hu; obtain ⟨x, _, rfl⟩ := List.mem_map.1 hu; rfl
theorem ints_get (l : List Int) (i : Nat) (h : i < l.length) : (ints l)[i]? = some (.int .i64 (l.getD i 0)) := by simp [ints, h]
theorem ints_set (l : List Int) (i : Nat) (x : Int) : (ints l).set i (.int .i64 x) = ints (l.set i x) := by simp [ints]

structure MB where
  g : Nat
  A : Option Addr
  c : Nat
  gb : Nat
  gcap : Nat
structure Md where
  most : Int
  l : List Int
  got : List Int
  closed : Bool
def MB.v (B : MB) (n : Nat) : Value := .slice B.A n B.c
def MB.own (B : MB) (k : Nat) : Prop := k = B.g ∨ k = B.gb ∨ B.A.map (·.block) = some k
theorem ownB (B : MB) (n : Nat) : (B.v n).ownBlock = B.A.map (·.block) := by unfold MB.v Value.ownBlock; cases B.A <;> rfl
def Md.cells (m : Md) (B : MB) : Array Value := #[.int .i64 m.most, B.v m.l.length, .slice (some ⟨B.gb, 0, none⟩) m.got.length B.gcap, .bool m.closed]
structure MdIn (w : World) (B : MB) (m : Md) : Prop where
  hd : w.heap[B.g]? = some (.cells (m.cells B) 114 (0, 0))
  hl : w.ownsRow 0 36 1 (B.v m.l.length) m.l.length (u64s m.l)
  hg : w.ownsRow 0 3 1 (.slice (some ⟨B.gb, 0, none⟩) m.got.length B.gcap) m.got.length (ints m.got)
  n0 : 0 < m.got.length
  n8 : m.got.length ≤ 8
  big : m.l.length ≤ 1000000
  m0 : 1 ≤ m.most
  m1 : m.most ≤ 64
  h0 : ∀ x ∈ m.got, 0 ≤ x ∧ x ≤ m.l.length
section
variable {w w' : World} {B : MB} {m : Md}
theorem MdIn.g_gb (h : MdIn w B m) : B.g ≠ B.gb := by obtain ⟨c, hc⟩ := or_bk h.hg rfl; exact bk_ne h.hd hc (by decide)
theorem MdIn.g_l (h : MdIn w B m) : ∀ k, B.A.map (·.block) = some k → B.g ≠ k := by
  intro k hk; obtain ⟨c, hc⟩ := or_bk h.hl (by rw [ownB]; exact hk); exact bk_ne h.hd hc (by decide)
theorem MdIn.gb_l (h : MdIn w B m) : ∀ k, B.A.map (·.block) = some k → B.gb ≠ k := by
  intro k hk; obtain ⟨c, hc⟩ := or_bk h.hl (by rw [ownB]; exact hk); obtain ⟨d, hd⟩ := or_bk h.hg rfl; exact bk_ne hd hc (by decide)
theorem MdIn.lt (h : MdIn w B m) : ∀ k, B.own k → k < w.heap.size := by
  rintro k (rfl | rfl | hk)
  · exact bk_lt h.hd
  · exact (h.hg.lt _ rfl).2
  · exact (h.hl.lt _ (by rw [ownB]; exact hk)).2
theorem MdIn.c0 (h : MdIn w B m) : w.cell? ⟨B.g, 0, none⟩ = some (.int .i64 m.most) := bk_cell h.hd 0
theorem MdIn.c1 (h : MdIn w B m) : w.cell? ⟨B.g, 1, none⟩ = some (.slice B.A m.l.length B.c) := bk_cell h.hd 1
theorem MdIn.c2 (h : MdIn w B m) : w.cell? ⟨B.g, 2, none⟩ = some (.slice (some ⟨B.gb, 0, none⟩) m.got.length B.gcap) := bk_cell h.hd 2
theorem MdIn.c3 (h : MdIn w B m) : w.cell? ⟨B.g, 3, none⟩ = some (.bool m.closed) := bk_cell h.hd 3
theorem MdIn.cg (h : MdIn w B m) {i : Nat} (hi : i < m.got.length) : w.cell? ⟨B.gb, i, none⟩ = some (.int .i64 (m.got.getD i 0)) := or_cell h.hg _ _ (ints_get _ _ hi)
theorem MdIn.fz (h : MdIn w B m) (i : Nat) : w.frozen? ⟨B.g, i, none⟩ = false := bk_fz h.hd i
theorem MdIn.gfz (h : MdIn w B m) (i : Nat) : w.frozen? ⟨B.gb, i, none⟩ = false := h.hg.frozenAt i
theorem MdIn.kp {S : Nat → Prop} (h : MdIn w B m) (k : Kp S w w') (hn : ∀ i, B.own i → ¬ S i) : MdIn w' B m :=
  ⟨bk_kp h.hd k (hn _ (.inl rfl)), or_kp h.hl k (fun b hb => hn _ (.inr (.inr (by rw [← ownB B m.l.length]; exact hb)))), or_kp h.hg k (by intro c hc; cases hc; exact hn _ (.inr (.inl rfl))), h.n0, h.n8, h.big, h.m0, h.m1, h.h0⟩
theorem MdIn.qd (h : MdIn w B m) (q : QD w w') : MdIn w' B m := h.kp (Kp.of_qd (S := no) q) (fun _ _ x => x)
theorem MdIn.setClosed (h : MdIn w B m) (c : Bool) : MdIn (w.setCell ⟨B.g, 3, none⟩ (.bool c)) B { m with closed := c } :=
  have k := Kp.set1 w B.g 3 (.bool c)
  ⟨bk_set h.hd 3 _ rfl, or_kp h.hl k (fun b hb e => h.g_l b (by rw [← ownB B m.l.length]; exact hb) e.symm), or_kp h.hg k (by intro c hc; cases hc; exact fun e => h.g_gb e.symm), h.n0, h.n8, h.big, h.m0, h.m1, h.h0⟩
theorem MdIn.setGot (h : MdIn w B m) {i : Nat} (hi : i < m.got.length) {t : Int} (h0 : 0 ≤ t) (h1 : t ≤ m.l.length) : MdIn (w.setCell ⟨B.gb, i, none⟩ (.int .i64 t)) B { m with got := m.got.set i t } := by
  have k := Kp.set1 w B.gb i (.int .i64 t)
  have h2 := (h.hg.stored i (.int .i64 t)).1
  rw [ints_set] at h2
  refine ⟨?_, or_kp h.hl k (fun b hb e => h.gb_l b (by rw [← ownB B m.l.length]; exact hb) e.symm), by simpa using h2, by simpa using h.n0, by simpa using h.n8, h.big, h.m0, h.m1, ?_⟩
  · have := bk_kp h.hd k h.g_gb
    simpa [Md.cells] using this
  · intro x hx
    rcases List.mem_or_eq_of_mem_set hx with hx | rfl
    · exact h.h0 x hx
    · exact ⟨h0, h1⟩
end
/-- What the document says of logs. -/
def mFull (m : Md) : Bool := decide (m.most ≤ (m.l.length : Int) - leastL m.got)
def mPut (m : Md) (v : Int) : Int × Int × Md := if m.closed then (0, 10, m) else if mFull m then (0, 8, m) else (m.l.length, 0, { m with l := m.l ++ [v] })
def mIs (m : Md) (j : Int) : Bool := decide (0 ≤ j) && decide (j < (m.got.length : Int))
def mGot (m : Md) (j : Int) : Int := m.got.getD j.toNat 0
def mGet (m : Md) (j : Int) : Int × Int × Md :=
  if mIs m j then (if mGot m j = m.l.length then (0, if m.closed then 10 else 9, m) else (m.l.getD (mGot m j).toNat 0, 0, { m with got := m.got.set j.toNat (mGot m j + 1) })) else (0, 1, m)
def mRest (m : Md) (j : Int) : List Int := if mIs m j then m.l.drop (mGot m j).toNat else []
end Go.Proofs.Ytmejnhfggmmefaa.H
