/- Layer 13: rings of tickets, plainly, and how they lie in memory; least heads. No condition. -/
import Derived.Test.YtmejnhfggmmefaaSlF
namespace Go.Proofs.Ytmejnhfggmmefaa.H
open Go.RowKit
set_option linter.unusedVariables false
set_option linter.unusedSimpArgs false

def u64s (l : List Int) : List Value := l.map (Value.int .u64)
theorem u64s_len (l : List Int) : (u64s l).length = l.length * 1 := by simp [u64s]
theorem u64s_one (l : List Int) : ∀ u ∈ u64s l, u.oneCell' = true := by
  intro u hu; obtain ⟨x, _, rfl⟩ := List.mem_map.1 hu; rfl
theorem u64s_get (l : List Int) (i : Nat) (h : i < l.length) : (u64s l)[i]? = some (.int .u64 (l.getD i 0)) := by simp [u64s, h]
theorem u64s_set (l : List Int) (i : Nat) (x : Int) : (u64s l).set i (.int .u64 x) = u64s (l.set i x) := by simp [u64s]

/-- the least of numbers -/
def leastL : List Int → Int
  | [] => 0
  | x :: l => l.foldl min x
theorem foldl_min_le (l : List Int) : ∀ x, l.foldl min x ≤ x ∧ ∀ y ∈ l, l.foldl min x ≤ y := by
  induction l with
  | nil => intro x; simp
  | cons a l ih =>
    intro x
    have h := ih (min x a)
    simp only [List.foldl_cons, List.mem_cons]
    refine ⟨by omega, fun y hy => ?_⟩
    rcases hy with rfl | hy
    · omega
    · exact h.2 y hy
theorem foldl_min_mem (l : List Int) : ∀ x, l.foldl min x = x ∨ l.foldl min x ∈ l := by
  induction l with
  | nil => intro x; simp
  | cons a l ih =>
    intro x
    simp only [List.foldl_cons, List.mem_cons]
    rcases ih (min x a) with h | h
    · rcases Int.le_total x a with h2 | h2
      · left; rw [h]; omega
      · right; left; rw [h]; omega
    · right; right; exact h
theorem leastL_le {l : List Int} {x : Int} (h : x ∈ l) : leastL l ≤ x := by
  cases l with
  | nil => cases h
  | cons a l =>
    rcases List.mem_cons.1 h with rfl | h
    · exact (foldl_min_le l x).1
    · exact (foldl_min_le l a).2 x h
theorem leastL_mem {l : List Int} (h : 0 < l.length) : leastL l ∈ l := by
  cases l with
  | nil => simp at h
  | cons a l =>
    show l.foldl min a ∈ a :: l
    rcases foldl_min_mem l a with e | e
    · rw [e]; exact List.mem_cons_self
    · exact List.mem_cons_of_mem _ e

/-- Where a ring's parts lie. -/
structure RB where
  g : Nat
  hb : Nat
  hcap : Nat
  sg : Nat
  sb : Nat
  scap : Nat
/-- A ring as it stands. -/
structure Rg where
  tail : Int
  heads : List Int
  closed : Bool
  L : List Sl
def RB.own (B : RB) (k : Nat) : Prop := k = B.g ∨ k = B.hb ∨ k = B.sg ∨ k = B.sb
def Rg.cells (r : Rg) (B : RB) : Array Value := #[.int .u64 r.tail, .slice (some ⟨B.hb, 0, none⟩) r.heads.length B.hcap, .pointer (some ⟨B.sg, 0, none⟩), .int .u64 r.L.length, .bool r.closed]
structure RingIn (w : World) (B : RB) (r : Rg) : Prop where
  hd : w.heap[B.g]? = some (.cells (r.cells B) 140 (0, 0))
  hr : w.ownsRow 0 36 1 (.slice (some ⟨B.hb, 0, none⟩) r.heads.length B.hcap) r.heads.length (u64s r.heads)
  s : SlotsIn w B.sg B.sb B.scap r.L r.heads.length
  t0 : 0 ≤ r.tail
  t1 : r.tail < 9223372036854775808
  h0 : ∀ h ∈ r.heads, 0 ≤ h ∧ h ≤ r.tail
theorem Kp.set1 (w : World) (g i : Nat) (u : Value) : Kp (· = g) w (w.setCell ⟨g, i, none⟩ u) := (Kp.refl (· = g) w).setCell ⟨g, i, none⟩ rfl u
section
variable {w w' : World} {B : RB} {r : Rg}
theorem RingIn.hbk (h : RingIn w B r) : ∃ cur, w.heap[B.hb]? = some (.cells cur 36 (0, 0)) := by
  rcases h.hr.2 with ⟨h0, _⟩ | ⟨g', c, cur, h0, _, hg, _⟩
  · cases h0
  · injection h0 with h1; injection h1 with h1; injection h1 with h1
    exact ⟨cur, by rw [h1]; exact hg⟩
theorem RingIn.sbk (h : RingIn w B r) : ∃ cur, w.heap[B.sb]? = some (.cells cur 119 (0, 0)) := by
  rcases h.s.bk.2 with ⟨h0, _⟩ | ⟨g', c, cur, h0, _, hg, _⟩
  · cases h0
  · injection h0 with h1; injection h1 with h1; injection h1 with h1
    exact ⟨cur, by rw [h1]; exact hg⟩
theorem RingIn.g_hb (h : RingIn w B r) : B.g ≠ B.hb := by obtain ⟨c, hc⟩ := h.hbk; exact bk_ne h.hd hc (by decide)
theorem RingIn.g_sg (h : RingIn w B r) : B.g ≠ B.sg := bk_ne h.hd h.s.hd (by decide)
theorem RingIn.g_sb (h : RingIn w B r) : B.g ≠ B.sb := by obtain ⟨c, hc⟩ := h.sbk; exact bk_ne h.hd hc (by decide)
theorem RingIn.hb_sg (h : RingIn w B r) : B.hb ≠ B.sg := by obtain ⟨c, hc⟩ := h.hbk; exact bk_ne hc h.s.hd (by decide)
theorem RingIn.hb_sb (h : RingIn w B r) : B.hb ≠ B.sb := by obtain ⟨c, hc⟩ := h.hbk; obtain ⟨d, hd⟩ := h.sbk; exact bk_ne hc hd (by decide)
theorem RingIn.glt (h : RingIn w B r) : ∀ k, B.own k → k < w.heap.size := by
  rintro k (rfl | rfl | rfl | rfl)
  · exact bk_lt h.hd
  · obtain ⟨c, hc⟩ := h.hbk; exact bk_lt hc
  · exact h.s.glt
  · exact h.s.blt
theorem RingIn.c0 (h : RingIn w B r) : w.cell? ⟨B.g, 0, none⟩ = some (.int .u64 r.tail) := bk_cell h.hd 0
theorem RingIn.c1 (h : RingIn w B r) : w.cell? ⟨B.g, 1, none⟩ = some (.slice (some ⟨B.hb, 0, none⟩) r.heads.length B.hcap) := bk_cell h.hd 1
theorem RingIn.c2 (h : RingIn w B r) : w.cell? ⟨B.g, 2, none⟩ = some (.pointer (some ⟨B.sg, 0, none⟩)) := bk_cell h.hd 2
theorem RingIn.c3 (h : RingIn w B r) : w.cell? ⟨B.g, 3, none⟩ = some (.int .u64 r.L.length) := bk_cell h.hd 3
theorem RingIn.c4 (h : RingIn w B r) : w.cell? ⟨B.g, 4, none⟩ = some (.bool r.closed) := bk_cell h.hd 4
theorem RingIn.ch (h : RingIn w B r) {i : Nat} (hi : i < r.heads.length) : w.cell? ⟨B.hb, i, none⟩ = some (.int .u64 (r.heads.getD i 0)) := or_cell h.hr _ _ (u64s_get _ _ hi)
theorem RingIn.fz (h : RingIn w B r) (i : Nat) : w.frozen? ⟨B.g, i, none⟩ = false := bk_fz h.hd i
theorem RingIn.hfz (h : RingIn w B r) (i : Nat) : w.frozen? ⟨B.hb, i, none⟩ = false := h.hr.frozenAt i
theorem RingIn.kp {S : Nat → Prop} (h : RingIn w B r) (k : Kp S w w') (hn : ∀ i, B.own i → ¬ S i) : RingIn w' B r :=
  ⟨bk_kp h.hd k (hn _ (.inl rfl)), or_kp h.hr k (by intro c hc; cases hc; exact hn _ (.inr (.inl rfl))), h.s.kp k (hn _ (.inr (.inr (.inl rfl)))) (hn _ (.inr (.inr (.inr rfl)))), h.t0, h.t1, h.h0⟩
theorem RingIn.qd (h : RingIn w B r) (q : QD w w') : RingIn w' B r := ⟨bk_qd h.hd q, or_qd h.hr q, h.s.qd q, h.t0, h.t1, h.h0⟩
/-- The tail is changed. -/
theorem RingIn.setTail (h : RingIn w B r) {t : Int} (h0 : r.tail ≤ t) (h1 : t < 9223372036854775808) : RingIn (w.setCell ⟨B.g, 0, none⟩ (.int .u64 t)) B { r with tail := t } :=
  have k : Kp (· = B.g) w (w.setCell ⟨B.g, 0, none⟩ (.int .u64 t)) := Kp.set1 _ _ _ _
  ⟨bk_set h.hd 0 _ rfl, or_kp h.hr k (by intro c hc; cases hc; exact fun e => h.g_hb e.symm), h.s.kp k (fun e => h.g_sg e.symm) (fun e => h.g_sb e.symm), by have := h.t0; show 0 ≤ t; omega, h1, fun x hx => ⟨(h.h0 x hx).1, by have := (h.h0 x hx).2; show x ≤ t; omega⟩⟩
theorem RingIn.setClosed (h : RingIn w B r) (c : Bool) : RingIn (w.setCell ⟨B.g, 4, none⟩ (.bool c)) B { r with closed := c } :=
  have k : Kp (· = B.g) w (w.setCell ⟨B.g, 4, none⟩ (.bool c)) := Kp.set1 _ _ _ _
  ⟨bk_set h.hd 4 _ rfl, or_kp h.hr k (by intro c hc; cases hc; exact fun e => h.g_hb e.symm), h.s.kp k (fun e => h.g_sg e.symm) (fun e => h.g_sb e.symm), h.t0, h.t1, h.h0⟩
theorem RingIn.setHead (h : RingIn w B r) {i : Nat} (hi : i < r.heads.length) {t : Int} (h0 : 0 ≤ t) (h1 : t ≤ r.tail) : RingIn (w.setCell ⟨B.hb, i, none⟩ (.int .u64 t)) B { r with heads := r.heads.set i t } := by
  have k : Kp (· = B.hb) w (w.setCell ⟨B.hb, i, none⟩ (.int .u64 t)) := Kp.set1 _ _ _ _
  have h2 := (h.hr.stored i (.int .u64 t)).1
  rw [u64s_set] at h2
  refine ⟨?_, by simpa using h2, ?_, h.t0, h.t1, ?_⟩
  · have := bk_kp h.hd k h.g_hb
    simpa [Rg.cells] using this
  · have := h.s.kp k (fun e => h.hb_sg e.symm) (fun e => h.hb_sb e.symm)
    simpa using this
  · intro x hx
    rcases List.mem_or_eq_of_mem_set hx with hx | rfl
    · exact h.h0 x hx
    · exact ⟨h0, h1⟩
/-- The places have changed. -/
theorem RingIn.setSlots (h : RingIn w B r) {L : List Sl} (k : Kp (· = B.sb) w w') (hs : SlotsIn w' B.sg B.sb B.scap L r.heads.length) (hl : L.length = r.L.length) : RingIn w' B { r with L := L } :=
  ⟨by have := bk_kp h.hd k h.g_sb; simpa [Rg.cells, hl] using this, or_kp h.hr k (by intro c hc; cases hc; exact h.hb_sb), hs, h.t0, h.t1, h.h0⟩
end
theorem sPut_len (L : List Sl) (R : Nat) (t v : Int) : (sPut L R t v).2.length = L.length := by
  unfold sPut; split <;> (try split) <;> (try split) <;> simp
theorem sGet_len (L : List Sl) (R : Nat) (j t : Int) : (sGet L R j t).2.2.length = L.length := by
  unfold sGet; split <;> simp

/-- What the document says of rings. -/
def rFull (r : Rg) : Bool := decide ((r.L.length : Int) ≤ r.tail - leastL r.heads)
def rClaim (r : Rg) : Int × Int × Rg := if r.closed then (0, 10, r) else if rFull r then (0, 8, r) else (r.tail, 0, { r with tail := r.tail + 1 })
def rPublish (r : Rg) (t v : Int) : Int × Rg := if r.tail ≤ t then (11, r) else ((sPut r.L r.heads.length t v).1, { r with L := (sPut r.L r.heads.length t v).2 })
def rIs (r : Rg) (j : Int) : Bool := decide (0 ≤ j) && decide (j < (r.heads.length : Int))
def rHead (r : Rg) (j : Int) : Int := r.heads.getD j.toNat 0
def rEmpty (r : Rg) (j : Int) : Bool := !rIs r j || (rHead r j == r.tail)
def rTake (r : Rg) (j : Int) : Int × Int × Rg :=
  if rIs r j then (if rHead r j = r.tail then (0, if r.closed then 10 else 9, r) else (rHead r j, 0, { r with heads := r.heads.set j.toNat (rHead r j + 1) })) else (0, 1, r)
def rRelease (r : Rg) (j t : Int) : Int × Int × Rg :=
  if rIs r j then (if rHead r j ≤ t then (0, 11, r) else ((sGet r.L r.heads.length j t).1, (sGet r.L r.heads.length j t).2.1, { r with L := (sGet r.L r.heads.length j t).2.2 })) else (0, 1, r)
def rFree (r : Rg) (t : Int) : Bool := decide (t < r.tail) && sFree r.L t
def rHas (r : Rg) (j t : Int) : Bool := rIs r j && (decide (t < rHead r j) && (sGot r.L r.heads.length j t == 0))
end Go.Proofs.Ytmejnhfggmmefaa.H
