/- What the hand-walked contracts of this seat share: small words on worlds, rows and blocks. No condition. -/
import Derived.Test.YthoejimgdhfmiaaProg
import Derived.Below
import Derived.Deep.Draws
import Derived.Deep.AppendLies
import Derived.Maps.AppendAt
import Derived.OwnWalk
import Derived.Laws.MakeOwn
import Derived.Laws.OwnMore
import Derived.Laws.NewBlocks
import Derived.Laws.Bits64
import Derived.Laws.BitsAllLaws
import Derived.Tactics
import Derived.WalkKit
import Derived.KernelRfl
import Derived.RowKit3
import Derived.Deep.LoopGhost
import Derived.Deep.QuietTactic
import Derived.BigQuiet
import Derived.WideLaws
import Derived.Deep.DeepCutAuto
import Derived.Deep.CutBlock
import Derived.Deep.RegionHeld3
import Derived.Laws.Rows
import Derived.ArgAppend
import Derived.Laws.ResultCell
import Derived.OneCell
import Derived.WalkSpells
import Derived.WalkLawsBesides
import Derived.StillTailTactics
import Derived.Lib.MinMax
namespace Go.Proofs.Ythoejimgdhfmiaa.H
open Go.RowKit
set_option linter.unusedVariables false
set_option linter.unusedSimpArgs false

/-- A fact laid aside from the walk. -/
structure As (p : Prop) : Prop where mk :: (out : p)

/-- The world has drawn, and is as it was. -/
def QD (w w' : World) : Prop := ∃ n, w' = w.drewN n
theorem QD.refl (w : World) : QD w w := ⟨0, rfl⟩
theorem QD.n (w : World) (n : Nat) : QD w (w.drewN n) := ⟨n, rfl⟩
theorem QD.drew (w : World) : QD w w.drew := ⟨1, rfl⟩
theorem QD.trans {a b c : World} (h : QD a b) (k : QD b c) : QD a c := by
  obtain ⟨n, rfl⟩ := h; obtain ⟨m, rfl⟩ := k; exact ⟨n + m, by rw [World.drewN_drewN]⟩

/-- Nothing but these blocks has changed of what was there. -/
structure Kp (S : Nat → Prop) (w w' : World) : Prop where
  os : w'.os = w.os
  tape : w'.tape = w.tape
  output : w'.output = w.output
  size : w.heap.size ≤ w'.heap.size
  block : ∀ k, k < w.heap.size → ¬ S k → w'.heap[k]? = w.heap[k]?
def no (_ : Nat) : Prop := False
theorem Kp.refl (S : Nat → Prop) (w : World) : Kp S w w := ⟨rfl, rfl, rfl, Nat.le_refl _, fun _ _ _ => rfl⟩
theorem Kp.qd {S : Nat → Prop} {w w' w2 : World} (h : Kp S w w') (q : QD w' w2) : Kp S w w2 := by
  obtain ⟨n, rfl⟩ := q; exact ⟨h.os, h.tape, h.output, h.size, h.block⟩
theorem Kp.of_qd {S : Nat → Prop} {w w' : World} (q : QD w w') : Kp S w w' := (Kp.refl S w).qd q
theorem Kp.setCell {S : Nat → Prop} {w w' : World} (h : Kp S w w') (p : Addr) (hp : S p.block) (u : Value) : Kp S w (w'.setCell p u) :=
  ⟨h.os, h.tape, h.output, by have := h.size; simp [World.setCell]; omega, fun k hk hn => (Below.heap_setCell _ _ _ _ (fun e => hn (by rw [e]; exact hp))).trans (h.block k hk hn)⟩
theorem Kp.setNew {S : Nat → Prop} {w w' : World} (h : Kp S w w') (p : Addr) (hp : w.heap.size ≤ p.block) (u : Value) : Kp S w (w'.setCell p u) :=
  ⟨h.os, h.tape, h.output, by have := h.size; simp [World.setCell]; omega, fun k hk hn => (Below.heap_setCell _ _ _ _ (by omega)).trans (h.block k hk hn)⟩
theorem Kp.alloc {S : Nat → Prop} {w w' : World} (h : Kp S w w') (o : Obj) : Kp S w (w'.alloc o) :=
  ⟨h.os, h.tape, h.output, by have := h.size; simp; omega, fun k hk hn => (Below.heap_alloc _ _ _ (by have := h.size; omega)).trans (h.block k hk hn)⟩
theorem Kp.drew {S : Nat → Prop} {w w' : World} (h : Kp S w w') : Kp S w w'.drew := h.qd (QD.drew _)
theorem Kp.drewN {S : Nat → Prop} {w w' : World} (h : Kp S w w') (n : Nat) : Kp S w (w'.drewN n) := h.qd (QD.n _ _)
theorem Kp.mono {S S' : Nat → Prop} {w w' : World} (h : Kp S w w') (hS : ∀ k, S k → S' k) : Kp S' w w' :=
  ⟨h.os, h.tape, h.output, h.size, fun k hk hn => h.block k hk (fun hs => hn (hS k hs))⟩
theorem Kp.trans {S : Nat → Prop} {a b c : World} (h : Kp S a b) (k : Kp S b c) : Kp S a c :=
  ⟨k.os.trans h.os, k.tape.trans h.tape, k.output.trans h.output, Nat.le_trans h.size k.size, fun i hi hn => (k.block i (Nat.lt_of_lt_of_le hi h.size) hn).trans (h.block i hi hn)⟩
/-- .. where what the second step changed is new, or the first one's. -/
theorem Kp.step {S S' : Nat → Prop} {a b c : World} (h : Kp S a b) (k : Kp S' b c) (hS : ∀ i, i < a.heap.size → S' i → S i) : Kp S a c :=
  ⟨k.os.trans h.os, k.tape.trans h.tape, k.output.trans h.output, Nat.le_trans h.size k.size, fun i hi hn => (k.block i (Nat.lt_of_lt_of_le hi h.size) (fun hs => hn (hS i hi hs))).trans (h.block i hi hn)⟩
theorem Kp.grown {S : Nat → Prop} {a b c : World} {row : Option Nat} (h : Kp S a b) (hg : b.grownBy c row) (hS : ∀ k, row = some k → k < a.heap.size → S k) : Kp S a c :=
  ⟨hg.os.trans h.os, hg.tape.trans h.tape, hg.output.trans h.output, Nat.le_trans h.size hg.size, fun i hi hn => (hg.block i (Nat.lt_of_lt_of_le hi h.size) (fun e => hn (hS i e.symm hi))).trans (h.block i hi hn)⟩
theorem Kp.below {w w' : World} (h : Kp no w w') : Below w.heap.size w w' := ⟨h.os, h.tape, h.output, h.size, fun k hk => h.block k hk (fun x => x)⟩
theorem Kp.of_below {w w' : World} {S : Nat → Prop} (h : Below w.heap.size w w') : Kp S w w' := ⟨h.os, h.tape, h.output, h.size, fun k hk _ => h.block k hk⟩
theorem Kp.new {S : Nat → Prop} {a b c : World} (h : Kp no a b) (k : Kp S b c) (hS : ∀ i, S i → a.heap.size ≤ i) : Kp no a c := h.step k (fun i hi hs => by have := hS i hs; omega)

/-- A block that is known whole. -/
theorem bk_lt {w : World} {g : Nat} {o : Obj} (h : w.heap[g]? = some o) : g < w.heap.size := (Array.getElem?_eq_some_iff.1 h).1
theorem bk_kp {w w' : World} {g : Nat} {o : Obj} {S : Nat → Prop} (h : w.heap[g]? = some o) (k : Kp S w w') (hn : ¬ S g) : w'.heap[g]? = some o := (k.block g (bk_lt h) hn).trans h
theorem bk_cell {w : World} {g : Nat} {t : TypeId} {cs : Array Value} {fr : Nat × Nat} (h : w.heap[g]? = some (.cells cs t fr)) (i : Nat) : w.cell? ⟨g, i, none⟩ = cs[i]? := cell_of_row w g i cs t fr h
theorem bk_fz {w : World} {g : Nat} {t : TypeId} {cs : Array Value} (h : w.heap[g]? = some (.cells cs t (0, 0))) (i : Nat) : w.frozen? ⟨g, i, none⟩ = false := by simp [World.frozen?, h]
theorem bk_set {w : World} {g : Nat} {t : TypeId} {cs cs' : Array Value} (h : w.heap[g]? = some (.cells cs t (0, 0))) (i : Nat) (u : Value) (e : cs.setIfInBounds i u = cs') : (w.setCell ⟨g, i, none⟩ u).heap[g]? = some (.cells cs' t (0, 0)) := by
  rw [← e]; simp [World.setCell, Array.getElem?_modify, h]
theorem bk_far {w : World} {g : Nat} {o : Obj} (h : w.heap[g]? = some o) {p : Addr} (hp : g ≠ p.block) (u : Value) : (w.setCell p u).heap[g]? = some o := (Below.heap_setCell w p u g hp).trans h
theorem bk_alloc {w : World} {g : Nat} {o : Obj} (h : w.heap[g]? = some o) (o' : Obj) : (w.alloc o').heap[g]? = some o := (Below.heap_alloc w o' g (bk_lt h)).trans h
theorem bk_qd {w w' : World} {g : Nat} {o : Obj} (h : w.heap[g]? = some o) (q : QD w w') : w'.heap[g]? = some o := by obtain ⟨n, rfl⟩ := q; exact h
theorem bk_ne {w : World} {g g' : Nat} {t t' : TypeId} {cs cs' : Array Value} {fr fr' : Nat × Nat} (h : w.heap[g]? = some (.cells cs t fr)) (h' : w.heap[g']? = some (.cells cs' t' fr')) (hne : t ≠ t') : g ≠ g' := by
  rintro rfl; rw [h] at h'; injection h' with h'; injection h' with _ h2; exact hne h2

/-- A row that is owned, behind whatever leaves its block alone. -/
theorem or_kp {w w' : World} {base : Nat} {e : TypeId} {sz : Nat} {v : Value} {n : Nat} {xs : List Value} {S : Nat → Prop} (h : w.ownsRow base e sz v n xs) (k : Kp S w w') (hn : ∀ b, v.ownBlock = some b → ¬ S b) : w'.ownsRow base e sz v n xs := by
  refine ⟨h.1, ?_⟩
  rcases h.2 with h0 | ⟨g, cap, cur, rfl, hb, hg, rest⟩
  · exact .inl h0
  · exact .inr ⟨g, cap, cur, rfl, hb, bk_kp hg k (hn g rfl), rest⟩
theorem or_qd {w w' : World} {base : Nat} {e : TypeId} {sz : Nat} {v : Value} {n : Nat} {xs : List Value} (h : w.ownsRow base e sz v n xs) (q : QD w w') : w'.ownsRow base e sz v n xs := by
  obtain ⟨m, rfl⟩ := q; exact h
theorem or_base {w : World} {base base' : Nat} {e : TypeId} {sz : Nat} {v : Value} {n : Nat} {xs : List Value} (h : w.ownsRow base e sz v n xs) (hb : base' ≤ base) : w.ownsRow base' e sz v n xs := by
  refine ⟨h.1, ?_⟩
  rcases h.2 with h0 | ⟨g, cap, cur, rfl, hg, rest⟩
  · exact .inl h0
  · exact .inr ⟨g, cap, cur, rfl, by omega, rest⟩
theorem or_cell {w : World} {base : Nat} {e : TypeId} {sz g n cap : Nat} {xs : List Value} (h : w.ownsRow base e sz (.slice (some ⟨g, 0, none⟩) n cap) n xs) (j : Nat) (u : Value) (hj : xs[j]? = some u) : w.cell? ⟨g, j, none⟩ = some u := by
  have := h.cells (g := g) rfl j u hj
  have hadd : (⟨g, 0, none⟩ : Addr).add j = ⟨g, j, none⟩ := by unfold Addr.add; split <;> simp_all
  rwa [hadd] at this

/-- A slice that can be read: n elements, these cells. -/
def Rd (w : World) (v : Value) (n : Nat) (xs : List Value) : Prop :=
  ∃ A c, v = .slice A n c ∧ n ≤ c ∧ c ≤ maxLen ∧ (A = none → n = 0 ∧ c = 0 ∧ xs = []) ∧ ∀ ad, A = some ad → ∀ j u, xs[j]? = some u → w.cell? (ad.add j) = some u
theorem Rd.of_own {w : World} {base : Nat} {e : TypeId} {sz : Nat} {v : Value} {n : Nat} {xs : List Value} (h : w.ownsRow base e sz v n xs) : Rd w v n xs := by
  have hc := fun (g : Nat) (hg : v.ownBlock = some g) => h.cells (g := g) hg
  rcases h.2 with ⟨rfl, rfl⟩ | ⟨g, cap, cur, rfl, hb, hg, h1, h2, _⟩
  · exact ⟨none, 0, rfl, Nat.le_refl _, Nat.zero_le _, fun _ => ⟨rfl, rfl, List.eq_nil_of_length_eq_zero (by have := h.1; omega)⟩, (fun ad h => by cases h)⟩
  · exact ⟨some ⟨g, 0, none⟩, cap, rfl, h1, h2, (fun h => by cases h), (fun ad h => by cases h; exact hc g rfl)⟩
theorem Rd.kp {w w' : World} {v : Value} {n : Nat} {xs : List Value} {S : Nat → Prop} (h : Rd w v n xs) (k : Kp S w w') (hn : ∀ b, v.ownBlock = some b → ¬ S b) : Rd w' v n xs := by
  obtain ⟨A, c, rfl, h1, h2, h3, h4⟩ := h
  refine ⟨A, c, rfl, h1, h2, h3, fun ad e j u hj => ?_⟩
  have := h4 ad e j u hj
  subst e
  have hb : (ad.add j).block = ad.block := by unfold Addr.add; split <;> rfl
  rw [World.cell?_of_block (k.block _ (World.block_lt_of_cell? _ _ this) (by rw [hb]; exact hn ad.block rfl))]
  exact this
theorem Rd.qd {w w' : World} {v : Value} {n : Nat} {xs : List Value} (h : Rd w v n xs) (q : QD w w') : Rd w' v n xs := by
  obtain ⟨m, rfl⟩ := q; exact h
theorem add_none (ab ao j : Nat) : (⟨ab, ao, none⟩ : Addr).add j = ⟨ab, ao + j, none⟩ := by unfold Addr.add; split <;> simp_all
/-- .. and where it lies, if there is anything in it. -/
theorem Rd.form {w : World} {v : Value} {n : Nat} {xs : List Value} (h : Rd w v n xs) (hx : 0 < xs.length) : ∃ ab ao c, v = .slice (some ⟨ab, ao, none⟩) n c ∧ n ≤ c ∧ c ≤ maxLen ∧ ∀ j u, xs[j]? = some u → w.cell? ⟨ab, ao + j, none⟩ = some u := by
  obtain ⟨A, c, rfl, h1, h2, h3, h4⟩ := h
  cases A with
  | none =>
    have := (h3 rfl).2.2
    rw [this] at hx
    exact absurd hx (Nat.lt_irrefl 0)
  | some ad =>
    obtain ⟨ab, ao, spot⟩ := ad
    have h5 := h4 _ rfl
    have h6 := h5 0 _ (List.getElem?_eq_getElem hx)
    have hsp : spot = none := by
      have := World.cell?_spot h6
      unfold Addr.add at this
      split at this <;> simp_all
    subst hsp
    exact ⟨ab, ao, c, rfl, h1, h2, fun j u hj => by rw [← add_none]; exact h5 j u hj⟩
theorem or_form {w : World} {base : Nat} {e : TypeId} {sz : Nat} {v : Value} {n : Nat} {xs : List Value} (h : w.ownsRow base e sz v n xs) : ∃ A c, v = .slice A n c := by
  rcases h.2 with ⟨rfl, rfl⟩ | ⟨g, cap, cur, rfl, _⟩
  · exact ⟨_, _, rfl⟩
  · exact ⟨_, _, rfl⟩
theorem or_some {w : World} {base : Nat} {e : TypeId} {sz : Nat} {v : Value} {n : Nat} {xs : List Value} (h : w.ownsRow base e sz v n xs) (hn : 0 < n) : ∃ g c, v = .slice (some ⟨g, 0, none⟩) n c ∧ base ≤ g := by
  rcases h.2 with ⟨rfl, h0⟩ | ⟨g, cap, cur, rfl, hb, _⟩
  · omega
  · exact ⟨_, _, rfl, hb⟩
theorem cell_far {w : World} {g i b o : Nat} {u : Value} (h : ¬ b = g) : (w.setCell ⟨g, i, none⟩ u).cell? ⟨b, o, none⟩ = w.cell? ⟨b, o, none⟩ := World.cell?_of_block (Below.heap_setCell w ⟨g, i, none⟩ u b h)
theorem or_bk {w : World} {base : Nat} {e : TypeId} {sz : Nat} {v : Value} {n : Nat} {xs : List Value} (h : w.ownsRow base e sz v n xs) {b : Nat} (hb : v.ownBlock = some b) : ∃ cur, w.heap[b]? = some (.cells cur e (0, 0)) := by
  rcases h.2 with ⟨rfl, _⟩ | ⟨g, cap, cur, rfl, _, hg, _⟩
  · cases hb
  · injection hb with hb; exact ⟨cur, by rw [← hb]; exact hg⟩
end Go.Proofs.Ythoejimgdhfmiaa.H
