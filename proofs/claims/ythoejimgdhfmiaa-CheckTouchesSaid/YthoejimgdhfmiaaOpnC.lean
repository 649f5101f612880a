/- Arguments, opened: a program of rings and threads. No condition. -/
import Derived.Test.YthoejimgdhfmiaaChkB
import Derived.ProofKit
import Derived.OpenShut
import Derived.Lib.SmallJoins
import Derived.Deep.Slices
import Derived.Deep.Fields
import Derived.ChangeSame
namespace Go.Proofs.Ythoejimgdhfmiaa.H
open Go.RowKit Go.ChangeShapes Go.WideShapes Go.Deep Go.Proofs.Ythoejimgdhfmiaa.PCheckTells Go.Proofs.YthoejimgdhfmiaaW.PrintWords Go.Proofs.YthoejimgdhfmiaaW.PrintLast Go.Proofs.YthoejimgdhfmiaaW.PrintMore
set_option linter.unusedVariables false
set_option linter.unusedSimpArgs false
section
variable {H : Type} {enc : TypeId × Value → H} {w : World} {spare : Nat → Bool} {held : Bool}
theorem rows_kd {P : Program} {α : Type} (d : Kd α) (ok : α → Prop) {t e : TypeId} {c : Value} {cs : List Value} {fuel : Nat} {y : Option (DataW H × List MemPlace)} (ht : P.underlying t = some (.slice e)) (hc : P.cellsOf e = d.sz)
    (he : ∀ fuel cs x, DataW.trod enc P w 0 spare held fuel e cs = some x → ∃ o, d.K w o cs ∧ ok o)
    (hy : ∃ z, y = some z) (ec : cs = [c]) (hf : DataW.trod enc P w 0 spare held fuel t cs = y) : ∃ A cap, ∃ xs : List α, c = .slice A xs.length cap ∧ xs.length ≤ cap ∧ Kd.C d w A xs.length xs ∧ ∀ x ∈ xs, ok x := by
  obtain ⟨z, rfl⟩ := hy
  rcases open_slice ht hf with ⟨h0, -⟩ | ⟨a, len, cap, m, n, D, Pl, hcs, -, hl, hm, hmm, -, hx⟩
  · rw [ec] at h0
    injection h0 with h1
    rw [h1]
    exact ⟨none, 0, [], rfl, Nat.le_refl _, ⟨rfl, Nat.zero_le _, fun h => absurd h (Nat.lt_irrefl 0)⟩, fun x hx => by cases hx⟩
  · rw [ec] at hcs
    injection hcs with h1
    subst h1
    have hlm : len ≤ m := by rw [hmm]; split <;> omega
    have hch : ∀ i : Fin len, ∃ o : α, ok o ∧ ∃ c : List Value, c.length = d.sz ∧ d.K w o c ∧ ∀ j u, c[j]? = some u → w.cell? (a.add (i.val * d.sz + j)) = some u := by
      intro i
      obtain ⟨cs', h2, h3⟩ := hx i.val (by omega)
      obtain ⟨o, hk, ho⟩ := he _ _ _ h3
      obtain ⟨-, hcl, hat⟩ := World.cells?_some h2
      refine ⟨o, ho, cs', d.K_len hk, hk, fun j u hj => ?_⟩
      have hjk : j < d.sz := by rw [← d.K_len hk]; exact (List.getElem?_eq_some_iff.1 hj).1
      have := hat j (by rw [hc]; exact hjk)
      rw [hc] at this
      rw [← Go.Deep.add_add, this, hj]
    obtain ⟨g, hg⟩ := Classical.axiomOfChoice hch
    have hlen : (List.ofFn g).length = len := List.length_ofFn
    refine ⟨some a, cap, List.ofFn g, by rw [hlen], by rw [hlen]; exact hl, ⟨rfl, by rw [hlen]; unfold maxLen at hm; omega, fun _ => ⟨a, rfl, fun j p hj => ?_⟩⟩, fun o ho => ?_⟩
    · have hjl : j < len := by rw [← hlen]; exact (List.getElem?_eq_some_iff.1 hj).1
      have : g ⟨j, hjl⟩ = p := by
        have := (List.getElem?_eq_some_iff.1 hj).2
        rw [List.getElem_ofFn] at this
        exact this
      subst this
      exact (hg ⟨j, hjl⟩).2
    · obtain ⟨i, hi, rfl⟩ := List.mem_iff_getElem.1 ho
      rw [List.getElem_ofFn]
      exact (hg _).1
theorem int_of_trod {P : Program} {t : TypeId} {k : IntKind} {n : Nat} {cs : List Value} {c : Value} {y : Option (DataW H × List MemPlace)} (hy : ∃ z, y = some z) (hu : P.underlying t = some (.int k)) (e : cs = [c]) (h : DataW.trod enc P w 0 spare held n t cs = y) : ∃ a, c = .int k a ∧ (Lit.int k a).wf = true := by
  obtain ⟨z, rfl⟩ := hy
  obtain ⟨a, h1, -, h2⟩ := DataW.trod_int hu h
  rw [e] at h1
  injection h1 with h1
  exact ⟨a, h1, h2⟩
theorem cInt : Try.prog.cellsOf 3 = 1 := by kernel_rfl
theorem cU64 : Try.prog.cellsOf 46 = 1 := by kernel_rfl
set_option maxRecDepth 100000 in
theorem cells_ring {n : Nat} {cs : List Value} {x : DataW H × List MemPlace} (h : DataW.trod enc Try.prog w 0 spare held n 55 cs = some x) : ∃ o : S55, k55.K w o cs ∧ True := by
  obtain ⟨xs, m, -, -, hl, hlen, hf⟩ := DataW.trod_struct Try.underlying55 h
  have hl4 : cs.length = 3 := hl.trans (by kernel_rfl)
  have hs : ∀ i, i < 3 → ∃ z, xs[i]? = some z := fun i hi => ⟨_, List.getElem?_eq_getElem (by rw [hlen]; exact hi)⟩
  match cs, hl4 with
  | [c0, c1, c2], _ =>
    obtain ⟨a0, q0, -⟩ := int_of_trod (c := c0) (hs 0 (by decide)) Try.underlying3 (by show List.take (Try.prog.cellsOf 3) (List.drop 0 [c0, c1, c2]) = _; rw [cInt]; rfl) (hf 0 _ rfl)
    obtain ⟨a1, q1, -⟩ := int_of_trod (c := c1) (hs 1 (by decide)) Try.underlying3 (by show List.take (Try.prog.cellsOf 3) (List.drop 1 [c0, c1, c2]) = _; rw [cInt]; rfl) (hf 1 _ rfl)
    obtain ⟨a2, q2, -⟩ := int_of_trod (c := c2) (hs 2 (by decide)) Try.underlying3 (by show List.take (Try.prog.cellsOf 3) (List.drop 2 [c0, c1, c2]) = _; rw [cInt]; rfl) (hf 2 _ rfl)
    subst q0; subst q1; subst q2
    exact ⟨⟨a0, a1, a2⟩, k55_mk w ⟨a0, a1, a2⟩, trivial⟩
set_option maxRecDepth 100000 in
theorem cells_instr {n : Nat} {cs : List Value} {x : DataW H × List MemPlace} (h : DataW.trod enc Try.prog w 0 spare held n 48 cs = some x) : ∃ o : S48, k48.K w o cs ∧ wf48 o := by
  obtain ⟨xs, m, -, -, hl, hlen, hf⟩ := DataW.trod_struct Try.underlying48 h
  have hl4 : cs.length = 6 := hl.trans (by kernel_rfl)
  have hs : ∀ i, i < 6 → ∃ z, xs[i]? = some z := fun i hi => ⟨_, List.getElem?_eq_getElem (by rw [hlen]; exact hi)⟩
  match cs, hl4 with
  | [c0, c1, c2, c3, c4, c5], _ =>
    obtain ⟨a0, q0, w0⟩ := int_of_trod (c := c0) (hs 0 (by decide)) Try.underlying3 (by show List.take (Try.prog.cellsOf 3) (List.drop 0 [c0, c1, c2, c3, c4, c5]) = _; rw [cInt]; rfl) (hf 0 _ rfl)
    obtain ⟨a1, q1, w1⟩ := int_of_trod (c := c1) (hs 1 (by decide)) Try.underlying3 (by show List.take (Try.prog.cellsOf 3) (List.drop 1 [c0, c1, c2, c3, c4, c5]) = _; rw [cInt]; rfl) (hf 1 _ rfl)
    obtain ⟨a2, q2, w2⟩ := int_of_trod (c := c2) (hs 2 (by decide)) Try.underlying3 (by show List.take (Try.prog.cellsOf 3) (List.drop 2 [c0, c1, c2, c3, c4, c5]) = _; rw [cInt]; rfl) (hf 2 _ rfl)
    obtain ⟨a3, q3, w3⟩ := int_of_trod (c := c3) (hs 3 (by decide)) Try.underlying3 (by show List.take (Try.prog.cellsOf 3) (List.drop 3 [c0, c1, c2, c3, c4, c5]) = _; rw [cInt]; rfl) (hf 3 _ rfl)
    obtain ⟨a4, q4, w4⟩ := int_of_trod (c := c4) (hs 4 (by decide)) Try.underlying3 (by show List.take (Try.prog.cellsOf 3) (List.drop 4 [c0, c1, c2, c3, c4, c5]) = _; rw [cInt]; rfl) (hf 4 _ rfl)
    obtain ⟨a5, q5, w5⟩ := int_of_trod (c := c5) (hs 5 (by decide)) Try.underlying46 (by show List.take (Try.prog.cellsOf 46) (List.drop 5 [c0, c1, c2, c3, c4, c5]) = _; rw [cU64]; rfl) (hf 5 _ rfl)
    simp [Lit.wf, IntKind.min, IntKind.max, IntKind.signed, IntKind.bits] at w0 w1 w2 w3 w4 w5
    subst q0; subst q1; subst q2; subst q3; subst q4; subst q5
    exact ⟨⟨a0, a1, a2, a3, a4, a5⟩, k48_mk w ⟨a0, a1, a2, a3, a4, a5⟩, by unfold wf48; dsimp only; omega⟩
theorem cSlR : Try.prog.cellsOf 22 = 1 := by kernel_rfl
theorem cSlI : Try.prog.cellsOf 44 = 1 := by kernel_rfl
theorem cSlT : Try.prog.cellsOf 23 = 1 := by kernel_rfl
theorem k55_sz : k55.sz = 3 := rfl
theorem k48_sz : k48.sz = 6 := rfl
theorem cells_thread {n : Nat} {cs : List Value} {x : DataW H × List MemPlace} (h : DataW.trod enc Try.prog w 0 spare held n 44 cs = some x) : ∃ o : List S48, (Kd.slice 48 k48).K w o cs ∧ ∀ x ∈ o, wf48 x := by
  rcases open_slice Try.underlying44 h with ⟨h0, -⟩ | ⟨a, len, cap, m, n, D, Pl, hcs, -⟩
  · obtain ⟨A, c, xs, e, hle, hC, hok⟩ := rows_kd (c := .slice none 0 0) k48 wf48 Try.underlying44 (by kernel_rfl) (fun _ _ _ h => cells_instr h) ⟨_, rfl⟩ h0 h
    exact ⟨xs, ⟨A, c, by rw [h0, e], hle, hC⟩, hok⟩
  · obtain ⟨A, c, xs, e, hle, hC, hok⟩ := rows_kd (c := .slice (some a) len cap) k48 wf48 Try.underlying44 (by kernel_rfl) (fun _ _ _ h => cells_instr h) ⟨_, rfl⟩ hcs h
    exact ⟨xs, ⟨A, c, by rw [hcs, e], hle, hC⟩, hok⟩
/-- A program, in memory. -/
structure PgAt (w : World) (R : List S55) (T : List (List S48)) (A0 : Option Addr) (c0 : Nat) (A1 : Option Addr) (c1 : Nat) : Prop where
  r : Kd.C k55 w A0 R.length R
  l0 : R.length ≤ c0
  t : Kd.C (Kd.slice 48 k48) w A1 T.length T
  l1 : T.length ≤ c1
theorem PgAt.below {w w' : World} {R : List S55} {T : List (List S48)} {A0 : Option Addr} {c0 : Nat} {A1 : Option Addr} {c1 : Nat} (h : PgAt w R T A0 c0 A1 c1) (b : Below w.heap.size w w') : PgAt w' R T A0 c0 A1 c1 := ⟨Kd.C_below h.r b, h.l0, Kd.C_below h.t b, h.l1⟩
def PgIn (w : World) (v : Value) : Prop := ∃ R T A0 c0 A1 c1, v = .agg #[.slice A0 (List.length (α := S55) R) c0, .slice A1 (List.length (α := List S48) T) c1] ∧ PgAt w R T A0 c0 A1 c1 ∧ wfT T
set_option maxRecDepth 100000 in
theorem cells_prog {n : Nat} {cs : List Value} {x : DataW H × List MemPlace} (h : DataW.trod enc Try.prog w 0 spare held n 25 cs = some x) : PgIn w (.agg cs.toArray) := by
  obtain ⟨xs, m, -, -, hl, hlen, hf⟩ := DataW.trod_struct Try.underlying25 h
  have hl4 : cs.length = 2 := hl.trans (by kernel_rfl)
  have hs : ∀ i, i < 2 → ∃ z, xs[i]? = some z := fun i hi => ⟨_, List.getElem?_eq_getElem (by rw [hlen]; exact hi)⟩
  match cs, hl4 with
  | [c0, c1], _ =>
    obtain ⟨A0, p0, R, rfl, l0, r0, -⟩ := rows_kd (c := c0) k55 (fun _ => True) Try.underlying22 (by kernel_rfl) (fun _ _ _ h => cells_ring h) (hs 0 (by decide)) (by show List.take (Try.prog.cellsOf 22) (List.drop 0 [c0, c1]) = _; rw [cSlR]; rfl) (hf 0 _ rfl)
    obtain ⟨A1, p1, T, rfl, l1, r1, k1⟩ := rows_kd (c := c1) (Kd.slice 48 k48) (fun l => ∀ x ∈ l, wf48 x) Try.underlying23 (by kernel_rfl) (fun _ _ _ h => cells_thread h) (hs 1 (by decide)) (by show List.take (Try.prog.cellsOf 23) (List.drop 1 [_, c1]) = _; rw [cSlT]; rfl) (hf 1 _ rfl)
    exact ⟨R, T, A0, p0, A1, p1, rfl, ⟨r0, l0, r1, l1⟩, k1⟩
set_option maxRecDepth 100000 in
theorem open_prog {b : Nat} {r : Reach} {v : Value} {d : DataW H} {p : List MemPlace} (hv : Value.okWide Try.prog w r b 25 v) (h : DataW.Trod enc Try.prog w 0 spare held 25 v d p) : PgIn w v := by
  obtain ⟨cs, rfl, hsz⟩ := okWide_struct Try.underlying25 hv
  obtain ⟨fuel, hf⟩ := h
  have := cells_prog hf
  simpa [Value.cells] using this
end
end Go.Proofs.Ythoejimgdhfmiaa.H
