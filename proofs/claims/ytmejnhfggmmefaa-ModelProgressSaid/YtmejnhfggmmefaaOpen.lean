/- Arguments, opened: what a walk wants to know of them. No condition. -/
import Derived.Test.YtmejnhfggmmefaaL12P
import Derived.ProofKit
import Derived.OpenShut
import Derived.Lib.SmallJoins
import Derived.Deep.Slices
import Derived.Deep.Fields
import Derived.ChangeSame
namespace Go.Proofs.Ytmejnhfggmmefaa.H
open Go.RowKit Go.ChangeShapes Go.WideShapes Go.Deep
set_option linter.unusedVariables false
set_option linter.unusedSimpArgs false

theorem flat_get {α : Type} (vals : α → List Value) (k : Nat) (hk : ∀ o, (vals o).length = k) (O : List α) : ∀ j, (O.flatMap vals)[j]? = if k = 0 then none else (O[j / k]?).bind fun o => (vals o)[j % k]? := by
  induction O with
  | nil => intro j; split <;> simp
  | cons o O ih =>
    intro j
    rw [List.flatMap_cons]
    by_cases h0 : k = 0
    · have : vals o = [] := List.eq_nil_of_length_eq_zero (by rw [hk, h0])
      rw [this, List.nil_append, ih, if_pos h0, if_pos h0]
    · rw [if_neg h0]
      by_cases hj : j < k
      · rw [List.getElem?_append_left (by rw [hk]; exact hj), Nat.div_eq_of_lt hj, Nat.mod_eq_of_lt hj]; rfl
      · rw [List.getElem?_append_right (by rw [hk]; omega), hk, ih, if_neg h0]
        have e1 : j / k = (j - k) / k + 1 := by
          rw [Nat.div_eq_sub_div (by omega) (by omega)]
        have e2 : (j - k) % k = j % k := by
          rw [Nat.mod_eq_sub_mod (by omega : j ≥ k)]
        rw [e1, e2, List.getElem?_cons_succ]
section
variable {H : Type} {enc : TypeId × Value → H} {w : World} {spare : Nat → Bool} {held : Bool}
/-- A slice of elements of one form. -/
theorem open_rows {P : Program} {α : Type} (vals : α → List Value) (ok : α → Prop) {k b : Nat} {r : Reach} {t e : TypeId} {v : Value} {d : DataW H} {p : List MemPlace} (hk : ∀ o, (vals o).length = k) (ht : P.underlying t = some (.slice e)) (hc : P.cellsOf e = k)
    (he : ∀ fuel cs x, DataW.trod enc P w 0 spare held fuel e cs = some x → ∃ o, cs = vals o ∧ ok o)
    (hv : Value.okWide P w r b t v) (h : DataW.Trod enc P w 0 spare held t v d p) : ∃ O : List α, Rd w v O.length (O.flatMap vals) ∧ ∀ o ∈ O, ok o := by
  obtain ⟨a0, len, cap, rfl⟩ := okWide_slice ht hv
  obtain ⟨fuel, hf⟩ := h
  rcases open_slice ht hf with ⟨h0, -⟩ | ⟨a, len', cap', m, n, D, Pl, hcs, -, hl, hm, hmm, -, hx⟩
  · have h1 : Value.slice a0 len cap = .slice none 0 0 := by simpa [Value.cells] using h0
    rw [h1]
    exact ⟨[], ⟨none, 0, rfl, Nat.le_refl _, Nat.zero_le _, fun _ => ⟨rfl, rfl, rfl⟩, fun ad h => by cases h⟩, fun o ho => by cases ho⟩
  · have h1 : Value.slice a0 len cap = .slice (some a) len' cap' := by simpa [Value.cells] using hcs
    injection h1 with e1 e2 e3
    subst e1; subst e2; subst e3
    have hlm : len ≤ m := by rw [hmm]; split <;> omega
    have hch : ∀ i : Fin len, ∃ o : α, ok o ∧ ∀ j u, (vals o)[j]? = some u → w.cell? (a.add (i.val * k + j)) = some u := by
      intro i
      obtain ⟨cs', h2, h3⟩ := hx i.val (by omega)
      obtain ⟨o, rfl, ho⟩ := he _ _ _ h3
      obtain ⟨-, hcl, hat⟩ := World.cells?_some h2
      refine ⟨o, ho, fun j u hj => ?_⟩
      have hjk : j < k := by rw [← hk o]; exact (List.getElem?_eq_some_iff.1 hj).1
      have := hat j (by rw [hc]; exact hjk)
      rw [hc] at this
      rw [← Go.Deep.add_add, this, hj]
    obtain ⟨g, hg⟩ := Classical.axiomOfChoice hch
    have hlen : (List.ofFn g).length = len := List.length_ofFn
    refine ⟨List.ofFn g, ?_, fun o ho => ?_⟩
    · refine ⟨some a, cap, by rw [hlen], by rw [hlen]; exact hl, hm, (fun h => by cases h), fun ad had j u hj => ?_⟩
      cases had
      rw [flat_get vals k hk] at hj
      by_cases h0 : k = 0
      · rw [if_pos h0] at hj; cases hj
      · rw [if_neg h0] at hj
        obtain ⟨o, h4, h5⟩ := Option.bind_eq_some_iff.1 hj
        have hjl : j / k < len := by rw [← hlen]; exact (List.getElem?_eq_some_iff.1 h4).1
        have : g ⟨j / k, hjl⟩ = o := by
          have := (List.getElem?_eq_some_iff.1 h4).2
          rw [List.getElem_ofFn] at this
          exact this
        subst this
        have := (hg ⟨j / k, hjl⟩).2 _ _ h5
        rw [Nat.mul_comm, Nat.div_add_mod] at this
        exact this
    · obtain ⟨i, hi, rfl⟩ := List.mem_iff_getElem.1 ho
      rw [List.getElem_ofFn]
      exact (hg _).1
/-- A struct by value, of one form. -/
theorem open_val {P : Program} {α : Type} (vals : α → List Value) (ok : α → Prop) {b : Nat} {r : Reach} {t : TypeId} {fs : Array Field} {v : Value} {d : DataW H} {p : List MemPlace} (ht : P.underlying t = some (.struct fs))
    (he : ∀ fuel cs x, DataW.trod enc P w 0 spare held fuel t cs = some x → ∃ o, cs = vals o ∧ ok o)
    (hv : Value.okWide P w r b t v) (h : DataW.Trod enc P w 0 spare held t v d p) : ∃ o : α, v = .agg (vals o).toArray ∧ ok o := by
  obtain ⟨cs, rfl, hsz⟩ := okWide_struct ht hv
  obtain ⟨fuel, hf⟩ := h
  obtain ⟨o, ho, hok⟩ := he _ _ _ hf
  refine ⟨o, ?_, hok⟩
  rw [← ho]; simp [Value.cells]
theorem int_of_trod {P : Program} {t : TypeId} {k : IntKind} {n : Nat} {cs : List Value} {c : Value} {y : Option (DataW H × List MemPlace)} (hy : ∃ z, y = some z) (hu : P.underlying t = some (.int k)) (e : cs = [c]) (h : DataW.trod enc P w 0 spare held n t cs = y) : ∃ a, c = .int k a ∧ (Lit.int k a).wf = true := by
  obtain ⟨z, rfl⟩ := hy
  obtain ⟨a, h1, -, h2⟩ := DataW.trod_int hu h
  rw [e] at h1
  injection h1 with h1
  exact ⟨a, h1, h2⟩
def O12.ok (o : O12) : Prop := 0 ≤ o.t ∧ o.t < 18446744073709551616 ∧ 0 ≤ o.v ∧ o.v < 18446744073709551616 ∧ -9223372036854775808 ≤ o.k ∧ o.k ≤ 9223372036854775807 ∧ -9223372036854775808 ≤ o.j ∧ o.j ≤ 9223372036854775807
theorem cInt : Try.prog.cellsOf 3 = 1 := by kernel_rfl
theorem cU64 : Try.prog.cellsOf 36 = 1 := by kernel_rfl
set_option maxRecDepth 100000 in
theorem cells_op12 {n : Nat} {cs : List Value} {x : DataW H × List MemPlace} (h : DataW.trod enc Try.prog w 0 spare held n 66 cs = some x) : ∃ o : O12, cs = o.vals ∧ o.ok := by
  obtain ⟨xs, m, -, -, hl, hlen, hf⟩ := DataW.trod_struct Try.underlying66 h
  have hl4 : cs.length = 4 := hl.trans (by kernel_rfl)
  have hs : ∀ i, i < 4 → ∃ z, xs[i]? = some z := fun i hi => ⟨_, List.getElem?_eq_getElem (by rw [hlen]; exact hi)⟩
  match cs, hl4 with
  | [c0, c1, c2, c3], _ =>
    obtain ⟨a0, q0, w0⟩ := int_of_trod (c := c0) (hs 0 (by decide)) Try.underlying3 (by show List.take (Try.prog.cellsOf 3) (List.drop 0 [c0, c1, c2, c3]) = _; rw [cInt]; rfl) (hf 0 _ rfl)
    obtain ⟨a1, q1, w1⟩ := int_of_trod (c := c1) (hs 1 (by decide)) Try.underlying3 (by show List.take (Try.prog.cellsOf 3) (List.drop 1 [c0, c1, c2, c3]) = _; rw [cInt]; rfl) (hf 1 _ rfl)
    obtain ⟨a2, q2, w2⟩ := int_of_trod (c := c2) (hs 2 (by decide)) Try.underlying36 (by show List.take (Try.prog.cellsOf 36) (List.drop 2 [c0, c1, c2, c3]) = _; rw [cU64]; rfl) (hf 2 _ rfl)
    obtain ⟨a3, q3, w3⟩ := int_of_trod (c := c3) (hs 3 (by decide)) Try.underlying36 (by show List.take (Try.prog.cellsOf 36) (List.drop 3 [c0, c1, c2, c3]) = _; rw [cU64]; rfl) (hf 3 _ rfl)
    simp [Lit.wf, IntKind.min, IntKind.max, IntKind.signed, IntKind.bits] at w0 w1 w2 w3
    subst q0; subst q1; subst q2; subst q3
    exact ⟨⟨a0, a1, a2, a3⟩, rfl, by unfold O12.ok; dsimp only; omega⟩
set_option maxRecDepth 100000 in
theorem open_ops12 {b : Nat} {r : Reach} {v : Value} {d : DataW H} {p : List MemPlace} (hv : Value.okWide Try.prog w r b 53 v) (h : DataW.Trod enc Try.prog w 0 spare held 53 v d p) : ∃ O : List O12, Rd w v O.length (oCells O) ∧ ∀ o ∈ O, o.ok :=
  open_rows (k := 4) O12.vals O12.ok (fun _ => rfl) Try.underlying53 (by kernel_rfl) (fun _ _ _ h => cells_op12 h) hv h
end
end Go.Proofs.Ytmejnhfggmmefaa.H
