/- Arguments, opened: how a ring stands. No condition. -/
import Derived.Test.YtmejnhfggmmefaaOpn13
namespace Go.Proofs.Ytmejnhfggmmefaa.H
open Go.RowKit Go.ChangeShapes Go.WideShapes Go.Deep
set_option linter.unusedVariables false
set_option linter.unusedSimpArgs false
section
variable {H : Type} {enc : TypeId × Value → H} {w : World} {spare : Nat → Bool} {held : Bool}
/-- A slice within a struct. -/
theorem rows_of_trod {P : Program} {α : Type} (vals : α → List Value) (ok : α → Prop) {k : Nat} {t e : TypeId} {c : Value} {cs : List Value} {fuel : Nat} {y : Option (DataW H × List MemPlace)} (hk : ∀ o, (vals o).length = k) (ht : P.underlying t = some (.slice e)) (hc : P.cellsOf e = k)
    (he : ∀ fuel cs x, DataW.trod enc P w 0 spare held fuel e cs = some x → ∃ o, cs = vals o ∧ ok o)
    (hy : ∃ z, y = some z) (ec : cs = [c]) (hf : DataW.trod enc P w 0 spare held fuel t cs = y) : ∃ O : List α, Rd w c O.length (O.flatMap vals) ∧ ∀ o ∈ O, ok o := by
  obtain ⟨z, rfl⟩ := hy
  rcases open_slice ht hf with ⟨h0, -⟩ | ⟨a, len, cap, m, n, D, Pl, hcs, -, hl, hm, hmm, -, hx⟩
  · rw [ec] at h0
    injection h0 with h1
    rw [h1]
    exact ⟨[], ⟨none, 0, rfl, Nat.le_refl _, Nat.zero_le _, fun _ => ⟨rfl, rfl, rfl⟩, fun ad h => by cases h⟩, fun o ho => by cases ho⟩
  · rw [ec] at hcs
    injection hcs with h1
    subst h1
    have hlm : len ≤ m := by rw [hmm]; split <;> omega
    have hch : ∀ i : Fin len, ∃ o : α, ok o ∧ ∀ j u, (vals o)[j]? = some u → w.cell? (a.add (i.val * k + j)) = some u := by
      intro i
      obtain ⟨cs', h2, h3⟩ := hx i.val (by omega)
      obtain ⟨o, rfl, ho⟩ := he _ _ _ h3
      obtain ⟨-, hcl, hat⟩ := World.cells?_some h2
      refine ⟨o, ho, fun j u hj => ?_⟩
      have hjk : j < k := by rw [← hk o]; exact (List.getElem?_eq_some_iff.1 hj).1
      have := hat j (by rw [hc]; exact hjk)
      rw [hc] at this
      rw [← Go.Deep.add_add, this, hj]
    obtain ⟨g, hg⟩ := Classical.axiomOfChoice hch
    have hlen : (List.ofFn g).length = len := List.length_ofFn
    refine ⟨List.ofFn g, ?_, fun o ho => ?_⟩
    · refine ⟨some a, cap, by rw [hlen], by rw [hlen]; exact hl, hm, (fun h => by cases h), fun ad had j u hj => ?_⟩
      cases had
      rw [flat_get vals k hk] at hj
      by_cases h0 : k = 0
      · rw [if_pos h0] at hj; cases hj
      · rw [if_neg h0] at hj
        obtain ⟨o, h4, h5⟩ := Option.bind_eq_some_iff.1 hj
        have hjl : j / k < len := by rw [← hlen]; exact (List.getElem?_eq_some_iff.1 h4).1
        have : g ⟨j / k, hjl⟩ = o := by
          have := (List.getElem?_eq_some_iff.1 h4).2
          rw [List.getElem_ofFn] at this
          exact this
        subst this
        have := (hg ⟨j / k, hjl⟩).2 _ _ h5
        rw [Nat.mul_comm, Nat.div_add_mod] at this
        exact this
    · obtain ⟨i, hi, rfl⟩ := List.mem_iff_getElem.1 ho
      rw [List.getElem_ofFn]
      exact (hg _).1
theorem bool_of_trod {P : Program} {t : TypeId} {n : Nat} {cs : List Value} {c : Value} {y : Option (DataW H × List MemPlace)} (hy : ∃ z, y = some z) (hu : P.underlying t = some .bool) (e : cs = [c]) (h : DataW.trod enc P w 0 spare held n t cs = y) : ∃ b, c = .bool b := by
  obtain ⟨z, rfl⟩ := hy
  obtain ⟨b, h1, -⟩ := DataW.trod_bool hu h
  rw [e] at h1
  injection h1 with h1
  exact ⟨b, h1⟩
def U1 (x : Int) : List Value := [.int .u64 x]
def Uok (x : Int) : Prop := 0 ≤ x ∧ x < 18446744073709551616
def SlOk (x : Sl) : Prop := (0 ≤ x.st ∧ x.st < 18446744073709551616) ∧ (0 ≤ x.v ∧ x.v < 18446744073709551616) ∧ (-9223372036854775808 ≤ x.left ∧ x.left ≤ 9223372036854775807)
def SlV (x : Sl) : List Value := [.int .u64 x.st, .int .u64 x.v, .int .i64 x.left]
theorem u1_cells (L : List Int) : L.flatMap U1 = u64s L := by
  induction L with
  | nil => rfl
  | cons x L ih => rw [List.flatMap_cons, ih]; rfl
theorem slV_cells (L : List Sl) : L.flatMap SlV = slCells L := by
  induction L with
  | nil => rfl
  | cons x L ih => rw [List.flatMap_cons, ih]; rfl
theorem cBool : Try.prog.cellsOf 4 = 1 := by kernel_rfl
theorem cSlU : Try.prog.cellsOf 31 = 1 := by kernel_rfl
theorem cSlS : Try.prog.cellsOf 58 = 1 := by kernel_rfl
set_option maxRecDepth 100000 in
theorem cells_u1 {n : Nat} {cs : List Value} {x : DataW H × List MemPlace} (h : DataW.trod enc Try.prog w 0 spare held n 36 cs = some x) : ∃ o : Int, cs = U1 o ∧ Uok o := by
  obtain ⟨a, h1, -, h2⟩ := DataW.trod_int (Try.underlying36 : Try.prog.underlying 36 = some (.int .u64)) h
  simp [Lit.wf, IntKind.min, IntKind.max, IntKind.signed, IntKind.bits] at h2
  exact ⟨a, h1, by unfold Uok; omega⟩
set_option maxRecDepth 100000 in
theorem cells_slot {n : Nat} {cs : List Value} {x : DataW H × List MemPlace} (h : DataW.trod enc Try.prog w 0 spare held n 119 cs = some x) : ∃ o : Sl, cs = SlV o ∧ SlOk o := by
  obtain ⟨xs, m, -, -, hl, hlen, hf⟩ := DataW.trod_struct Try.underlying119 h
  have hl4 : cs.length = 3 := hl.trans (by kernel_rfl)
  have hs : ∀ i, i < 3 → ∃ z, xs[i]? = some z := fun i hi => ⟨_, List.getElem?_eq_getElem (by rw [hlen]; exact hi)⟩
  match cs, hl4 with
  | [c0, c1, c2], _ =>
    obtain ⟨a0, q0, w0⟩ := int_of_trod (c := c0) (hs 0 (by decide)) Try.underlying36 (by show List.take (Try.prog.cellsOf 36) (List.drop 0 [c0, c1, c2]) = _; rw [cU64]; rfl) (hf 0 _ rfl)
    obtain ⟨a1, q1, w1⟩ := int_of_trod (c := c1) (hs 1 (by decide)) Try.underlying36 (by show List.take (Try.prog.cellsOf 36) (List.drop 1 [c0, c1, c2]) = _; rw [cU64]; rfl) (hf 1 _ rfl)
    obtain ⟨a2, q2, w2⟩ := int_of_trod (c := c2) (hs 2 (by decide)) Try.underlying3 (by show List.take (Try.prog.cellsOf 3) (List.drop 2 [c0, c1, c2]) = _; rw [cInt]; rfl) (hf 2 _ rfl)
    simp [Lit.wf, IntKind.min, IntKind.max, IntKind.signed, IntKind.bits] at w0 w1 w2
    subst q0; subst q1; subst q2
    exact ⟨⟨a0, a1, a2⟩, rfl, by unfold SlOk; dsimp only; omega⟩
/-- How a ring stands, of an argument. -/
def StIn (w : World) (v : Value) : Prop := ∃ T vh cl vl H M, v = .agg #[.int .u64 T, vh, .bool cl, vl] ∧ Uok T ∧ Rd w vh H.length (u64s H) ∧ (∀ x ∈ H, Uok x) ∧ Rd w vl M.length (slCells M) ∧ ∀ x ∈ M, SlOk x
set_option maxRecDepth 100000 in
theorem cells_state {n : Nat} {cs : List Value} {x : DataW H × List MemPlace} (h : DataW.trod enc Try.prog w 0 spare held n 92 cs = some x) : StIn w (.agg cs.toArray) := by
  obtain ⟨xs, m, -, -, hl, hlen, hf⟩ := DataW.trod_struct Try.underlying92 h
  have hl4 : cs.length = 4 := hl.trans (by kernel_rfl)
  have hs : ∀ i, i < 4 → ∃ z, xs[i]? = some z := fun i hi => ⟨_, List.getElem?_eq_getElem (by rw [hlen]; exact hi)⟩
  match cs, hl4 with
  | [c0, c1, c2, c3], _ =>
    obtain ⟨a0, q0, w0⟩ := int_of_trod (c := c0) (hs 0 (by decide)) Try.underlying36 (by show List.take (Try.prog.cellsOf 36) (List.drop 0 [c0, c1, c2, c3]) = _; rw [cU64]; rfl) (hf 0 _ rfl)
    obtain ⟨O1, r1, k1⟩ := rows_of_trod (c := c1) U1 Uok (k := 1) (fun _ => rfl) Try.underlying31 (by kernel_rfl) (fun _ _ _ h => cells_u1 h) (hs 1 (by decide)) (by show List.take (Try.prog.cellsOf 31) (List.drop 1 [c0, c1, c2, c3]) = _; rw [cSlU]; rfl) (hf 1 _ rfl)
    obtain ⟨b2, q2⟩ := bool_of_trod (c := c2) (hs 2 (by decide)) Try.underlying4 (by show List.take (Try.prog.cellsOf 4) (List.drop 2 [c0, c1, c2, c3]) = _; rw [cBool]; rfl) (hf 2 _ rfl)
    obtain ⟨O3, r3, k3⟩ := rows_of_trod (c := c3) SlV SlOk (k := 3) (fun _ => rfl) Try.underlying58 (by kernel_rfl) (fun _ _ _ h => cells_slot h) (hs 3 (by decide)) (by show List.take (Try.prog.cellsOf 58) (List.drop 3 [c0, c1, c2, c3]) = _; rw [cSlS]; rfl) (hf 3 _ rfl)
    simp [Lit.wf, IntKind.min, IntKind.max, IntKind.signed, IntKind.bits] at w0
    subst q0; subst q2
    rw [u1_cells] at r1
    rw [slV_cells] at r3
    exact ⟨a0, c1, b2, c3, O1, O3, rfl, by unfold Uok; omega, r1, k1, r3, k3⟩
set_option maxRecDepth 100000 in
theorem open_state {b : Nat} {r : Reach} {v : Value} {d : DataW H} {p : List MemPlace} (hv : Value.okWide Try.prog w r b 92 v) (h : DataW.Trod enc Try.prog w 0 spare held 92 v d p) : StIn w v := by
  obtain ⟨cs, rfl, hsz⟩ := okWide_struct Try.underlying92 hv
  obtain ⟨fuel, hf⟩ := h
  have := cells_state hf
  simpa [Value.cells] using this
end
end Go.Proofs.Ytmejnhfggmmefaa.H
