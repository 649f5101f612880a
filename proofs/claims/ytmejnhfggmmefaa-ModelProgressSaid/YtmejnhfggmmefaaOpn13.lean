/- Arguments, opened, of layers 13 and 14. No condition. -/
import Derived.Test.YtmejnhfggmmefaaOpen
import Derived.Test.YtmejnhfggmmefaaMdC
namespace Go.Proofs.Ytmejnhfggmmefaa.H
open Go.RowKit Go.ChangeShapes Go.WideShapes Go.Deep
set_option linter.unusedVariables false
set_option linter.unusedSimpArgs false
section
variable {H : Type} {enc : TypeId × Value → H} {w : World} {spare : Nat → Bool} {held : Bool}
set_option maxRecDepth 100000 in
theorem cells_op13 {n : Nat} {cs : List Value} {x : DataW H × List MemPlace} (h : DataW.trod enc Try.prog w 0 spare held n 89 cs = some x) : ∃ o : O12, cs = o.vals ∧ o.ok := by
  obtain ⟨xs, m, -, -, hl, hlen, hf⟩ := DataW.trod_struct Try.underlying89 h
  have hl4 : cs.length = 4 := hl.trans (by kernel_rfl)
  have hs : ∀ i, i < 4 → ∃ z, xs[i]? = some z := fun i hi => ⟨_, List.getElem?_eq_getElem (by rw [hlen]; exact hi)⟩
  match cs, hl4 with
  | [c0, c1, c2, c3], _ =>
    obtain ⟨a0, q0, w0⟩ := int_of_trod (c := c0) (hs 0 (by decide)) Try.underlying3 (by show List.take (Try.prog.cellsOf 3) (List.drop 0 [c0, c1, c2, c3]) = _; rw [cInt]; rfl) (hf 0 _ rfl)
    obtain ⟨a1, q1, w1⟩ := int_of_trod (c := c1) (hs 1 (by decide)) Try.underlying3 (by show List.take (Try.prog.cellsOf 3) (List.drop 1 [c0, c1, c2, c3]) = _; rw [cInt]; rfl) (hf 1 _ rfl)
    obtain ⟨a2, q2, w2⟩ := int_of_trod (c := c2) (hs 2 (by decide)) Try.underlying36 (by show List.take (Try.prog.cellsOf 36) (List.drop 2 [c0, c1, c2, c3]) = _; rw [cU64]; rfl) (hf 2 _ rfl)
    obtain ⟨a3, q3, w3⟩ := int_of_trod (c := c3) (hs 3 (by decide)) Try.underlying36 (by show List.take (Try.prog.cellsOf 36) (List.drop 3 [c0, c1, c2, c3]) = _; rw [cU64]; rfl) (hf 3 _ rfl)
    simp [Lit.wf, IntKind.min, IntKind.max, IntKind.signed, IntKind.bits] at w0 w1 w2 w3
    subst q0; subst q1; subst q2; subst q3
    exact ⟨⟨a0, a1, a2, a3⟩, rfl, by unfold O12.ok; dsimp only; omega⟩

set_option maxRecDepth 100000 in
theorem open_op13 {b : Nat} {r : Reach} {v : Value} {d : DataW H} {p : List MemPlace} (hv : Value.okWide Try.prog w r b 89 v) (h : DataW.Trod enc Try.prog w 0 spare held 89 v d p) : ∃ o : O12, v = .agg o.vals.toArray ∧ o.ok :=
  open_val O12.vals O12.ok Try.underlying89 (fun _ _ _ h => cells_op13 h) hv h
set_option maxRecDepth 100000 in
theorem open_ops13 {b : Nat} {r : Reach} {v : Value} {d : DataW H} {p : List MemPlace} (hv : Value.okWide Try.prog w r b 86 v) (h : DataW.Trod enc Try.prog w 0 spare held 86 v d p) : ∃ O : List O12, Rd w v O.length (oCells O) ∧ ∀ o ∈ O, o.ok :=
  open_rows (k := 4) O12.vals O12.ok (fun _ => rfl) Try.underlying86 (by kernel_rfl) (fun _ _ _ h => cells_op13 h) hv h
/-- A ring of a program: what is asked for. -/
structure Rc where
  k : Int
  c : Int
  r : Int
def Rc.vals (x : Rc) : List Value := [.int .i64 x.k, .int .i64 x.c, .int .i64 x.r]
def Rc.ok (x : Rc) : Prop := -9223372036854775808 ≤ x.k ∧ x.k ≤ 9223372036854775807 ∧ -9223372036854775808 ≤ x.c ∧ x.c ≤ 9223372036854775807 ∧ -9223372036854775808 ≤ x.r ∧ x.r ≤ 9223372036854775807
set_option maxRecDepth 100000 in
theorem cells_rc {n : Nat} {cs : List Value} {x : DataW H × List MemPlace} (h : DataW.trod enc Try.prog w 0 spare held n 23 cs = some x) : ∃ o : Rc, cs = o.vals ∧ o.ok := by
  obtain ⟨xs, m, -, -, hl, hlen, hf⟩ := DataW.trod_struct Try.underlying23 h
  have hl4 : cs.length = 3 := hl.trans (by kernel_rfl)
  have hs : ∀ i, i < 3 → ∃ z, xs[i]? = some z := fun i hi => ⟨_, List.getElem?_eq_getElem (by rw [hlen]; exact hi)⟩
  match cs, hl4 with
  | [c0, c1, c2], _ =>
    obtain ⟨a0, q0, w0⟩ := int_of_trod (c := c0) (hs 0 (by decide)) Try.underlying3 (by show List.take (Try.prog.cellsOf 3) (List.drop 0 [c0, c1, c2]) = _; rw [cInt]; rfl) (hf 0 _ rfl)
    obtain ⟨a1, q1, w1⟩ := int_of_trod (c := c1) (hs 1 (by decide)) Try.underlying3 (by show List.take (Try.prog.cellsOf 3) (List.drop 1 [c0, c1, c2]) = _; rw [cInt]; rfl) (hf 1 _ rfl)
    obtain ⟨a2, q2, w2⟩ := int_of_trod (c := c2) (hs 2 (by decide)) Try.underlying3 (by show List.take (Try.prog.cellsOf 3) (List.drop 2 [c0, c1, c2]) = _; rw [cInt]; rfl) (hf 2 _ rfl)
    simp [Lit.wf, IntKind.min, IntKind.max, IntKind.signed, IntKind.bits] at w0 w1 w2
    subst q0; subst q1; subst q2
    exact ⟨⟨a0, a1, a2⟩, rfl, by unfold Rc.ok; dsimp only; omega⟩

set_option maxRecDepth 100000 in
theorem open_rc {b : Nat} {r : Reach} {v : Value} {d : DataW H} {p : List MemPlace} (hv : Value.okWide Try.prog w r b 23 v) (h : DataW.Trod enc Try.prog w 0 spare held 23 v d p) : ∃ o : Rc, v = .agg o.vals.toArray ∧ o.ok :=
  open_val Rc.vals Rc.ok Try.underlying23 (fun _ _ _ h => cells_rc h) hv h
/-- A call of a script of layer 14. -/
structure O14 where
  k : Int
  j : Int
  v : Int
def O14.z : O14 := ⟨0, 0, 0⟩
def O14.vals (x : O14) : List Value := [.int .i64 x.k, .int .i64 x.j, .int .u64 x.v]
def O14.ok (x : O14) : Prop := -9223372036854775808 ≤ x.k ∧ x.k ≤ 9223372036854775807 ∧ -9223372036854775808 ≤ x.j ∧ x.j ≤ 9223372036854775807 ∧ 0 ≤ x.v ∧ x.v < 18446744073709551616
def oCells14 (l : List O14) : List Value := l.flatMap O14.vals
set_option maxRecDepth 100000 in
theorem cells_op14 {n : Nat} {cs : List Value} {x : DataW H × List MemPlace} (h : DataW.trod enc Try.prog w 0 spare held n 38 cs = some x) : ∃ o : O14, cs = o.vals ∧ o.ok := by
  obtain ⟨xs, m, -, -, hl, hlen, hf⟩ := DataW.trod_struct Try.underlying38 h
  have hl4 : cs.length = 3 := hl.trans (by kernel_rfl)
  have hs : ∀ i, i < 3 → ∃ z, xs[i]? = some z := fun i hi => ⟨_, List.getElem?_eq_getElem (by rw [hlen]; exact hi)⟩
  match cs, hl4 with
  | [c0, c1, c2], _ =>
    obtain ⟨a0, q0, w0⟩ := int_of_trod (c := c0) (hs 0 (by decide)) Try.underlying3 (by show List.take (Try.prog.cellsOf 3) (List.drop 0 [c0, c1, c2]) = _; rw [cInt]; rfl) (hf 0 _ rfl)
    obtain ⟨a1, q1, w1⟩ := int_of_trod (c := c1) (hs 1 (by decide)) Try.underlying3 (by show List.take (Try.prog.cellsOf 3) (List.drop 1 [c0, c1, c2]) = _; rw [cInt]; rfl) (hf 1 _ rfl)
    obtain ⟨a2, q2, w2⟩ := int_of_trod (c := c2) (hs 2 (by decide)) Try.underlying36 (by show List.take (Try.prog.cellsOf 36) (List.drop 2 [c0, c1, c2]) = _; rw [cU64]; rfl) (hf 2 _ rfl)
    simp [Lit.wf, IntKind.min, IntKind.max, IntKind.signed, IntKind.bits] at w0 w1 w2
    subst q0; subst q1; subst q2
    exact ⟨⟨a0, a1, a2⟩, rfl, by unfold O14.ok; dsimp only; omega⟩

set_option maxRecDepth 100000 in
theorem open_ops14 {b : Nat} {r : Reach} {v : Value} {d : DataW H} {p : List MemPlace} (hv : Value.okWide Try.prog w r b 24 v) (h : DataW.Trod enc Try.prog w 0 spare held 24 v d p) : ∃ O : List O14, Rd w v O.length (oCells14 O) ∧ ∀ o ∈ O, o.ok :=
  open_rows (k := 3) O14.vals O14.ok (fun _ => rfl) Try.underlying24 (by kernel_rfl) (fun _ _ _ h => cells_op14 h) hv h
/-- A step of a client. -/
structure S14 where
  cl : Int
  k : Int
  j : Int
  v : Int
def S14.z : S14 := ⟨0, 0, 0, 0⟩
def S14.vals (x : S14) : List Value := [.int .i64 x.cl, .int .i64 x.k, .int .i64 x.j, .int .u64 x.v]
def S14.ok (x : S14) : Prop := -9223372036854775808 ≤ x.cl ∧ x.cl ≤ 9223372036854775807 ∧ -9223372036854775808 ≤ x.k ∧ x.k ≤ 9223372036854775807 ∧ -9223372036854775808 ≤ x.j ∧ x.j ≤ 9223372036854775807 ∧ 0 ≤ x.v ∧ x.v < 18446744073709551616
def sCells14 (l : List S14) : List Value := l.flatMap S14.vals
set_option maxRecDepth 100000 in
theorem cells_st14 {n : Nat} {cs : List Value} {x : DataW H × List MemPlace} (h : DataW.trod enc Try.prog w 0 spare held n 134 cs = some x) : ∃ o : S14, cs = o.vals ∧ o.ok := by
  obtain ⟨xs, m, -, -, hl, hlen, hf⟩ := DataW.trod_struct Try.underlying134 h
  have hl4 : cs.length = 4 := hl.trans (by kernel_rfl)
  have hs : ∀ i, i < 4 → ∃ z, xs[i]? = some z := fun i hi => ⟨_, List.getElem?_eq_getElem (by rw [hlen]; exact hi)⟩
  match cs, hl4 with
  | [c0, c1, c2, c3], _ =>
    obtain ⟨a0, q0, w0⟩ := int_of_trod (c := c0) (hs 0 (by decide)) Try.underlying3 (by show List.take (Try.prog.cellsOf 3) (List.drop 0 [c0, c1, c2, c3]) = _; rw [cInt]; rfl) (hf 0 _ rfl)
    obtain ⟨a1, q1, w1⟩ := int_of_trod (c := c1) (hs 1 (by decide)) Try.underlying3 (by show List.take (Try.prog.cellsOf 3) (List.drop 1 [c0, c1, c2, c3]) = _; rw [cInt]; rfl) (hf 1 _ rfl)
    obtain ⟨a2, q2, w2⟩ := int_of_trod (c := c2) (hs 2 (by decide)) Try.underlying3 (by show List.take (Try.prog.cellsOf 3) (List.drop 2 [c0, c1, c2, c3]) = _; rw [cInt]; rfl) (hf 2 _ rfl)
    obtain ⟨a3, q3, w3⟩ := int_of_trod (c := c3) (hs 3 (by decide)) Try.underlying36 (by show List.take (Try.prog.cellsOf 36) (List.drop 3 [c0, c1, c2, c3]) = _; rw [cU64]; rfl) (hf 3 _ rfl)
    simp [Lit.wf, IntKind.min, IntKind.max, IntKind.signed, IntKind.bits] at w0 w1 w2 w3
    subst q0; subst q1; subst q2; subst q3
    exact ⟨⟨a0, a1, a2, a3⟩, rfl, by unfold S14.ok; dsimp only; omega⟩

set_option maxRecDepth 100000 in
theorem open_sts14 {b : Nat} {r : Reach} {v : Value} {d : DataW H} {p : List MemPlace} (hv : Value.okWide Try.prog w r b 76 v) (h : DataW.Trod enc Try.prog w 0 spare held 76 v d p) : ∃ O : List S14, Rd w v O.length (sCells14 O) ∧ ∀ o ∈ O, o.ok :=
  open_rows (k := 4) S14.vals S14.ok (fun _ => rfl) Try.underlying76 (by kernel_rfl) (fun _ _ _ h => cells_st14 h) hv h
def u64ok (x : Int) : Prop := 0 ≤ x ∧ x < 18446744073709551616
set_option maxRecDepth 100000 in
/-- Whole numbers. -/
theorem open_u64s {b : Nat} {r : Reach} {v : Value} {d : DataW H} {p : List MemPlace} (hv : Value.okWide Try.prog w r b 31 v) (h : DataW.Trod enc Try.prog w 0 spare held 31 v d p) : ∃ O : List Int, Rd w v O.length (u64s O) ∧ ∀ o ∈ O, u64ok o := by
  obtain ⟨O, h1, h2⟩ := open_rows (k := 1) (fun x : Int => [Value.int .u64 x]) u64ok (fun _ => rfl) Try.underlying31 (by kernel_rfl) (fun n cs x h => by
    obtain ⟨a, q, -, wf⟩ := DataW.trod_int Try.underlying36 h
    simp [Lit.wf, IntKind.min, IntKind.max, IntKind.signed, IntKind.bits] at wf
    exact ⟨a, q, by unfold u64ok; omega⟩) hv h
  refine ⟨O, ?_, h2⟩
  have e : O.flatMap (fun x : Int => [Value.int .u64 x]) = u64s O := by unfold u64s; rw [List.map_eq_flatMap]
  rw [← e]; exact h1
end
end Go.Proofs.Ytmejnhfggmmefaa.H
