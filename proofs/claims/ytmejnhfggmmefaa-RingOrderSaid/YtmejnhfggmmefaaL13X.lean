/- Layer 13: a map that counts Ops by reader and ticket; RingOrder, plainly. No condition. -/
import Derived.Test.YtmejnhfggmmefaaL12Z
import Derived.Test.YtmejnhfggmmefaaL13D
import Derived.Test.YtmejnhfggmmefaaOpn13
namespace Go.Proofs.Ytmejnhfggmmefaa.H
open Go.RowKit Go.WideElems Go.ChangeShapes Go.WideShapes Go.MapKept Go.ChangeMaps
open Go.WideMaps (KeyLaw)
open Go.Maps (Keyed)
set_option linter.unusedVariables false
set_option linter.unusedSimpArgs false

theorem wideOp3 : (match Program.underlying Try.prog 89 with | some (.array _ _) | some (.struct _) => true | _ => false) = true := by kernel_rfl
theorem rowOp3 : (89 : TypeId) < Try.prog.types.size := of_decide_eq_true (by kernel_rfl)
theorem keyAtOp3 : Try.prog.keyTypeAt 2 89 = true := by kernel_rfl
theorem le103 : 2 + 1 ≤ 10000 := by decide
set_option maxRecDepth 100000 in
theorem lawOp3 : KeyLaw Try.prog 89 := deep_law_laid laidOut (m := 2) le103 rowOp3 keyAtOp3 wideOp3
theorem keyTypeOp3 : Program.keyType Try.prog 89 = true := by kernel_rfl
theorem cellsOp3 : Program.cellsOf Try.prog 89 = 4 := by kernel_rfl
theorem keyOp3 {j t : Int} (wj : (Lit.int .i64 j).wf = true) (wt : (Lit.int .u64 t).wf = true) : keyOf Try.prog 89 (.agg #[.int .i64 0, .int .i64 j, .int .u64 t, .int .u64 0]) = some (kOp j t) := by
  have w0 : (Lit.int .i64 0).wf = true := rfl
  have w1 : (Lit.int .u64 0).wf = true := rfl
  obtain ⟨m, hm⟩ := typesSize
  unfold keyOf
  simp only [Try.underlying89]
  rw [if_pos (by simp [keyTypeOp3, Value.formed, Try.underlying89, cellsOp3]), hm]
  unfold Program.keyLits
  simp only [Try.underlying89, Value.cells]
  rw [if_pos ⟨by rw [cellsOp3]; rfl, by simp⟩]
  simp [cInt, cU64, Program.keyLits, Try.underlying3, Try.underlying36, wj, wt, w0, w1, kOp]
theorem kOp_inj3 {j t j' t' : Int} (wj : (Lit.int .i64 j).wf = true) (wt : (Lit.int .u64 t).wf = true) (wj' : (Lit.int .i64 j').wf = true) (wt' : (Lit.int .u64 t').wf = true) (h : kOp j t = kOp j' t') : j = j' ∧ t = t' := by
  have := lawOp3.inj (keyOp3 wj wt) (by rw [h]; exact keyOp3 wj' wt')
  simpa using this
/-- How often each was got. -/
def CIn3 (w : World) (b n : Nat) (ct : Int → Int → Int) : Prop :=
  ∃ D : DataW Unit, w.ownsMap Try.prog 89 (plainElem Try.prog 3) b n D ∧ ∀ j T, (Lit.int .i64 j).wf = true → (Lit.int .u64 T).wf = true → D.atKey (kOp j T) (.lit (.int .i64 0)) = .lit (.int .i64 (ct j T))
theorem CIn3.made (w : World) : CIn3 (w.alloc (.map #[] 0)) w.heap.size 0 (fun _ _ => 0) := ⟨_, w.ownsMap_made _ _ _, fun j T _ _ => rfl⟩
theorem CIn3.kept {w w' : World} {b n : Nat} {ct : Int → Int → Int} (h : CIn3 w b n ct) {row : Option Nat} (hg : w.grownBy w' row) (hne : some b ≠ row) : CIn3 w' b n ct := by
  obtain ⟨D, h1, h2⟩ := h
  exact ⟨D, h1.kept hg hne, h2⟩
theorem CIn3.put {w w' : World} {b n : Nat} {D : DataW Unit} {ct : Int → Int → Int} {j t : Int} (hown : w.ownsMap Try.prog 89 (plainElem Try.prog 3) b n D) (hD : ∀ j T, (Lit.int .i64 j).wf = true → (Lit.int .u64 T).wf = true → D.atKey (kOp j T) (.lit (.int .i64 0)) = .lit (.int .i64 (ct j T)))
    (wj : (Lit.int .i64 j).wf = true) (wt : (Lit.int .u64 t).wf = true) (h : w'.ownsMap Try.prog 89 (plainElem Try.prog 3) b (n + 1) (D.put (kOp j t) (.lit (.int .i64 1)))) : CIn3 w' b (n + 1) (upd2 ct j t) := by
  have hm : Maps.IsMap D := hown.isMap
  refine ⟨_, h, fun i T wi wT => ?_⟩
  unfold upd2
  by_cases e : i = j ∧ T = t
  · obtain ⟨rfl, rfl⟩ := e
    rw [if_pos ⟨rfl, rfl⟩, Maps.atKey_put_same hm (k := kOp i T) trivial]
  · have hne : kOp i T ≠ kOp j t := fun h => e (kOp_inj3 wi wT wj wt h)
    rw [if_neg e, Maps.atKey_put_other hne]
    exact hD i T wi wT
theorem CIn3.kp {w w' : World} {b n : Nat} {ct : Int → Int → Int} {S : Nat → Prop} (h : CIn3 w b n ct) (k : Kp S w w') (hn : ¬ S b) : CIn3 w' b n ct := by
  obtain ⟨D, ⟨es, clock, hb, F, hs, hD⟩, h2⟩ := h
  exact ⟨D, ⟨es, clock, bk_kp hb k hn, F, hs, hD⟩, h2⟩
theorem CIn3.mono {w : World} {b n n' : Nat} {ct : Int → Int → Int} (h : CIn3 w b n ct) (hn : n ≤ n') : CIn3 w b n' ct := by
  obtain ⟨D, h1, h2⟩ := h
  exact ⟨D, h1.mono hn, h2⟩
theorem CIn3.not_cells {w : World} {b n g : Nat} {ct : Int → Int → Int} (h : CIn3 w b n ct) {cs : Array Value} {ty : TypeId} {fr : Nat × Nat} (hg : w.heap[g]? = some (.cells cs ty fr)) : b ≠ g := fun e => by
  obtain ⟨D, ⟨es, clock, hb, _⟩, _⟩ := h
  rw [e, hg] at hb
  cases hb
/-- 'got[Op{J: j, T: t}]++', where it was not got yet: what each of its operations does, in any order that is open. -/
theorem CIn3.count {w : World} {b n : Nat} {ct : Int → Int → Int} (h : CIn3 w b n ct) (hn : n < maxLen) {j t : Int} (wj : (Lit.int .i64 j).wf = true) (wt : (Lit.int .u64 t).wf = true) (hc : ct j t = 0) :
    ∃ (st : Int) (w1 w2 : World), (Instr.lookup 95 (.map (some b)) (.agg #[.int .i64 0, .int .i64 j, .int .u64 t, .int .u64 0]) false).run Try.prog w = .ok (.int .i64 0) w ∧
      (Instr.mapEntry 95 (.map (some b)) (.agg #[.int .i64 0, .int .i64 j, .int .u64 t, .int .u64 0])).run Try.prog w = .ok (.tuple #[.int .i64 0, .int .i64 st]) w1 ∧
      (Instr.lookup 95 (.map (some b)) (.agg #[.int .i64 0, .int .i64 j, .int .u64 t, .int .u64 0]) false).run Try.prog w1 = .ok (.int .i64 0) w1 ∧
      (Instr.entryStore 95 (.map (some b)) (.int .i64 st) (.int .i64 (IntKind.i64.wrap 1))).run Try.prog w1 = .ok () w2 ∧ CIn3 w2 b (n + 1) (upd2 ct j t) ∧ Kp (· = b) w w1 ∧ Kp (· = b) w w2 := by
  obtain ⟨D, hown, hD⟩ := h
  have hc0 := hD j t wj wt
  rw [hc] at hc0
  obtain ⟨c, hrun, hat, -⟩ := hown.lookup_int (Keyed.of_law lawOp3) Try.underlying95 Try.underlying3 (zeroI w) (keyOp3 wj wt)
  rw [hc0] at hat
  have e : 0 = c := by simpa using hat
  subst e
  obtain ⟨st, w1, w2, r1, r2, r3, r4, r5, r6, r7⟩ := entry_own hown lawOp3 Try.underlying95 Try.underlying3 zeroI hn (keyOp3 wj wt) hc0 (d := 1) (by decide)
  exact ⟨st, w1, w2, hrun, r1, r2, by rw [show IntKind.i64.wrap 1 = 1 from by decide]; exact r4, CIn3.put hown hD wj wt r5, grown_kp r6, grown_kp r7⟩
open Go.Maps (Keyed) in
theorem CIn3.run {w : World} {b n : Nat} {ct : Int → Int → Int} (h : CIn3 w b n ct) {j t : Int} (wj : (Lit.int .i64 j).wf = true) (wt : (Lit.int .u64 t).wf = true) :
    (Instr.lookup 95 (.map (some b)) (.agg #[.int .i64 0, .int .i64 j, .int .u64 t, .int .u64 0]) false).run Try.prog w = .ok (.int .i64 (ct j t)) w := by
  obtain ⟨D, hown, hD⟩ := h
  obtain ⟨c, hrun, hat, -⟩ := hown.lookup_int (Keyed.of_law lawOp3) Try.underlying95 Try.underlying3 (zeroI w) (keyOp3 wj wt)
  rw [hD j t wj wt] at hat
  have e : ct j t = c := by simpa using hat
  rw [hrun, e]

/-- RingOrder, plainly. -/
structure RTells (r r' : Rg) (R : Nat) (pv : Int → Option Int) (ct : Int → Int → Int) (k j t v x e : Int) : Prop where
  p : k = 1 → e = 0 → pv t = none ∧ OInv r'.L R (upd1 pv t v) ct
  g : k = 3 → e = 0 → pv t = some x ∧ ct j t = 0 ∧ OInv r'.L R pv (upd2 ct j t)
  s : (k ≠ 1 ∧ k ≠ 3) ∨ e ≠ 0 → OInv r'.L R pv ct
theorem rDo_order {r : Rg} {R : Nat} {pv : Int → Option Int} {ct : Int → Int → Int} (hR : r.heads.length = R) (h : OInv r.L R pv ct) (hl : 0 < r.L.length) (hR8 : R ≤ 8) (hok : ∀ x ∈ r.L, x.ok) (o : O12) (ht : 0 ≤ o.t) :
    RTells r (rDo r o).2.2 R pv ct (kd o) o.j o.t o.v (rDo r o).1 (rDo r o).2.1 := by
  have hk := kd_le o
  rcases (show kd o = 0 ∨ kd o = 1 ∨ kd o = 2 ∨ kd o = 3 ∨ kd o = 4 by omega) with hk | hk | hk | hk | hk
  · rw [hk]
    refine ⟨fun e => by omega, fun e => by omega, fun _ => ?_⟩
    rcases (rDo_tells r o).k0 hk with ⟨-, -, -, -, e⟩ | ⟨-, e⟩ <;> rw [e] <;> exact h
  · have e : rDo r o = (0, (rPublish r o.t o.v).1, (rPublish r o.t o.v).2) := by unfold rDo; rw [if_neg (by omega), if_pos hk]
    rw [e, hk]
    dsimp only
    unfold rPublish
    rw [hR]
    split
    · exact ⟨fun _ e => by simp at e, fun e => by omega, fun _ => h⟩
    · refine ⟨fun _ e => h.put hl ht e, fun e => by omega, fun e => ?_⟩
      have e2 : (sPut r.L R o.t o.v).1 ≠ 0 := by
        rcases e with e | e
        · exact absurd rfl e.1
        · exact e
      dsimp only
      rw [sPut_same e2]
      exact h
  · rw [hk]
    refine ⟨fun e => by omega, fun e => by omega, fun _ => ?_⟩
    rcases (rDo_tells r o).k2 hk with ⟨-, -, -, -, e⟩ | ⟨-, e⟩ <;> rw [e] <;> exact h
  · have e : rDo r o = rRelease r o.j o.t := by unfold rDo; rw [if_neg (by omega), if_neg (by omega), if_neg (by omega), if_pos hk]
    rw [e, hk]
    unfold rRelease
    rw [hR]
    split
    · split
      · exact ⟨fun e => by omega, fun _ e => by simp at e, fun _ => h⟩
      · refine ⟨fun e => by omega, fun _ e => h.get hl hR8 hok ht e, fun e => ?_⟩
        have e2 : (sGet r.L R o.j o.t).2.1 ≠ 0 := by
          rcases e with e | e
          · exact absurd rfl e.2
          · exact e
        dsimp only
        rw [sGet_same e2]
        exact h
    · exact ⟨fun e => by omega, fun _ e => by simp at e, fun _ => h⟩
  · rw [hk]
    refine ⟨fun e => by omega, fun e => by omega, fun _ => ?_⟩
    rw [(rDo_tells r o).k4 hk]
    exact h
end Go.Proofs.Ytmejnhfggmmefaa.H
