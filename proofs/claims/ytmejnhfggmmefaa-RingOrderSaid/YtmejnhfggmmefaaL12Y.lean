/- Maps in layers 12 and 13: a map from uint64 to uint64, a map that counts Ops by reader and ticket. No condition. -/
import Derived.Maps.OwnOps
import Derived.Maps.OwnSet
import Derived.Maps.Views
import Derived.WideKeyEntry
import Derived.DeepKeys4
import Derived.Test.YtmejnhfggmmefaaL12X
import Derived.Test.YtmejnhfggmmefaaOpen
namespace Go.Proofs.Ytmejnhfggmmefaa.H
open Go.RowKit Go.WideElems Go.ChangeShapes Go.WideShapes Go.MapKept Go.ChangeMaps
open Go.WideMaps (KeyLaw)
open Go.Maps (Keyed)
set_option linter.unusedVariables false
set_option linter.unusedSimpArgs false

theorem setBlock_twice (w : World) (b : Nat) (o o' : Obj) : setBlock (setBlock w b o) b o' = setBlock w b o' := by
  unfold setBlock
  simp only [Array.setIfInBounds_setIfInBounds]
section
variable {P : Program} {w : World} {t k e : TypeId} {q : IntKind} {b n : Nat} {D : DataW Unit}
/-- The entry made for 'm[k] op= v' leaves the map as a store of the value it had. -/
theorem entry_as_store {R : Value → Option (DataW Unit × List MemPlace)} {es : Array MapEntry} {clock : Nat} (KL : KeyLaw P k) (ht : P.underlying t = some (.map k e)) {z : Value} (hz : ∀ u : World, (zeroValue e).run P u = .ok z u) (hb : w.heap[b]? = some (.map es clock)) (F : Fit P k R es clock) {key : Value} {kl : Lit} (hkey : keyOf P k key = some kl) :
    ∃ v0 st es' clock', (Instr.mapEntry t (.map (some b)) key).run P w = .ok (.tuple #[v0, goInt st]) (setBlock w b (.map es' clock')) ∧ (Instr.mapUpdate t (.map (some b)) key v0).run P w = .ok () (setBlock w b (.map es' clock')) := by
  rcases KL.find w hkey es.toList F.keys with ⟨h1, h2⟩ | ⟨j, e0, h1, h2, h3⟩
  · refine ⟨z, clock, es.push ⟨key, z, clock⟩, clock + 1, ?_, ?_⟩
    · simp [Instr.mapEntry, run_underlying ht, MapKept.run_getObj_map hb, KL.check w false hkey, h1, hz, MapKept.run_setObj_map _ hb, Result.andThen, setBlock]
    · simp [Instr.mapUpdate, run_underlying ht, MapKept.run_getObj_map hb, KL.check w false hkey, h1, MapKept.run_setObj_map _ hb, Result.andThen, setBlock]
  · have hj : es[j]? = some e0 := by simpa using h2
    have hsame : es.modify j (fun e => { e with key := key }) = es := by
      apply Array.ext'
      rw [Array.toList_modify, modify_eq_set _ _ _ _ h2]
      have : ({ e0 with key := key } : MapEntry) = e0 := by rw [← h3]
      rw [this]
      exact set_self _ _ _ h2
    have hsame2 : es.modify j (fun e' => { e' with key := key, val := e0.val }) = es := by
      apply Array.ext'
      rw [Array.toList_modify, modify_eq_set _ _ _ _ h2]
      have : ({ e0 with key := key, val := e0.val } : MapEntry) = e0 := by rw [← h3]
      rw [this]
      exact set_self _ _ _ h2
    refine ⟨e0.val, e0.born, es, clock, ?_, ?_⟩
    · simp [Instr.mapEntry, run_underlying ht, MapKept.run_getObj_map hb, KL.check w false hkey, h1, hj, h3, KL.stays w hkey, hsame, MapKept.run_setObj_map _ hb, Result.andThen, setBlock]
    · simp [Instr.mapUpdate, run_underlying ht, MapKept.run_getObj_map hb, KL.check w false hkey, h1, hj, h3, KL.stays w hkey, hsame2, MapKept.run_setObj_map _ hb, Result.andThen, setBlock]
theorem entry_own (h : w.ownsMap P k (plainElem P e) b n D) (KL : KeyLaw P k) (ht : P.underlying t = some (.map k e)) (he : P.underlying e = some (.int q)) (hz : ∀ u : World, (zeroValue e).run P u = .ok (.int q 0) u) (hn : n < maxLen) {key : Value} {kl : Lit} (hkey : keyOf P k key = some kl)
    {c : Int} (hc : D.atKey kl (.lit (.int q 0)) = .lit (.int q c)) {d : Int} (wd : (Lit.int q d).wf = true) :
    ∃ st w1 w2, (Instr.mapEntry t (.map (some b)) key).run P w = .ok (.tuple #[.int q c, goInt st]) w1 ∧ (Instr.lookup t (.map (some b)) key false).run P w1 = .ok (.int q c) w1 ∧ w1.ownsMap P k (plainElem P e) b (n + 1) (D.put kl (.lit (.int q c))) ∧
      (Instr.entryStore t (.map (some b)) (goInt st) (.int q d)).run P w1 = .ok () w2 ∧ w2.ownsMap P k (plainElem P e) b (n + 1) (D.put kl (.lit (.int q d))) ∧ w.grownBy w1 (some b) ∧ w.grownBy w2 (some b) := by
  have K := Keyed.of_law KL
  obtain ⟨c', hrun, hat, hwc⟩ := h.lookup_int K ht he (hz w) hkey
  rw [hc] at hat
  injection hat with hat
  injection hat with _ hat
  subst hat
  have hown := h
  obtain ⟨es, clock, hb, F, hs, rfl⟩ := h
  obtain ⟨v0, st, es1, clock1, hE, hcase, hS⟩ := entry_then_store KL ht hz hb F hkey
  have hv0 : v0 = .int q c := by
    rcases hcase with ⟨e0, hm0, hk0, rfl⟩ | ⟨hno, rfl⟩
    · obtain ⟨y, hy⟩ := F.reads e0 hm0
      obtain ⟨z, hz0, _⟩ := rd_val hy
      have hat := atKey_some KL F hkey hm0 hk0 hz0 (.lit (.int q 0))
      obtain ⟨a, e1, e2, _⟩ := plainElem_int_inv he hz0
      rw [hc, e2] at hat
      injection hat with hat
      injection hat with _ hat
      rw [e1, hat]
    · have hat := atKey_none (R := plainElem P e) KL F hkey hno (.lit (.int q 0))
      rw [hc] at hat
      injection hat with hat
      injection hat with _ hat
      rw [hat]
  subst hv0
  obtain ⟨v1, st1, es', clock', hE', hU⟩ := entry_as_store KL ht hz hb F hkey
  rw [hE] at hE'
  injection hE' with x1 x2
  injection x1 with x1
  have x3 : Value.int q c = v1 := by
    have := congrArg (fun a : Array Value => a[0]?) x1
    simpa using this
  subst x3
  rw [← x2] at hU
  obtain ⟨w1, r1, r2, r3⟩ := hown.update K ht hn hkey (plainElem_int he hwc)
  rw [hU] at r1
  injection r1 with _ r1
  subst r1
  obtain ⟨w2, s1, s2, s3⟩ := hown.update K ht hn hkey (plainElem_int he wd)
  obtain ⟨es2, clock2, t1, t2⟩ := hS (setBlock w b (.map es1 clock1)) (.int q d) (heap_setBlock_same hb _)
  rw [t2] at s1
  injection s1 with _ s1
  subst s1
  obtain ⟨c2, l1, l2, _⟩ := r2.lookup_int K ht he (hz _) hkey
  refine ⟨st, _, _, hE, ?_, r2, ?_, s2, r3, s3⟩
  · rw [Maps.atKey_put_same ⟨_, rfl⟩ (by obtain ⟨s, rfl⟩ := KL.str hkey; trivial)] at l2
    have l3 : c = c2 := by simpa using l2
    rw [l3, ← l1]
  · rw [setBlock_twice] at t1
    exact t1
end
/- The two maps. -/
theorem laidOut : Go.laidOutB Try.prog = true := by kernel_rfl
theorem wideOp : (match Program.underlying Try.prog 66 with | some (.array _ _) | some (.struct _) => true | _ => false) = true := by kernel_rfl
theorem rowOp : (66 : TypeId) < Try.prog.types.size := of_decide_eq_true (by kernel_rfl)
theorem keyAtOp : Try.prog.keyTypeAt 2 66 = true := by kernel_rfl
theorem le10 : 2 + 1 ≤ 10000 := by decide
set_option maxRecDepth 100000 in
theorem lawOp : KeyLaw Try.prog 66 := deep_law_laid laidOut (m := 2) le10 rowOp keyAtOp wideOp
theorem typesSize : ∃ m, Try.prog.types.size = m + 1 := ⟨Try.prog.types.size - 1, by kernel_rfl⟩
theorem keyTypeOp : Program.keyType Try.prog 66 = true := by kernel_rfl
theorem cellsOp : Program.cellsOf Try.prog 66 = 4 := by kernel_rfl
theorem zeroI (w : World) : (zeroValue 3).run Try.prog w = .ok (.int .i64 0) w := by kernel_rfl
theorem zeroU (w : World) : (zeroValue 36).run Try.prog w = .ok (.int .u64 0) w := by kernel_rfl
/-- an Op as a key -/
def kOp (j t : Int) : Lit := .string (keyBytes [.int .i64 0, .int .i64 j, .int .u64 t, .int .u64 0])
theorem keyOp {j t : Int} (wj : (Lit.int .i64 j).wf = true) (wt : (Lit.int .u64 t).wf = true) : keyOf Try.prog 66 (.agg #[.int .i64 0, .int .i64 j, .int .u64 t, .int .u64 0]) = some (kOp j t) := by
  have w0 : (Lit.int .i64 0).wf = true := rfl
  have w1 : (Lit.int .u64 0).wf = true := rfl
  obtain ⟨m, hm⟩ := typesSize
  unfold keyOf
  simp only [Try.underlying66]
  rw [if_pos (by simp [keyTypeOp, Value.formed, Try.underlying66, cellsOp]), hm]
  unfold Program.keyLits
  simp only [Try.underlying66, Value.cells]
  rw [if_pos ⟨by rw [cellsOp]; rfl, by simp⟩]
  simp [cInt, cU64, Program.keyLits, Try.underlying3, Try.underlying36, wj, wt, w0, w1, kOp]
theorem kOp_inj {j t j' t' : Int} (wj : (Lit.int .i64 j).wf = true) (wt : (Lit.int .u64 t).wf = true) (wj' : (Lit.int .i64 j').wf = true) (wt' : (Lit.int .u64 t').wf = true) (h : kOp j t = kOp j' t') : j = j' ∧ t = t' := by
  have := lawOp.inj (keyOp wj wt) (by rw [h]; exact keyOp wj' wt')
  simpa using this
/-- What was put. -/
def PIn (w : World) (b n : Nat) (pv : Int → Option Int) : Prop :=
  ∃ D : DataW Unit, w.ownsMap Try.prog 36 (plainElem Try.prog 36) b n D ∧ ∀ T, Maps.has D (.int .u64 T) = (pv T).isSome ∧ ∀ v, pv T = some v → D.atKey (.int .u64 T) (.lit (.int .u64 0)) = .lit (.int .u64 v)
theorem PIn.made (w : World) : PIn (w.alloc (.map #[] 0)) w.heap.size 0 (fun _ => none) := ⟨_, w.ownsMap_made _ _ _, fun T => ⟨rfl, fun v h => by cases h⟩⟩
theorem PIn.kept {w w' : World} {b n : Nat} {pv : Int → Option Int} (h : PIn w b n pv) {row : Option Nat} (hg : w.grownBy w' row) (hne : some b ≠ row) : PIn w' b n pv := by
  obtain ⟨D, h1, h2⟩ := h
  exact ⟨D, h1.kept hg hne, h2⟩
theorem PIn.put {w w' : World} {b n : Nat} {D : DataW Unit} {pv : Int → Option Int} {t v : Int} (hown : w.ownsMap Try.prog 36 (plainElem Try.prog 36) b n D) (hD : ∀ T, Maps.has D (.int .u64 T) = (pv T).isSome ∧ ∀ v, pv T = some v → D.atKey (.int .u64 T) (.lit (.int .u64 0)) = .lit (.int .u64 v))
    (h : w'.ownsMap Try.prog 36 (plainElem Try.prog 36) b (n + 1) (D.put (.int .u64 t) (.lit (.int .u64 v)))) : PIn w' b (n + 1) (upd1 pv t v) := by
  have hm : Maps.IsMap D := hown.isMap
  refine ⟨_, h, fun T => ?_⟩
  unfold upd1
  by_cases e : T = t
  · subst e
    rw [if_pos rfl, Maps.has_put_same hm (k := .int .u64 T) trivial, Maps.atKey_put_same hm (k := .int .u64 T) trivial]
    exact ⟨rfl, fun v h => by injection h with h; rw [h]⟩
  · have hne : (Lit.int .u64 T) ≠ Lit.int .u64 t := fun h => by injection h with _ h; exact e h
    rw [if_neg e, Maps.has_put_other hne]
    refine ⟨(hD T).1, fun v h => ?_⟩
    rw [Maps.atKey_put_other hne]
    exact (hD T).2 v h
/-- How often each was got. -/
def CIn (w : World) (b n : Nat) (ct : Int → Int → Int) : Prop :=
  ∃ D : DataW Unit, w.ownsMap Try.prog 66 (plainElem Try.prog 3) b n D ∧ ∀ j T, (Lit.int .i64 j).wf = true → (Lit.int .u64 T).wf = true → D.atKey (kOp j T) (.lit (.int .i64 0)) = .lit (.int .i64 (ct j T))
theorem CIn.made (w : World) : CIn (w.alloc (.map #[] 0)) w.heap.size 0 (fun _ _ => 0) := ⟨_, w.ownsMap_made _ _ _, fun j T _ _ => rfl⟩
theorem CIn.kept {w w' : World} {b n : Nat} {ct : Int → Int → Int} (h : CIn w b n ct) {row : Option Nat} (hg : w.grownBy w' row) (hne : some b ≠ row) : CIn w' b n ct := by
  obtain ⟨D, h1, h2⟩ := h
  exact ⟨D, h1.kept hg hne, h2⟩
theorem CIn.put {w w' : World} {b n : Nat} {D : DataW Unit} {ct : Int → Int → Int} {j t : Int} (hown : w.ownsMap Try.prog 66 (plainElem Try.prog 3) b n D) (hD : ∀ j T, (Lit.int .i64 j).wf = true → (Lit.int .u64 T).wf = true → D.atKey (kOp j T) (.lit (.int .i64 0)) = .lit (.int .i64 (ct j T)))
    (wj : (Lit.int .i64 j).wf = true) (wt : (Lit.int .u64 t).wf = true) (h : w'.ownsMap Try.prog 66 (plainElem Try.prog 3) b (n + 1) (D.put (kOp j t) (.lit (.int .i64 1)))) : CIn w' b (n + 1) (upd2 ct j t) := by
  have hm : Maps.IsMap D := hown.isMap
  refine ⟨_, h, fun i T wi wT => ?_⟩
  unfold upd2
  by_cases e : i = j ∧ T = t
  · obtain ⟨rfl, rfl⟩ := e
    rw [if_pos ⟨rfl, rfl⟩, Maps.atKey_put_same hm (k := kOp i T) trivial]
  · have hne : kOp i T ≠ kOp j t := fun h => e (kOp_inj wi wT wj wt h)
    rw [if_neg e, Maps.atKey_put_other hne]
    exact hD i T wi wT
theorem PIn.kp {w w' : World} {b n : Nat} {pv : Int → Option Int} {S : Nat → Prop} (h : PIn w b n pv) (k : Kp S w w') (hn : ¬ S b) : PIn w' b n pv := by
  obtain ⟨D, ⟨es, clock, hb, F, hs, hD⟩, h2⟩ := h
  exact ⟨D, ⟨es, clock, bk_kp hb k hn, F, hs, hD⟩, h2⟩
theorem CIn.kp {w w' : World} {b n : Nat} {ct : Int → Int → Int} {S : Nat → Prop} (h : CIn w b n ct) (k : Kp S w w') (hn : ¬ S b) : CIn w' b n ct := by
  obtain ⟨D, ⟨es, clock, hb, F, hs, hD⟩, h2⟩ := h
  exact ⟨D, ⟨es, clock, bk_kp hb k hn, F, hs, hD⟩, h2⟩
theorem PIn.mono {w : World} {b n n' : Nat} {pv : Int → Option Int} (h : PIn w b n pv) (hn : n ≤ n') : PIn w b n' pv := by
  obtain ⟨D, h1, h2⟩ := h
  exact ⟨D, h1.mono hn, h2⟩
theorem CIn.mono {w : World} {b n n' : Nat} {ct : Int → Int → Int} (h : CIn w b n ct) (hn : n ≤ n') : CIn w b n' ct := by
  obtain ⟨D, h1, h2⟩ := h
  exact ⟨D, h1.mono hn, h2⟩
theorem grown_kp {w w' : World} {b : Nat} (h : w.grownBy w' (some b)) : Kp (· = b) w w' := (Kp.refl _ w).grown h (fun k e _ => (Option.some.inj e).symm)
theorem PIn.not_cells {w : World} {b n g : Nat} {pv : Int → Option Int} (h : PIn w b n pv) {cs : Array Value} {ty : TypeId} {fr : Nat × Nat} (hg : w.heap[g]? = some (.cells cs ty fr)) : b ≠ g := fun e => by
  obtain ⟨D, ⟨es, clock, hb, _⟩, _⟩ := h
  rw [e, hg] at hb
  cases hb
theorem CIn.not_cells {w : World} {b n g : Nat} {ct : Int → Int → Int} (h : CIn w b n ct) {cs : Array Value} {ty : TypeId} {fr : Nat × Nat} (hg : w.heap[g]? = some (.cells cs ty fr)) : b ≠ g := fun e => by
  obtain ⟨D, ⟨es, clock, hb, _⟩, _⟩ := h
  rw [e, hg] at hb
  cases hb
section
variable {w : World} {ops : Array Oper} {rest : List Oper} {o : Oper} {a : Act} {Q : Exit → Act → World → Prop}
/-- 'put[t]' where nothing was put. -/
theorem wp_look_no (hg : o.guard = none) (m x : Operand) (hop : o.op = Op.lookup 63 m x true) (b : Nat) (hm : a.eval m = .map (some b)) {n : Nat} {pv : Int → Option Int} (h : PIn w b n pv) (t : Int) (wt : (Lit.int .u64 t).wf = true) (hx : a.eval x = .int .u64 t) (hp : pv t = none)
    (hK : ∀ c : Int, wpList Try.prog ops Q rest (a.put o.dst (.tuple #[.int .u64 c, .bool false])) w) : wpList Try.prog ops Q (o :: rest) a w := by
  obtain ⟨D, hown, hD⟩ := h
  refine wpList_lookup_own_ok_int w hg m x _ hop _ _ .u64 (Go.Maps.int_keyed Try.underlying36) Try.underlying63 Try.underlying36 (zeroU _) b n D hm hown _ _ hx (Go.Maps.keyOf_int_mk Try.underlying36 wt) ?_
  intro c hat hwc
  rw [(hD t).1, hp]
  exact hK c
/-- .. where v was put. -/
theorem wp_look_yes (hg : o.guard = none) (m x : Operand) (hop : o.op = Op.lookup 63 m x true) (b : Nat) (hm : a.eval m = .map (some b)) {n : Nat} {pv : Int → Option Int} (h : PIn w b n pv) (t v : Int) (wt : (Lit.int .u64 t).wf = true) (hx : a.eval x = .int .u64 t) (hp : pv t = some v)
    (hK : wpList Try.prog ops Q rest (a.put o.dst (.tuple #[.int .u64 v, .bool true])) w) : wpList Try.prog ops Q (o :: rest) a w := by
  obtain ⟨D, hown, hD⟩ := h
  refine wpList_lookup_own_ok_int w hg m x _ hop _ _ .u64 (Go.Maps.int_keyed Try.underlying36) Try.underlying63 Try.underlying36 (zeroU _) b n D hm hown _ _ hx (Go.Maps.keyOf_int_mk Try.underlying36 wt) ?_
  intro c hat hwc
  rw [(hD t).2 v hp] at hat
  have e : v = c := by simpa using hat
  rw [(hD t).1, hp, ← e]
  exact hK
/-- 'put[t] = v'. -/
theorem wp_put (hg : o.guard = none) (m x y : Operand) (hop : o.op = Op.mapUpdate 63 m x y) (b : Nat) (hm : a.eval m = .map (some b)) {n : Nat} (hn : n < maxLen) {pv : Int → Option Int} (h : PIn w b n pv) (t v : Int) (wt : (Lit.int .u64 t).wf = true) (wv : (Lit.int .u64 v).wf = true) (hx : a.eval x = .int .u64 t) (hy : a.eval y = .int .u64 v)
    (hK : ∀ w', PIn w' b (n + 1) (upd1 pv t v) → Kp (· = b) w w' → wpList Try.prog ops Q rest (a.put o.dst undef) w') : wpList Try.prog ops Q (o :: rest) a w := by
  obtain ⟨D, hown, hD⟩ := h
  refine wpList_mapUpdate_own w hg m x y _ hop _ _ (Go.Maps.int_keyed Try.underlying36) Try.underlying63 _ b n D hm hown hn _ _ _ hx hy (Go.Maps.keyOf_int_mk Try.underlying36 wt) _ _ (plainElem_int Try.underlying36 wv) ?_
  intro w' hown' hgr
  exact hK w' (PIn.put hown hD hown') (grown_kp hgr)
/-- 'got[Op{J: j, T: t}]'. -/
theorem wp_got (hg : o.guard = none) (m x : Operand) (hop : o.op = Op.lookup 64 m x false) (b : Nat) (hm : a.eval m = .map (some b)) {n : Nat} {ct : Int → Int → Int} (h : CIn w b n ct) (j t : Int) (wj : (Lit.int .i64 j).wf = true) (wt : (Lit.int .u64 t).wf = true) (hx : a.eval x = .agg #[.int .i64 0, .int .i64 j, .int .u64 t, .int .u64 0])
    (hK : wpList Try.prog ops Q rest (a.put o.dst (.int .i64 (ct j t))) w) : wpList Try.prog ops Q (o :: rest) a w := by
  obtain ⟨D, hown, hD⟩ := h
  refine wpList_lookup_own_int w hg m x _ hop _ _ .i64 (Keyed.of_law lawOp) Try.underlying64 Try.underlying3 (zeroI _) b n D hm hown _ _ hx (keyOp wj wt) ?_
  intro c hat hwc
  rw [hD j t wj wt] at hat
  have e : ct j t = c := by simpa using hat
  rw [← e]
  exact hK
end
/-- 'got[Op{J: j, T: t}]++', where it was not got yet: what each of its operations does, in any order that is open. -/
theorem CIn.count {w : World} {b n : Nat} {ct : Int → Int → Int} (h : CIn w b n ct) (hn : n < maxLen) {j t : Int} (wj : (Lit.int .i64 j).wf = true) (wt : (Lit.int .u64 t).wf = true) (hc : ct j t = 0) :
    ∃ (st : Int) (w1 w2 : World), (Instr.lookup 64 (.map (some b)) (.agg #[.int .i64 0, .int .i64 j, .int .u64 t, .int .u64 0]) false).run Try.prog w = .ok (.int .i64 0) w ∧
      (Instr.mapEntry 64 (.map (some b)) (.agg #[.int .i64 0, .int .i64 j, .int .u64 t, .int .u64 0])).run Try.prog w = .ok (.tuple #[.int .i64 0, .int .i64 st]) w1 ∧
      (Instr.lookup 64 (.map (some b)) (.agg #[.int .i64 0, .int .i64 j, .int .u64 t, .int .u64 0]) false).run Try.prog w1 = .ok (.int .i64 0) w1 ∧
      (Instr.entryStore 64 (.map (some b)) (.int .i64 st) (.int .i64 (IntKind.i64.wrap 1))).run Try.prog w1 = .ok () w2 ∧ CIn w2 b (n + 1) (upd2 ct j t) ∧ Kp (· = b) w w1 ∧ Kp (· = b) w w2 := by
  obtain ⟨D, hown, hD⟩ := h
  have hc0 := hD j t wj wt
  rw [hc] at hc0
  obtain ⟨c, hrun, hat, -⟩ := hown.lookup_int (Keyed.of_law lawOp) Try.underlying64 Try.underlying3 (zeroI w) (keyOp wj wt)
  rw [hc0] at hat
  have e : 0 = c := by simpa using hat
  subst e
  obtain ⟨st, w1, w2, r1, r2, r3, r4, r5, r6, r7⟩ := entry_own hown lawOp Try.underlying64 Try.underlying3 zeroI hn (keyOp wj wt) hc0 (d := 1) (by decide)
  exact ⟨st, w1, w2, hrun, r1, r2, by rw [show IntKind.i64.wrap 1 = 1 from by decide]; exact r4, CIn.put hown hD wj wt r5, grown_kp r6, grown_kp r7⟩
end Go.Proofs.Ytmejnhfggmmefaa.H
