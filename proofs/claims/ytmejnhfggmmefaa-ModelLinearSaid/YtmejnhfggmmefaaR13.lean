/- Layer 13's reference (rondeauref13): a ring as a value; least, Full. No condition. -/
import Derived.Test.YtmejnhfggmmefaaL13E
import Derived.Test.YtmejnhfggmmefaaR12B
namespace Go.Proofs.Ytmejnhfggmmefaa.H
open Go.RowKit
set_option linter.unusedVariables false
set_option linter.unusedSimpArgs false

/-- A ring of the reference, as a value: its heads apart from S, its places apart from bb. -/
def RG (bb S : Nat → Prop) (w : World) (e : Value) (r : Rg) : Prop :=
  ∃ vh vl, e = .agg #[.int .u64 r.L.length, .int .u64 r.tail, vh, .bool r.closed, vl, .int .i64 r.heads.length] ∧ Rd w vh r.heads.length (u64s r.heads) ∧ Rd w vl r.L.length (slCells r.L) ∧ (∀ k, vh.ownBlock = some k → ¬ S k) ∧ ∀ k, vl.ownBlock = some k → ¬ bb k
theorem RG.kp {w w' : World} {bb : Nat → Prop} {S S' : Nat → Prop} {e : Value} {r : Rg} (h : RG bb S w e r) (k : Kp S' w w') (hS : ∀ i, S' i → bb i ∧ S i) : RG bb S w' e r := by
  obtain ⟨vh, vl, rfl, h1, h2, h3, h4⟩ := h
  exact ⟨vh, vl, rfl, h1.kp k (fun b hb hs => h3 b hb (hS b hs).2), h2.kp k (fun b hb hs => h4 b hb (hS b hs).1), h3, h4⟩
theorem leastL_is {l : List Int} {n : Int} (h : n ∈ l) (h2 : ∀ i < l.length, n ≤ l.getD i 0) : n = leastL l := by
  have h1 := leastL_le h
  have h3 := leastL_mem (l := l) (List.length_pos_of_mem h)
  obtain ⟨i, hi, he⟩ := List.mem_iff_getElem.1 h3
  have h4 := h2 i hi
  rw [List.getD_eq_getElem?_getD, List.getElem?_eq_getElem hi] at h4
  simp only [Option.getD_some] at h4
  omega
theorem getD_mem {l : List Int} {i : Nat} (h : i < l.length) : l.getD i 0 ∈ l := by
  rw [List.getD_eq_getElem?_getD, List.getElem?_eq_getElem h]; exact List.getElem_mem h
variable {w : World}
set_option maxRecDepth 100000 in
set_option maxHeartbeats 3200000 in
theorem RLeast_any (l : List Int) {v : Value} (h0 : 0 < l.length) (hn : l.length ≤ 64) (hr : Rd w v l.length (u64s l)) :
    Calls Try.prog 95 #[v] w fun e w' => e = .returned (.int .u64 (leastL l)) ∧ w' = w := by
  obtain ⟨ab, ao, c, rfl, -, -, hc⟩ := hr.form (by simpa [u64s] using h0)
  have c0 := hc 0 _ (u64s_get l 0 h0)
  rw [Nat.add_zero] at c0
  have HS := As.mk (show l.getD 0 0 ∈ l ∧ ∀ i < 0, l.getD 0 0 ≤ l.getD i 0 from ⟨getD_mem h0, fun i hi => by omega⟩)
  have HC := As.mk hc
  generalize l.getD 0 0 = x0 at c0 HS
  clear hc hr
  go_enter Try.func95, Try.ntmps95
  go_wp2_with fail
  go_loopw [3, 4] (fun v3 v4 wr => ∃ (k : Nat) (n : Int), k ≤ l.length ∧ v4 = .int .i64 k ∧ v3 = .int .u64 n ∧ wr = w ∧ As (n ∈ l ∧ ∀ i < k, n ≤ l.getD i 0)) (fun _ v4 _ => l.length - (intOf v4).toNat)
  case atStart => exact ⟨0, x0, Nat.zero_le _, rfl, rfl, rfl, HS⟩
  case round =>
    clear HS c0
    obtain ⟨k, n, hk, rfl, rfl, rfl, HA⟩ := hrel
    by_cases hlt : k < l.length
    · have ck := HC.out k _ (u64s_get l k hlt)
      have hm := As.mk (getD_mem hlt)
      generalize hx : l.getD k 0 = x at ck hm
      have HX := As.mk hx
      clear hx
      by_cases hx2 : x < n
      · have hd : decide (x < n) = true := decide_eq_true hx2
        have HN := As.mk (show x ∈ l ∧ ∀ i < k + 1, x ≤ l.getD i 0 from ⟨hm.out, fun i hi => by
          by_cases e : i = k
          · subst e; rw [HX.out]; exact Int.le_refl _
          · have := HA.out.2 i (by omega); omega⟩)
        clear hm HA
        go_wp2
        exact ⟨⟨k + 1, x, by omega, by go_num, by first | trivial | rfl, by first | trivial | rfl, HN⟩, by simp [intOf]; omega⟩
      · have hd : decide (x < n) = false := decide_eq_false hx2
        have HN := As.mk (show n ∈ l ∧ ∀ i < k + 1, n ≤ l.getD i 0 from ⟨HA.out.1, fun i hi => by
          by_cases e : i = k
          · subst e; rw [HX.out]; omega
          · exact HA.out.2 i (by omega)⟩)
        clear hm HA
        go_wp2
        exact ⟨⟨k + 1, n, by omega, by go_num, by first | trivial | rfl, by first | trivial | rfl, HN⟩, by simp [intOf]; omega⟩
    · have e : n = leastL l := leastL_is HA.out.1 (fun i hi => HA.out.2 i (by omega))
      clear HA
      subst e
      go_wp2
      go_ret
      exact ⟨rfl, rfl⟩
/-- What a ring of the reference is, of whose functions we speak. -/
structure RA13 (r : Rg) : Prop where
  s : RArg r.L r.heads.length
  t0 : 0 ≤ r.tail
  t1 : r.tail < 9223372036854775807
  n0 : 0 < r.heads.length
  h0 : ∀ h ∈ r.heads, 0 ≤ h ∧ h ≤ r.tail
  ll : r.L.length ≤ 64
/-- the six cells of a ring -/
theorem six {w W : World} {b : Nat} {cs : Array Value} {T : TypeId} (h : W.heap[b]? = some (.cells cs T (0, 0))) {a0 a1 a2 a3 a4 a5 : Value} (e : cs = #[a0, a1, a2, a3, a4, a5]) :
    W.cell? ⟨b, 0, none⟩ = some a0 ∧ W.cell? ⟨b, 1, none⟩ = some a1 ∧ W.cell? ⟨b, 2, none⟩ = some a2 ∧ W.cell? ⟨b, 3, none⟩ = some a3 ∧ W.cell? ⟨b, 4, none⟩ = some a4 ∧ W.cell? ⟨b, 5, none⟩ = some a5 := by
  subst e
  exact ⟨bk_cell h 0, bk_cell h 1, bk_cell h 2, bk_cell h 3, bk_cell h 4, bk_cell h 5⟩
set_option maxRecDepth 100000 in
set_option maxHeartbeats 3200000 in
theorem RFull_any {bb : Nat → Prop} {S : Nat → Prop} {r : Rg} {e : Value} (hA : RA13 r) (h : RG bb S w e r) :
    Calls Try.prog 86 #[e] w fun e w' => e = .returned (.bool (rFull r)) ∧ Kp no w w' := by
  obtain ⟨vh, vl, rfl, h1, h2, h3, h4⟩ := h
  have hm := hA.h0 _ (leastL_mem hA.n0)
  have ht := hA.t1
  have hw : IntKind.u64.wrap (r.tail - leastL r.heads) = r.tail - leastL r.heads := by rw [IntKind.wrap_u64]; omega
  have HL := fun (W : World) (k : Kp no w W) => RLeast_any r.heads hA.n0 (by have := hA.s.hR; omega) (h1.kp k (fun _ _ x => x))
  obtain ⟨Ah, ch, rfl, -⟩ := id h1
  obtain ⟨Al, cl, rfl, -⟩ := id h2
  clear hm ht h1 h2 h3 h4
  go_enter Try.func86, Try.ntmps86
  go_wp2
  obtain ⟨m0, hK⟩ := box1 (w := w) #[.int .u64 r.L.length, .int .u64 r.tail, .slice Ah r.heads.length ch, .bool r.closed, .slice Al r.L.length cl, .int .i64 r.heads.length] 104
  generalize w.alloc (.cells #[.int .u64 r.L.length, .int .u64 r.tail, .slice Ah r.heads.length ch, .bool r.closed, .slice Al r.L.length cl, .int .i64 r.heads.length] 104) = W at m0 hK ⊢
  generalize w.heap.size = g0 at m0 ⊢
  have d0 := bk_cell m0 0
  have d1 := bk_cell m0 1
  have d2 := bk_cell m0 2
  clear m0
  have HK := As.mk hK
  go_quiet ((go_at_call 95; exact Calls.quiet_of_same (HL _ (HK.out.qd (QD.n _ _)))))
  go_wp2
  go_ret
  exact ⟨rfl, HK.out.qd (QD.n _ _)⟩
end Go.Proofs.Ytmejnhfggmmefaa.H
