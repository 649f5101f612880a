/- Layer 14: ModelLinear: whatever the steps of clients, in whatever order: each operation is as if it were done in one by the log; ModelProgress: as long as an operation is pending, one that is can go on. No condition. -/
import Derived.Test.YtmejnhfggmmefaaL14J
import Derived.Test.YtmejnhfggmmefaaOpn13
import Derived.Test.YtmejnhfggmmefaaSeqQ
namespace Go.Proofs.Ytmejnhfggmmefaa.H
open Go.RowKit
set_option linter.unusedVariables false
set_option linter.unusedSimpArgs false
variable {w : World}

theorem kp_rowNew {w W : World} {S : Nat → Prop} {g : Nat} {cs : Array Value} (hg : w.heap.size ≤ g) (h : Kp S w W) : Kp S w (W.setRow g cs) :=
  ⟨h.os, h.tape, h.output, by have := h.size; simp [World.setRow]; omega, fun k hk hn => by
    have e : ¬ g = k := fun e => by omega
    rw [← h.block k hk hn]; simp [World.setRow, Array.getElem?_modify, e]⟩
theorem p_extract (N : List P14) (k : Nat) (hk : k < N.length) : (pArr N).extract (k * 4) (k * 4 + 4) = #[.int .i64 (atP N k).k, .int .i64 (atP N k).j, .int .u64 (atP N k).t, .int .u64 (atP N k).v] := by
  obtain ⟨h0, h1, h2, h3⟩ := pCells_get N k hk
  unfold pArr
  rw [List.extract_toArray, List.extract_eq_take_drop, show k * 4 + 4 - k * 4 = 4 by omega]
  congr 1
  apply List.ext_getElem?
  intro j
  rw [List.getElem?_take, List.getElem?_drop]
  rcases (show j = 0 ∨ j = 1 ∨ j = 2 ∨ j = 3 ∨ 4 ≤ j by omega) with rfl | rfl | rfl | rfl | h
  · rw [if_pos (by decide), Nat.add_zero, h0]; rfl
  · rw [if_pos (by decide), h1]; rfl
  · rw [if_pos (by decide), h2]; rfl
  · rw [if_pos (by decide), h3]; rfl
  · rw [if_neg (by omega)]
    exact (List.getElem?_eq_none (by simpa using h)).symm
theorem idx_run (N : List P14) (hn : N.length = 6) (k : Nat) (hk : k < 6) (w : World) : (Instr.index 80 (.agg (pArr N)) (.int .i64 (k : Int))).run Try.prog w = .ok (.agg #[.int .i64 (atP N k).k, .int .i64 (atP N k).j, .int .u64 (atP N k).t, .int .u64 (atP N k).v]) w := by
  have hu : Try.prog.underlying 80 = some (.array 6 79) := Try.underlying80
  have hi : (Try.prog.info? 79).map (·.size) = some 4 := by kernel_rfl
  have hx := p_extract N k (by omega)
  cases hq : Try.prog.info? 79 with
  | none => rw [hq] at hi; cases hi
  | some i =>
    have hs : i.size = 4 := by simpa [hq] using hi
    have h6 : (k : Int) < 6 := by omega
    have hagg : (isAgg 79).run Try.prog w = .ok true w := by
      unfold isAgg
      rw [Sem.run_bind, run_underlying Try.underlying79 w]
      rfl
    have hsz : (sizeOf 79).run Try.prog w = .ok 4 w := by simp [sizeOf, typeInfo, hq, hs]
    unfold Instr.index part
    simp [asIntOf, run_underlying hu, Sem.run_bind, hagg, hsz, h6, hx]
    intro h7
    omega
set_option maxRecDepth 100000 in
set_option maxHeartbeats 6400000 in
theorem ModelLinear_calls {v0 v1 : Value} (ho : ∃ o : Rc, v0 = .agg o.vals.toArray ∧ o.ok) (hs : ∃ O : List S14, Rd w v1 O.length (sCells14 O) ∧ ∀ o ∈ O, o.ok) : Calls Try.prog 12 #[v0, v1] w fun e w' => e = .returned (.bool true) ∧ Kp no w w' := by
  obtain ⟨⟨k, c, R⟩, rfl, -⟩ := ho
  obtain ⟨O, hrd, hok⟩ := hs
  have hrd0 := As.mk hrd
  obtain ⟨A, cap, rfl, hn1, hn2, -⟩ := hrd
  unfold maxLen at hn2
  change Calls Try.prog 12 #[.agg #[.int .i64 k, .int .i64 c, .int .i64 R], _] w _
  clear hok
  go_enter Try.func12, Try.ntmps12
  go_wp2_with fail
  obtain ⟨m0, hK⟩ := box1 (w := w) #[.int .i64 k, .int .i64 c, .int .i64 R] 23
  generalize w.alloc (.cells #[.int .i64 k, .int .i64 c, .int .i64 R] 23) = W at m0 hK ⊢
  generalize w.heap.size = g0 at m0 ⊢
  refine awake14.mono ?_
  rintro e w1 ⟨rfl, hk⟩
  replace m0 := bk_kp m0 hk (fun x => x)
  replace hK := hK.trans hk
  clear hk
  by_cases hl : O.length ≤ 300
  · have hd : decide ((300 : Int) < (O.length : Int)) = false := decide_eq_false (by omega)
    have d0 := bk_cell m0 0
    have d1 := bk_cell m0 1
    have d2 := bk_cell m0 2
    clear hn1 hn2
    go_wp2_with fail
    refine (RMay_any k c R).mono ?_
    rintro e w2 ⟨rfl, hk⟩
    replace m0 := bk_kp m0 hk (fun x => x)
    replace hK := hK.trans hk
    clear hk d0 d1 d2
    cases hm : rMay k c R with
    | false =>
      as_aux_lemma =>
        clear hrd0 m0 hd hl
        go_wp2_with fail
        refine awake14.mono ?_
        rintro e w3 ⟨rfl, hk⟩
        replace hK := hK.trans hk
        clear hk
        go_wp2
        go_ret
        exact ⟨rfl, hK⟩
    | true =>
      as_aux_lemma =>
        obtain ⟨p, q, rfl, rfl, hp1, hp2, hq1, hq2⟩ := rMay_nat hm
        have d0 := bk_cell m0 0
        have d1 := bk_cell m0 1
        have d2 := bk_cell m0 2
        have hHm := As.mk hm
        have HP := As.mk (And.intro hp1 (And.intro hp2 (And.intro hq1 hq2)))
        clear hm hd hp1 hp2 hq1 hq2
        replace hrd0 := As.mk (hrd0.out.kp hK (fun _ _ x => x))
        have HK2 := As.mk hK
        go_wp2_with fail
        refine (played_any k p q hHm.out HP.out.1 HP.out.2.1 HP.out.2.2.1 HP.out.2.2.2 O hl hrd0.out).mono ?_
        rintro e w3 ⟨B, C, r, m, N, i, rfl, hI, hi, hL, hk⟩
        replace hK := hK.trans hk
        have HS := As.mk (pArr_size N hI.n6)
        have HK := As.mk hK
        have HI := As.mk (And.intro hI (And.intro hi hL))
        clear m0 d0 d1 d2 hk hrd0 hl hI hi hL hK
        go_wp2_with (first | (refine wpList_store_row (by rfl) 80 (.tmp 6) (.tmp 26) rfl _ (pArr N) rfl rfl 80 #[.int .i64 0, .int .i64 0, .int .u64 0, .int .u64 0, .int .i64 0, .int .i64 0, .int .u64 0, .int .u64 0, .int .i64 0, .int .i64 0, .int .u64 0, .int .u64 0, .int .i64 0, .int .i64 0, .int .u64 0, .int .u64 0, .int .i64 0, .int .i64 0, .int .u64 0, .int .u64 0, .int .i64 0, .int .i64 0, .int .u64 0, .int .u64 0] (heap_alloc_new _ _) (by rw [HS.out]; kernel_rfl) (by rw [HS.out]; rfl) (pArr_one N) ?_; simp only [Act.put, List.setIfInBounds_toArray, List.set_cons_zero, List.set_cons_succ]))
        go_ret
        exact ⟨rfl, HK.out.trans (kp_rowNew (Nat.le_refl _) ((Kp.refl no w3).alloc _))⟩
  · as_aux_lemma =>
      have hd : decide ((300 : Int) < (O.length : Int)) = true := decide_eq_true (by omega)
      clear hl hn1 hn2 hrd0 m0
      go_wp2_with fail
      refine awake14.mono ?_
      rintro e w3 ⟨rfl, hk⟩
      replace hK := hK.trans hk
      clear hk
      go_wp2
      go_ret
      exact ⟨rfl, hK⟩
def cntP (N : List P14) : Nat := N.countP fun x => x.k != 0
theorem cntP_le (N : List P14) (h : N.length = 6) : cntP N ≤ 6 := by unfold cntP; have := List.countP_le_length (p := fun x : P14 => x.k != 0) (l := N); omega
theorem cntP_zero {N : List P14} (h : N.length = 6) : cntP N = 0 ↔ ∀ c, c < 6 → (atP N c).k = 0 := by
  unfold cntP
  rw [List.countP_eq_zero]
  constructor
  · intro hz c hc
    have := hz (atP N c) (by unfold atP; rw [List.getD_eq_getElem?_getD, List.getElem?_eq_getElem (by omega)]; exact List.getElem_mem _)
    simpa using this
  · intro hz x hx
    obtain ⟨c, hc, rfl⟩ := List.mem_iff_getElem.1 hx
    have := hz c (by omega)
    have e : atP N c = N[c] := by simp [atP, List.getD, hc]
    rw [e] at this
    simpa using this
theorem cntP_set {N : List P14} (h : N.length = 6) {c : Nat} (hc : c < 6) (hk : (atP N c).k ≠ 0) : cntP (N.set c P14.z) < cntP N := by
  have e : atP N c = N[c] := by simp [atP, List.getD, show c < N.length by omega]
  rw [e] at hk
  have hb : ((N[c]).k != 0) = true := by simpa using hk
  have hpos : 0 < cntP N := by
    unfold cntP
    exact List.countP_pos_iff.2 ⟨N[c], List.getElem_mem _, hb⟩
  unfold cntP at hpos ⊢
  rw [List.countP_set (by omega), if_pos hb, if_neg (by decide)]
  omega
/-- What holds in the midst of a pass, of the clients. -/
structure Pp (p q s k : Nat) (r0 : Rg) (N0 : List P14) (so cn : Bool) (i : Nat) (r : Rg) (m : Md) (N : List P14) : Prop where
  I : Lin p q i r m N
  hi : i ≤ 300 + 6 * s + k
  rest : ∀ d, k ≤ d → d < 6 → atP N d = atP N0 d
  some : so = true ↔ ∃ d, d < k ∧ (atP N0 d).k ≠ 0
  no : cn = false → N = N0 ∧ r = r0 ∧ ∀ d, d < k → (atP N0 d).k ≠ 0 → canP r0 (atP N0 d) = false
  yes : cn = true → cntP N < cntP N0
  le : cntP N ≤ cntP N0
section
variable {p q s k i : Nat} {r r0 : Rg} {N N0 : List P14} {so cn : Bool} {m : Md}
theorem Pp.zero (h : Pp p q s k r0 N0 so cn i r m N) (hz : (atP N0 k).k = 0) : Pp p q s (k + 1) r0 N0 so cn i r m N := by
  refine ⟨h.I, by have := h.hi; omega, fun d h1 h2 => h.rest d (by omega) h2, ?_, fun hc => ⟨(h.no hc).1, (h.no hc).2.1, fun d h1 h2 => ?_⟩, h.yes, h.le⟩
  · rw [h.some]
    constructor
    · rintro ⟨d, h1, h2⟩; exact ⟨d, by omega, h2⟩
    · rintro ⟨d, h1, h2⟩
      by_cases e : d = k
      · subst e; exact absurd hz h2
      · exact ⟨d, by omega, h2⟩
  · by_cases e : d = k
    · subst e; exact absurd hz h2
    · exact (h.no hc).2.2 d (by omega) h2
theorem Pp.cant (h : Pp p q s k r0 N0 so cn i r m N) (hz : (atP N0 k).k ≠ 0) (hc : canP r (atP N0 k) = false) : Pp p q s (k + 1) r0 N0 true cn i r m N := by
  refine ⟨h.I, by have := h.hi; omega, fun d h1 h2 => h.rest d (by omega) h2, ⟨fun _ => ⟨k, by omega, hz⟩, fun _ => rfl⟩, fun hc2 => ⟨(h.no hc2).1, (h.no hc2).2.1, fun d h1 h2 => ?_⟩, h.yes, h.le⟩
  by_cases e : d = k
  · subst e; rw [← (h.no hc2).2.1]; exact hc
  · exact (h.no hc2).2.2 d (by omega) h2
theorem Pp.can (h : Pp p q s k r0 N0 so cn i r m N) (hk : k < 6) (hp : 1 ≤ p) (hp64 : p ≤ 64) (hq : 1 ≤ q) (hq8 : q ≤ 8) (hs : s < 6) (hz : (atP N0 k).k ≠ 0) (hc : canP r (atP N0 k) = true) :
    (bF r (atP N0 k)).1 = P14.z ∧ Pp p q s (k + 1) r0 N0 true true (i + 1) (bF r (atP N0 k)).2 m (N.set k P14.z) := by
  have hi := h.hi
  have e := h.rest k (Nat.le_refl _) hk
  have h6 := h.I.n6
  obtain ⟨f1, f2, -⟩ := h.I.further hp hp64 hq hq8 (by omega) hk (by rw [e]; exact hz)
  rw [e] at f1 f2
  have f3 := f2 hc
  rw [f3] at f1
  have hcn := cntP_set h6 hk (by rw [e]; exact hz)
  have hle := h.le
  refine ⟨f3, f1, by omega, fun d h1 h2 => ?_, ⟨fun _ => ⟨k, by omega, hz⟩, fun _ => rfl⟩, fun hc2 => (by cases hc2), fun _ => (by omega), by omega⟩
  rw [atP_set (by omega) (by omega), if_neg (by omega)]
  exact h.rest d (by omega) h2
/-- behind a pass -/
theorem Pp.done (h : Pp p q s 6 r0 N0 so cn i r m N) (hp : 1 ≤ p) (hp64 : p ≤ 64) (hq : 1 ≤ q) (hq8 : q ≤ 8) (hs : s < 6) (h0 : cntP N0 + s ≤ 6) : (so = true → cn = true) ∧ cntP N + (s + 1) ≤ 6 := by
  have hi := h.hi
  have key : so = true → cn = true := fun hso => by
    cases hcn : cn with
    | true => rfl
    | false =>
      obtain ⟨e1, e2, e3⟩ := h.no hcn
      subst e1; subst e2
      obtain ⟨d, hd, hk⟩ := h.some.1 hso
      obtain ⟨d2, hd2, hk2, hc⟩ := h.I.go hp hp64 hq hq8 hd (by omega) hk
      rw [e3 d2 hd2 hk2] at hc
      cases hc
  refine ⟨key, ?_⟩
  cases hcn : cn with
  | true => have := h.yes hcn; omega
  | false =>
    obtain ⟨e1, e2, e3⟩ := h.no hcn
    subst e1
    have hz : cntP N = 0 := (cntP_zero h.I.n6).2 (fun c hc => by
      by_cases e : (atP N c).k = 0
      · exact e
      · have := key (h.some.2 ⟨c, hc, e⟩)
        rw [hcn] at this; cases this)
    omega
end
/-- and of memory. -/
structure Mem (w wr : World) (b : Nat) (B : RB) (C : MB) (r : Rg) (m : Md) (N : List P14) : Prop where
  L : LM w wr B C r m
  a : wr.heap[b]? = some (.cells (pArr N) 80 (0, 0))
  n6 : N.length = 6
  lb : w.heap.size ≤ b
  nB : ¬ B.own b
  nC : ¬ C.own b
theorem Mem.kp {w wr w' : World} {b : Nat} {B : RB} {C : MB} {r : Rg} {m : Md} {N : List P14} (h : Mem w wr b B C r m N) (k : Kp no wr w') : Mem w w' b B C r m N := ⟨h.L.kp k, bk_kp h.a k (fun x => x), h.n6, h.lb, h.nB, h.nC⟩
theorem Mem.next {w w1 w2 : World} {b : Nat} {B : RB} {C C2 : MB} {r r2 : Rg} {m m2 : Md} {N : List P14} (h : Mem w w1 b B C r m N) (hs : LS w w1 no B C w2 C2 r2 m2) {c : Nat} (hc : c < 6) (x : P14) :
    w2.heap[b]? = some (.cells (pArr N) 80 (0, 0)) ∧
    Mem w ((((w2.setCell ⟨b, c * 4, none⟩ (.int .i64 x.k)).setCell ⟨b, c * 4 + 1, none⟩ (.int .i64 x.j)).setCell ⟨b, c * 4 + 2, none⟩ (.int .u64 x.t)).setCell ⟨b, c * 4 + 3, none⟩ (.int .u64 x.v)) b B C2 r2 m2 (N.set c x) := by
  have ha := bk_kp h.a hs.K (fun x => x.elim h.nB h.nC)
  have hlt := bk_lt h.a
  have n2 : ¬ C2.own b := fun hk => by
    rcases hs.n _ hk with h3 | h3
    · exact h.nC h3
    · omega
  obtain ⟨s1, s2⟩ := p_set ha (c := c) (by have := h.n6; omega) x
  exact ⟨ha, hs.L.kpS s2 (fun k hk => by subst hk; exact ⟨h.lb, h.nB, n2⟩), s1, by simpa using h.n6, h.lb, h.nB, n2⟩
set_option maxRecDepth 100000 in
set_option maxHeartbeats 6400000 in
theorem ModelProgress_calls {v0 v1 : Value} (ho : ∃ o : Rc, v0 = .agg o.vals.toArray ∧ o.ok) (hs : ∃ O : List S14, Rd w v1 O.length (sCells14 O) ∧ ∀ o ∈ O, o.ok) : Calls Try.prog 13 #[v0, v1] w fun e w' => e = .returned (.bool true) ∧ Kp no w w' := by
  obtain ⟨⟨k, c, R⟩, rfl, -⟩ := ho
  obtain ⟨O, hrd, hok⟩ := hs
  have hrd0 := As.mk hrd
  obtain ⟨A, cap, rfl, hn1, hn2, -⟩ := hrd
  unfold maxLen at hn2
  change Calls Try.prog 13 #[.agg #[.int .i64 k, .int .i64 c, .int .i64 R], _] w _
  clear hok
  go_enter Try.func13, Try.ntmps13
  go_wp2_with fail
  obtain ⟨m0, hK⟩ := box1 (w := w) #[.int .i64 k, .int .i64 c, .int .i64 R] 23
  generalize w.alloc (.cells #[.int .i64 k, .int .i64 c, .int .i64 R] 23) = W at m0 hK ⊢
  generalize w.heap.size = g0 at m0 ⊢
  refine awake14.mono ?_
  rintro e w1 ⟨rfl, hk⟩
  replace m0 := bk_kp m0 hk (fun x => x)
  replace hK := hK.trans hk
  clear hk
  by_cases hl : O.length ≤ 300
  · have hd : decide ((300 : Int) < (O.length : Int)) = false := decide_eq_false (by omega)
    have d0 := bk_cell m0 0
    have d1 := bk_cell m0 1
    have d2 := bk_cell m0 2
    clear hn1 hn2
    go_wp2_with fail
    refine (RMay_any k c R).mono ?_
    rintro e w2 ⟨rfl, hk⟩
    replace m0 := bk_kp m0 hk (fun x => x)
    replace hK := hK.trans hk
    clear hk d0 d1 d2
    cases hm : rMay k c R with
    | false =>
      as_aux_lemma =>
        clear hrd0 m0 hd hl
        go_wp2_with fail
        refine awake14.mono ?_
        rintro e w3 ⟨rfl, hk⟩
        replace hK := hK.trans hk
        clear hk
        go_wp2
        go_ret
        exact ⟨rfl, hK⟩
    | true =>
      as_aux_lemma =>
        obtain ⟨p, q, rfl, rfl, hp1, hp2, hq1, hq2⟩ := rMay_nat hm
        have d0 := bk_cell m0 0
        have d1 := bk_cell m0 1
        have d2 := bk_cell m0 2
        have hHm := As.mk hm
        have HP := As.mk (And.intro hp1 (And.intro hp2 (And.intro hq1 hq2)))
        clear hm hd hp1 hp2 hq1 hq2
        replace hrd0 := As.mk (hrd0.out.kp hK (fun _ _ x => x))
        have HK2 := As.mk hK
        go_wp2_with fail
        refine (played_any k p q hHm.out HP.out.1 HP.out.2.1 HP.out.2.2.1 HP.out.2.2.2 O hl hrd0.out).mono ?_
        rintro e w3 ⟨B, C, r, m, N, i, rfl, hI, hi, hL, hk⟩
        replace hK := hK.trans hk
        have HS := As.mk (pArr_size N hI.n6)
        have HK := As.mk hK
        have HI := As.mk (And.intro hI (And.intro hi hL))
        clear m0 d0 d1 d2 hk hrd0 hl hI hi hL hK
        go_wp2_with (first | (refine wpList_store_row (by rfl) 80 (.tmp 6) (.tmp 32) rfl _ (pArr N) rfl rfl 80 #[.int .i64 0, .int .i64 0, .int .u64 0, .int .u64 0, .int .i64 0, .int .i64 0, .int .u64 0, .int .u64 0, .int .i64 0, .int .i64 0, .int .u64 0, .int .u64 0, .int .i64 0, .int .i64 0, .int .u64 0, .int .u64 0, .int .i64 0, .int .i64 0, .int .u64 0, .int .u64 0, .int .i64 0, .int .i64 0, .int .u64 0, .int .u64 0] (heap_alloc_new _ _) (by rw [HS.out]; kernel_rfl) (by rw [HS.out]; rfl) (pArr_one N) ?_; simp only [Act.put, List.setIfInBounds_toArray, List.set_cons_zero, List.set_cons_succ]) | fail)
        have hMM := As.mk (show Mem w2 ((w3.alloc (.cells #[.int .i64 0, .int .i64 0, .int .u64 0, .int .u64 0, .int .i64 0, .int .i64 0, .int .u64 0, .int .u64 0, .int .i64 0, .int .i64 0, .int .u64 0, .int .u64 0, .int .i64 0, .int .i64 0, .int .u64 0, .int .u64 0, .int .i64 0, .int .i64 0, .int .u64 0, .int .u64 0, .int .i64 0, .int .i64 0, .int .u64 0, .int .u64 0] 80)).setRow w3.heap.size (pArr N)) w3.heap.size B C r m N from
          ⟨HI.out.2.2.kp (kp_rowNew (Nat.le_refl _) ((Kp.refl no w3).alloc _)), setRow_heap (heap_alloc_new _ _), HI.out.1.n6, HI.out.2.2.R.K.size, fun hb => by have := HI.out.2.2.R.i.glt _ hb; omega, fun hb => by have := HI.out.2.2.M.i.lt _ hb; omega⟩)
        generalize (w3.alloc (.cells #[.int .i64 0, .int .i64 0, .int .u64 0, .int .u64 0, .int .i64 0, .int .i64 0, .int .u64 0, .int .u64 0, .int .i64 0, .int .i64 0, .int .u64 0, .int .u64 0, .int .i64 0, .int .i64 0, .int .u64 0, .int .u64 0, .int .i64 0, .int .i64 0, .int .u64 0, .int .u64 0, .int .i64 0, .int .i64 0, .int .u64 0, .int .u64 0] 80)).setRow w3.heap.size (pArr N) = W4 at hMM ⊢
        generalize w3.heap.size = b at hMM ⊢
        have HS0 := HS
        clear HK
        go_loopw [36] (fun v36 wr => ∃ (s : Nat) (C : MB) (i : Nat) (r : Rg) (m : Md) (N : List P14), s ≤ 6 ∧ v36 = .int .i64 s ∧ As (Lin p q i r m N ∧ i ≤ 300 + 6 * s ∧ cntP N + s ≤ 6) ∧ As (Mem w2 wr b B C r m N)) (fun v36 _ => 6 - (intOf v36).toNat)
        case atStart => exact ⟨0, C, i, r, m, N, by omega, rfl, ⟨HI.out.1, by have := HI.out.2.1; omega, by have := cntP_le N HI.out.1.n6; omega⟩, hMM⟩
        case round =>
          clear HI hMM HS HS0
          obtain ⟨s, C, i, r, m, N, hs, rfl, hI, hM⟩ := hrel
          have HS2 := As.mk (pArr_size N hM.out.n6)
          have ha := hM.out.a
          by_cases hs6 : s < 6
          · as_aux_lemma =>
            have hs2 : (s : Int) < 6 := by omega
            go_wp2_with (first | (refine wpList_load_row (by rfl) 80 (.tmp 6) (by rfl) b rfl 80 (pArr N) (0, 0) _ ha Try.underlying80 rfl (by rw [HS2.out]; kernel_rfl) ?_; simp only [Act.put, List.setIfInBounds_toArray, List.set_cons_zero, List.set_cons_succ]) | fail)
            clear ha
            have hP0 := As.mk (show Pp p q s 0 r N false false i r m N from ⟨hI.out.1, by have := hI.out.2.1; omega, fun _ _ _ => rfl, ⟨fun h => (by cases h), fun ⟨d, h, _⟩ => (by omega)⟩, fun _ => ⟨rfl, rfl, fun d h => by omega⟩, fun h => (by cases h), Nat.le_refl _⟩)
            have hn6 := As.mk hM.out.n6
            go_loopw [8, 9, 39] (fun v8 v9 v39 wr => ∃ (k : Nat) (so cn : Bool) (C : MB) (i1 : Nat) (r1 : Rg) (m1 : Md) (N1 : List P14), k ≤ 6 ∧ v39 = .int .i64 k ∧ v8 = .bool so ∧ v9 = .bool cn ∧ As (Pp p q s k r N so cn i1 r1 m1 N1) ∧ As (Mem w2 wr b B C r1 m1 N1)) (fun _ _ v39 _ => 6 - (intOf v39).toNat)
            case atStart => exact ⟨0, false, false, C, i, r, m, N, by omega, rfl, rfl, rfl, hP0, hM⟩
            case round =>
              clear hP0 hM HS2
              obtain ⟨k, so, cn, C1, i1, r1, m1, N1, hk, rfl, rfl, rfl, hP, hM1⟩ := hrel
              by_cases hk6 : k < 6
              · as_aux_lemma =>
                have hix := idx_run N hn6.out k hk6 wr
                have hrest := hP.out.rest k (Nat.le_refl _) hk6
                have hkd := hP.out.I.kinds hk6
                rw [hrest] at hkd
                generalize hxx : atP N k = x at hix hrest hkd
                have HX := As.mk hxx
                obtain ⟨xk, xj, xt, xv⟩ := x
                dsimp only at hix hkd
                have hst := heap_alloc_new wr (.cells #[.int .i64 xk, .int .i64 xj, .int .u64 xt, .int .u64 xv] 79)
                have HMa := As.mk (hM1.out.kp ((Kp.refl no wr).alloc (.cells #[.int .i64 xk, .int .i64 xj, .int .u64 xt, .int .u64 xv] 79)))
                have hk2 : (k : Int) < 6 := by omega
                have hnn : (0 : Int) ≤ (k : Int) := by omega
                have hwk : wrap64 (k : Int) = (k : Int) := by unfold wrap64; omega
                clear hxx
                rcases hkd with hxk | hxk | hxk
                · subst hxk
                  have HPn := As.mk (hP.out.zero (by rw [HX.out]))
                  clear hst
                  go_wp2_with fail
                  exact ⟨⟨k + 1, so, cn, C1, i1, r1, m1, N1, by omega, by go_num, rfl, rfl, HPn, HMa⟩, by simp [intOf]; omega⟩
                · have nz : (1 : Int) ≠ 0 := by decide
                  subst hxk
                  have ht := (hP.out.I.tick hk6 (by rw [hrest]; exact nz)).1
                  rw [hrest] at ht
                  dsimp only at ht
                  go_wp2_with fail
                  refine (RFree_any HMa.out.L.R.i ht).mono ?_
                  rintro e w5 ⟨rfl, hqd⟩
                  have hst5 := bk_qd hst hqd
                  have s0 := bk_cell hst5 0
                  have s1 := bk_cell hst5 1
                  have s2 := bk_cell hst5 2
                  have s3 := bk_cell hst5 3
                  have HM5 := As.mk (HMa.out.kp (Kp.of_qd hqd))
                  clear hst hst5 hqd
                  cases hf : rFree r1 xt with
                  | false =>
                    have HPn := As.mk (hP.out.cant (by rw [HX.out]; exact nz) (by unfold canP; rw [HX.out]; exact hf))
                    clear hf
                    go_wp2_with fail
                    exact ⟨⟨k + 1, true, cn, C1, i1, r1, m1, N1, by omega, by go_num, rfl, rfl, HPn, HM5⟩, by simp [intOf]; omega⟩
                  | true =>
                    obtain ⟨f3, hPn⟩ := hP.out.can hk6 HP.out.1 HP.out.2.1 HP.out.2.2.1 HP.out.2.2.2 hs6 (by rw [HX.out]; exact nz) (by unfold canP; rw [HX.out]; exact hf)
                    rw [HX.out] at f3 hPn
                    have hcc := further_any HM5.out.L hP.out.I HP.out.1 HP.out.2.1 HP.out.2.2.1 HP.out.2.2.2 (by have := hP.out.hi; omega) hk6 ⟨1, xj, xt, xv⟩ hrest nz
                    rw [f3] at hcc
                    have HPn := As.mk hPn
                    clear hf f3 hPn
                    go_wp2_with fail
                    refine hcc.mono ?_
                    rintro e w6 ⟨C6, rfl, hS⟩
                    obtain ⟨ha6, hM6⟩ := HM5.out.next hS hk6 P14.z
                    have HM6 := As.mk hM6
                    obtain ⟨d0, d1, d2, d3⟩ := p_cells ha6 (c := k) (by have := HM5.out.n6; omega)
                    have y0 := bk_fz ha6 (k * 4)
                    have y1 := bk_fz ha6 (k * 4 + 1)
                    have y2 := bk_fz ha6 (k * 4 + 2)
                    have y3 := bk_fz ha6 (k * 4 + 3)
                    unfold pv
                    clear ha6 hM6 hS hcc s0 s1 s2 s3
                    go_wp2_with fail
                    exact ⟨⟨k + 1, true, true, C6, i1 + 1, _, m1, _, by omega, by go_num, rfl, rfl, HPn, HM6⟩, by simp [intOf]; omega⟩
                · have nz : (2 : Int) ≠ 0 := by decide
                  subst hxk
                  have ht := (hP.out.I.tick hk6 (by rw [hrest]; exact nz)).1
                  rw [hrest] at ht
                  dsimp only at ht
                  go_wp2_with fail
                  refine (RHas_any HMa.out.L.R.i ht xj).mono ?_
                  rintro e w5 ⟨rfl, hqd⟩
                  have hst5 := bk_qd hst hqd
                  have s0 := bk_cell hst5 0
                  have s1 := bk_cell hst5 1
                  have s2 := bk_cell hst5 2
                  have s3 := bk_cell hst5 3
                  have HM5 := As.mk (HMa.out.kp (Kp.of_qd hqd))
                  clear hst hst5 hqd
                  cases hf : rHas r1 xj xt with
                  | false =>
                    have HPn := As.mk (hP.out.cant (by rw [HX.out]; exact nz) (by unfold canP; rw [HX.out]; exact hf))
                    clear hf
                    go_wp2_with fail
                    exact ⟨⟨k + 1, true, cn, C1, i1, r1, m1, N1, by omega, by go_num, rfl, rfl, HPn, HM5⟩, by simp [intOf]; omega⟩
                  | true =>
                    obtain ⟨f3, hPn⟩ := hP.out.can hk6 HP.out.1 HP.out.2.1 HP.out.2.2.1 HP.out.2.2.2 hs6 (by rw [HX.out]; exact nz) (by unfold canP; rw [HX.out]; exact hf)
                    rw [HX.out] at f3 hPn
                    have hcc := further_any HM5.out.L hP.out.I HP.out.1 HP.out.2.1 HP.out.2.2.1 HP.out.2.2.2 (by have := hP.out.hi; omega) hk6 ⟨2, xj, xt, xv⟩ hrest nz
                    rw [f3] at hcc
                    have HPn := As.mk hPn
                    clear hf f3 hPn
                    go_wp2_with fail
                    refine hcc.mono ?_
                    rintro e w6 ⟨C6, rfl, hS⟩
                    obtain ⟨ha6, hM6⟩ := HM5.out.next hS hk6 P14.z
                    have HM6 := As.mk hM6
                    obtain ⟨d0, d1, d2, d3⟩ := p_cells ha6 (c := k) (by have := HM5.out.n6; omega)
                    have y0 := bk_fz ha6 (k * 4)
                    have y1 := bk_fz ha6 (k * 4 + 1)
                    have y2 := bk_fz ha6 (k * 4 + 2)
                    have y3 := bk_fz ha6 (k * 4 + 3)
                    unfold pv
                    clear ha6 hM6 hS hcc s0 s1 s2 s3
                    go_wp2_with fail
                    exact ⟨⟨k + 1, true, true, C6, i1 + 1, _, m1, _, by omega, by go_num, rfl, rfl, HPn, HM6⟩, by simp [intOf]; omega⟩
              · as_aux_lemma =>
                have hk66 : k = 6 := by omega
                subst hk66
                obtain ⟨hd1, hd2⟩ := hP.out.done HP.out.1 HP.out.2.1 HP.out.2.2.1 HP.out.2.2.2 hs6 hI.out.2.2
                have HPn := As.mk (show Lin p q i1 r1 m1 N1 ∧ i1 ≤ 300 + 6 * (s + 1) ∧ cntP N1 + (s + 1) ≤ 6 from ⟨hP.out.I, by have := hP.out.hi; omega, hd2⟩)
                clear hP hd2
                cases so with
                | false =>
                  go_wp2_with fail
                  exact ⟨⟨s + 1, C1, i1, r1, m1, N1, by omega, by go_num, HPn, hM1⟩, by simp [intOf]; omega⟩
                | true =>
                  have := hd1 rfl
                  subst this
                  clear hd1
                  go_wp2_with fail
                  exact ⟨⟨s + 1, C1, i1, r1, m1, N1, by omega, by go_num, HPn, hM1⟩, by simp [intOf]; omega⟩
          · as_aux_lemma =>
            have hs66 : s = 6 := by omega
            subst hs66
            have hz := As.mk ((cntP_zero hM.out.n6).1 (by have := hI.out.2.2; omega))
            have hn6 := As.mk hM.out.n6
            go_wp2_with (first | (refine wpList_load_row (by rfl) 80 (.tmp 6) (by rfl) b rfl 80 (pArr N) (0, 0) _ ha Try.underlying80 rfl (by rw [HS2.out]; kernel_rfl) ?_; simp only [Act.put, List.setIfInBounds_toArray, List.set_cons_zero, List.set_cons_succ]) | fail)
            clear ha
            have HKf := As.mk (HK2.out.trans hM.out.L.R.K)
            go_loopw [93] (fun v93 wr => ∃ (k : Nat), k ≤ 6 ∧ v93 = .int .i64 k ∧ As (Kp no w wr)) (fun v93 _ => 6 - (intOf v93).toNat)
            case atStart => exact ⟨0, by omega, rfl, HKf⟩
            case round =>
              clear HKf
              obtain ⟨k, hk, rfl, hKr⟩ := hrel
              by_cases hk6 : k < 6
              · have hix := idx_run N hn6.out k hk6 wr
                rw [hz.out k hk6] at hix
                generalize (atP N k).j = xj at hix
                generalize (atP N k).t = xt at hix
                generalize (atP N k).v = xv at hix
                have hk2 : (k : Int) < 6 := by omega
                have hnn : (0 : Int) ≤ (k : Int) := by omega
                go_wp2_with fail
                exact ⟨⟨k + 1, by omega, by go_num, ⟨hKr.out.alloc _⟩⟩, by simp [intOf]; omega⟩
              · have hk2 : ¬ (k : Int) < 6 := by omega
                go_wp2_with fail
                go_ret
                exact ⟨rfl, hKr.out⟩
  · as_aux_lemma =>
      have hd : decide ((300 : Int) < (O.length : Int)) = true := decide_eq_true (by omega)
      clear hl hn1 hn2 hrd0 m0
      go_wp2_with fail
      refine awake14.mono ?_
      rintro e w3 ⟨rfl, hk⟩
      replace hK := hK.trans hk
      clear hk
      go_wp2
      go_ret
      exact ⟨rfl, hK⟩
end Go.Proofs.Ytmejnhfggmmefaa.H
