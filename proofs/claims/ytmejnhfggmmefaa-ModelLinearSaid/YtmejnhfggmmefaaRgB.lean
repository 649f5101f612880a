/- Layer 13: what ring's small functions do: the least head, Full, Empty, Tail, Head, Closed, Free, Has. No condition. Layer 13: what ring's Full, Empty, Tail, Head, Closed, Free, Has do. No condition. -/
import Derived.Test.YtmejnhfggmmefaaRg
namespace Go.Proofs.Ytmejnhfggmmefaa.H
open Go.RowKit
set_option linter.unusedVariables false
set_option linter.unusedSimpArgs false
variable {w : World} {B : RB} {r : Rg} {t j : Int}

theorem Try.infoU64 : (Try.prog.info? 36).map (fun i => (i.zero, i.size, i.bytes)) = some (some (.int .u64 0), 1, 8) := by kernel_rfl

set_option maxRecDepth 100000 in
set_option maxHeartbeats 3200000 in
theorem MinU_ok (hb n c : Nat) (l : List Int) (hn : l.length = n) (h0 : 0 < n) (hm : n ≤ 9223372036854775807) (hx : ∀ i, i < n → w.cell? ⟨hb, i, none⟩ = some (.int .u64 (l.getD i 0))) :
    Calls Try.prog 96 #[.slice (some ⟨hb, 0, none⟩) n c] w fun e w' => e = .returned (.int .u64 (leastL l)) ∧ w' = w := by
  have hX := As.mk hx
  have hN := As.mk hn
  have c0 := hx 0 h0
  have h0' : (0 : Int) < (n : Int) := by omega
  clear hx hn
  go_enter Try.func96, Try.ntmps96
  go_wp2
  go_loop [3, 4] (fun v3 v4 => ∃ k : Nat, 1 ≤ k ∧ k ≤ n ∧ v4 = .int .i64 k ∧ v3 = .int .u64 (leastL (l.take k))) (fun _ v4 => n - (intOf v4).toNat)
  case atStart =>
    refine ⟨1, Nat.le_refl _, by omega, rfl, ?_⟩
    have hl := hN.out
    match l, hl with
    | [], hl => simp at hl; omega
    | a :: l, _ => simp [leastL]
  case round =>
    obtain ⟨k, hk1, hk, rfl, rfl⟩ := hrel
    by_cases hlt : k < n
    · have hc := hX.out k hlt
      have hlt2 : (k : Int) < (n : Int) := by omega
      have hnn : (0 : Int) ≤ (k : Int) := by omega
      have hs : As (min (leastL (l.take k)) (l.getD k 0) = leastL (l.take (k + 1))) := ⟨by
        have hl := hN.out
        match l, hl, hk1, hlt with
        | [], hl, _, hlt => simp at hl; omega
        | a :: l, hl, hk1, hlt =>
          obtain ⟨k, rfl⟩ : ∃ m, k = m + 1 := ⟨k - 1, by omega⟩
          have hkl : k < l.length := by simp at hl; omega
          simp only [List.take_succ_cons, leastL, List.getD_cons_succ]
          rw [List.take_succ_eq_append_getElem hkl, List.foldl_append]
          simp [List.getD, hkl]⟩
      clear c0
      go_wp2
      go_round
      case rel => exact ⟨k + 1, by omega, by omega, by go_num, by rw [← hs.out]; first | rfl | simp⟩
      case measure => simp [intOf]; omega
    · go_wp2
      go_ret
      have : k = n := by omega
      subst this
      have hl := hN.out
      exact ⟨by rw [List.take_of_length_le (by omega)]; rfl, rfl⟩

set_option maxRecDepth 100000 in
set_option maxHeartbeats 1600000 in
theorem CloneU_nil : Calls Try.prog 68 #[.slice none 0 0] w fun e w' => e = .returned (.slice none 0 0) ∧ QD w w' := by
  have he := Try.eqnil 31 36 Try.underlying31 none 0 0
  go_enter Try.func68, Try.ntmps68
  go_wp2
  go_ret
  exact ⟨rfl, QD.refl _⟩
set_option maxRecDepth 100000 in
set_option maxHeartbeats 1600000 in
theorem CloneU_some (ad : Addr) (n c : Nat) (xs : List Value) (hl : xs.length = n * 1) (h1 : ∀ u ∈ xs, u.oneCell' = true) (hn : n ≤ 17592186044416)
    (hx : ∀ j u, xs[j]? = some u → w.cell? (ad.add j) = some u) :
    Calls Try.prog 68 #[.slice (some ad) n c] w fun e w' => ∃ v, e = .returned v ∧ w'.ownsRow w.heap.size 36 1 v n xs ∧ Kp no w w' := by
  obtain ⟨i0, hi, hz0, hz1, hz2⟩ := info_parts Try.infoU64
  have hX := As.mk hx
  clear hx
  have he := Try.eqnil 31 36 Try.underlying31 (some ad) n c
  go_enter Try.func68, Try.ntmps68
  have hcell : ∀ j u, xs[j]? = some u → (w.alloc (.cells #[] 36)).cell? (ad.add j) = some u := fun j u hj => by
    have := hX.out j u hj
    rw [World.cell?_of_block (Below.heap_alloc w _ _ (World.block_lt_of_cell? _ _ this))]; exact this
  have hC := As.mk hcell
  clear hcell
  go_wp2_with (at_builtin; refine wpList_append_own_at _ (by rfl) _ _ 31 (by rfl) w.heap.size 36 i0 _ 1 8 Try.underlying31 hi hz0 hz1 hz2 (by rfl) (by decide) (.slice (some ⟨w.heap.size, 0, none⟩) 0 0) 0 [] (by rfl) (World.ownsRow_made w #[] 0 (Nat.le_refl _) (Nat.zero_le _) rfl) ad n c xs (by rfl) hl hC.out h1 (by unfold maxLen; omega) (by omega) (by simp) ?_; intro v' w' hown hgrow _ _)
  go_ret
  exact ⟨v', rfl, by simpa using hown, ((Kp.refl no w).alloc _).grown hgrow (fun k hk hlt => by simp [Value.ownBlock] at hk; omega)⟩
theorem CloneU_any {v : Value} {n : Nat} {xs : List Value} (h : Rd w v n xs) (hl : xs.length = n * 1) (h1 : ∀ u ∈ xs, u.oneCell' = true) (hn : n ≤ 17592186044416) :
    Calls Try.prog 68 #[v] w fun e w' => ∃ v, e = .returned v ∧ w'.ownsRow w.heap.size 36 1 v n xs ∧ Kp no w w' := by
  obtain ⟨A, c, rfl, _, _, h3, h4⟩ := h
  cases A with
  | none =>
    obtain ⟨rfl, rfl, rfl⟩ := h3 rfl
    refine CloneU_nil.mono ?_
    rintro e w' ⟨rfl, hq⟩
    exact ⟨_, rfl, World.ownsRow_nil _ _ _ _, Kp.of_qd hq⟩
  | some ad => exact CloneU_some ad n c xs hl h1 hn (h4 ad rfl)

set_option maxRecDepth 100000 in
set_option maxHeartbeats 1600000 in
theorem least_ok (h : RingIn w B r) : Calls Try.prog 90 #[.pointer (some ⟨B.g, 0, none⟩)] w fun e w' => e = .returned (.int .u64 (leastL r.heads)) ∧ w' = w := by
  have hc := h.c1
  have hs := h
  have h8 := h.s.hR
  have h1 := h.s.hR0
  go_enter Try.func90, Try.ntmps90
  go_wp2_with fail
  refine (MinU_ok B.hb r.heads.length B.hcap r.heads rfl h1 (by omega) (fun i hi => hs.ch hi)).mono ?_
  rintro e w1 ⟨rfl, rfl⟩
  go_wp2
  go_ret
  exact ⟨rfl, rfl⟩
set_option maxRecDepth 100000 in
set_option maxHeartbeats 1600000 in
theorem reader_any (h : RingIn w B r) (j : Int) : Calls Try.prog 80 #[.pointer (some ⟨B.g, 0, none⟩), .int .i64 j] w fun e w' => e = .returned (.bool (rIs r j)) ∧ w' = w := by
  have hc := h.c1
  unfold rIs
  by_cases h1 : 0 ≤ j
  · have d1 : decide (0 ≤ j) = true := decide_eq_true h1
    rw [d1]
    clear h1
    go_enter Try.func80, Try.ntmps80
    go_wp2
    go_ret
    exact ⟨by simp, rfl⟩
  · have d1 : decide (0 ≤ j) = false := decide_eq_false h1
    rw [d1]
    clear h1
    go_enter Try.func80, Try.ntmps80
    go_wp2
    go_ret
    exact ⟨rfl, rfl⟩
end Go.Proofs.Ytmejnhfggmmefaa.H
namespace Go.Proofs.Ytmejnhfggmmefaa.H
open Go.RowKit
set_option linter.unusedVariables false
set_option linter.unusedSimpArgs false
variable {w : World} {B : RB} {r : Rg} {t j : Int}

theorem RingIn.least_le (h : RingIn w B r) : 0 ≤ leastL r.heads ∧ leastL r.heads ≤ r.tail := h.h0 _ (leastL_mem h.s.hR0)
theorem rHead_mem (h : rIs r j = true) : rHead r j ∈ r.heads := by
  unfold rIs at h; simp at h
  unfold rHead
  have : j.toNat < r.heads.length := by omega
  simp [List.getD, this]
theorem RingIn.head_le (h : RingIn w B r) (hj : rIs r j = true) : 0 ≤ rHead r j ∧ rHead r j ≤ r.tail := h.h0 _ (rHead_mem hj)

set_option maxRecDepth 100000 in
set_option maxHeartbeats 1600000 in
theorem Full_any (h : RingIn w B r) : Calls Try.prog 63 #[.pointer (some ⟨B.g, 0, none⟩)] w fun e w' => e = .returned (.bool (rFull r)) ∧ QD w w' := by
  have c0 := h.c0
  have c3 := h.c3
  have hl := h.least_le
  have ht := h.t1
  have hw : IntKind.u64.wrap (r.tail - leastL r.heads) = r.tail - leastL r.heads := by rw [IntKind.wrap_u64]; omega
  have hs := h
  clear hl ht
  go_enter Try.func63, Try.ntmps63
  go_wp2
  go_quiet ((go_at_call 90; exact Calls.quiet_of_same (least_ok (hs.qd (QD.n _ _)))))
  go_wp2
  go_ret
  exact ⟨rfl, QD.n _ _⟩
set_option maxRecDepth 100000 in
set_option maxHeartbeats 1600000 in
theorem Full_nil : Calls Try.prog 63 #[.pointer none] w fun e w' => e = .returned (.bool false) ∧ QD w w' := by
  go_enter Try.func63, Try.ntmps63
  go_wp2
  go_quiet (fail)
  go_wp2
  go_ret
  exact ⟨rfl, QD.n _ _⟩
set_option maxRecDepth 100000 in
set_option maxHeartbeats 1600000 in
theorem Tail_any (h : RingIn w B r) : Calls Try.prog 64 #[.pointer (some ⟨B.g, 0, none⟩)] w fun e w' => e = .returned (.int .u64 r.tail) ∧ w' = w := by
  have c0 := h.c0
  go_enter Try.func64, Try.ntmps64
  go_wp2
  go_ret
  exact ⟨rfl, rfl⟩
theorem Tail_nil : Calls Try.prog 64 #[.pointer none] w fun e w' => e = .returned (.int .u64 0) ∧ w' = w := by
  go_enter Try.func64, Try.ntmps64
  go_wp2
  go_ret
  exact ⟨rfl, rfl⟩
set_option maxRecDepth 100000 in
set_option maxHeartbeats 1600000 in
theorem Closed_any (h : RingIn w B r) : Calls Try.prog 66 #[.pointer (some ⟨B.g, 0, none⟩)] w fun e w' => e = .returned (.bool r.closed) ∧ w' = w := by
  have c4 := h.c4
  go_enter Try.func66, Try.ntmps66
  go_wp2
  go_ret
  exact ⟨rfl, rfl⟩
theorem Closed_nil : Calls Try.prog 66 #[.pointer none] w fun e w' => e = .returned (.bool false) ∧ w' = w := by
  go_enter Try.func66, Try.ntmps66
  go_wp2
  go_ret
  exact ⟨rfl, rfl⟩
set_option maxRecDepth 100000 in
set_option maxHeartbeats 1600000 in
theorem Head_any (h : RingIn w B r) (j : Int) : Calls Try.prog 65 #[.pointer (some ⟨B.g, 0, none⟩), .int .i64 j] w fun e w' => e = .returned (.int .u64 (if rIs r j then rHead r j else 0)) ∧ w' = w := by
  have c1 := h.c1
  have hs := h
  cases hj : rIs r j with
  | true =>
    have hj2 := As.mk hj
    have hb : (0 : Int) ≤ j ∧ j < (r.heads.length : Int) := by simp [rIs] at hj; exact hj
    obtain ⟨hb0, hb1⟩ := hb
    have hc := h.ch (i := j.toNat) (by omega)
    change w.cell? _ = some (.int .u64 (rHead r j)) at hc
    clear hj
    go_enter Try.func65, Try.ntmps65
    go_wp2_with fail
    refine (reader_any hs j).mono ?_
    rintro e w1 ⟨rfl, rfl⟩
    rw [hj2.out]
    go_wp2
    go_ret
    exact ⟨rfl, rfl⟩
  | false =>
    have hj2 := As.mk hj
    clear hj
    go_enter Try.func65, Try.ntmps65
    go_wp2_with fail
    refine (reader_any hs j).mono ?_
    rintro e w1 ⟨rfl, rfl⟩
    rw [hj2.out]
    go_wp2
    go_ret
    exact ⟨rfl, rfl⟩
theorem Head_nil : Calls Try.prog 65 #[.pointer none, .int .i64 j] w fun e w' => e = .returned (.int .u64 0) ∧ w' = w := by
  go_enter Try.func65, Try.ntmps65
  go_wp2
  go_ret
  exact ⟨rfl, rfl⟩
set_option maxRecDepth 100000 in
set_option maxHeartbeats 1600000 in
theorem Empty_any (h : RingIn w B r) (j : Int) : Calls Try.prog 55 #[.pointer (some ⟨B.g, 0, none⟩), .int .i64 j] w fun e w' => e = .returned (.bool (rEmpty r j)) ∧ QD w w' := by
  have c0 := h.c0
  have c1 := h.c1
  have hs := h
  unfold rEmpty
  cases hj : rIs r j with
  | true =>
    have hj2 := As.mk hj
    have hb : (0 : Int) ≤ j ∧ j < (r.heads.length : Int) := by simp [rIs] at hj; exact hj
    obtain ⟨hb0, hb1⟩ := hb
    have hc := h.ch (i := j.toNat) (by omega)
    change w.cell? _ = some (.int .u64 (rHead r j)) at hc
    have hcall : ∀ n : Nat, Calls Try.prog 80 #[.pointer (some ⟨B.g, 0, none⟩), .int .i64 j] (w.drewN n) fun e w' => e = .returned (.bool true) ∧ w' = w.drewN n := fun n => by
      have := reader_any (hs.qd (QD.n _ n)) j
      rw [hj] at this; exact this
    have hH := As.mk hcall
    clear hj hcall
    go_enter Try.func55, Try.ntmps55
    go_wp2
    go_quiet ((go_at_call 80; exact Calls.quiet_of_same (hH.out _)))
    go_wp2
    go_ret
    exact ⟨by simp, QD.n _ _⟩
  | false =>
    have hcall : ∀ n : Nat, Calls Try.prog 80 #[.pointer (some ⟨B.g, 0, none⟩), .int .i64 j] (w.drewN n) fun e w' => e = .returned (.bool false) ∧ w' = w.drewN n := fun n => by
      have := reader_any (hs.qd (QD.n _ n)) j
      rw [hj] at this; exact this
    have hH := As.mk hcall
    clear hj hcall
    go_enter Try.func55, Try.ntmps55
    go_wp2
    go_quiet ((go_at_call 80; exact Calls.quiet_of_same (hH.out _)))
    go_wp2
    go_ret
    exact ⟨rfl, QD.n _ _⟩
theorem Empty_nil : Calls Try.prog 55 #[.pointer none, .int .i64 j] w fun e w' => e = .returned (.bool false) ∧ QD w w' := by
  go_enter Try.func55, Try.ntmps55
  go_wp2
  go_quiet (fail)
  go_wp2
  go_ret
  exact ⟨rfl, QD.n _ _⟩
set_option maxRecDepth 100000 in
set_option maxHeartbeats 1600000 in
theorem RFree_any (h : RingIn w B r) (ht : 0 ≤ t) : Calls Try.prog 43 #[.pointer (some ⟨B.g, 0, none⟩), .int .u64 t] w fun e w' => e = .returned (.bool (rFree r t)) ∧ QD w w' := by
  have c0 := h.c0
  have c2 := h.c2
  have hs := h
  unfold rFree
  by_cases h1 : t < r.tail
  · have d1 : decide (t < r.tail) = true := decide_eq_true h1
    rw [d1]
    clear h1
    go_enter Try.func43, Try.ntmps43
    go_wp2_with fail
    refine (Free_ok hs.s ht).mono ?_
    rintro e w1 ⟨rfl, hq⟩
    go_wp2
    go_ret
    exact ⟨by simp, hq⟩
  · have d1 : decide (t < r.tail) = false := decide_eq_false h1
    rw [d1]
    clear h1
    go_enter Try.func43, Try.ntmps43
    go_wp2
    go_ret
    exact ⟨rfl, QD.refl _⟩
theorem RFree_nil : Calls Try.prog 43 #[.pointer none, .int .u64 t] w fun e w' => e = .returned (.bool false) ∧ QD w w' := by
  go_enter Try.func43, Try.ntmps43
  go_wp2
  go_ret
  exact ⟨rfl, QD.refl _⟩
set_option maxRecDepth 100000 in
set_option maxHeartbeats 1600000 in
theorem RHas_any (h : RingIn w B r) (ht : 0 ≤ t) (j : Int) : Calls Try.prog 44 #[.pointer (some ⟨B.g, 0, none⟩), .int .i64 j, .int .u64 t] w fun e w' => e = .returned (.bool (rHas r j t)) ∧ QD w w' := by
  have c1 := h.c1
  have c2 := h.c2
  have hs := h
  unfold rHas
  cases hj : rIs r j with
  | true =>
    have hj2 := As.mk hj
    have hb : (0 : Int) ≤ j ∧ j < (r.heads.length : Int) := by simp [rIs] at hj; exact hj
    obtain ⟨hb0, hb1⟩ := hb
    have hc := h.ch (i := j.toNat) (by omega)
    change w.cell? _ = some (.int .u64 (rHead r j)) at hc
    clear hj
    by_cases h1 : t < rHead r j
    · have d1 : decide (t < rHead r j) = true := decide_eq_true h1
      rw [d1]
      clear h1
      go_enter Try.func44, Try.ntmps44
      go_wp2_with fail
      refine (reader_any hs j).mono ?_
      rintro e w1 ⟨rfl, rfl⟩
      rw [hj2.out]
      go_wp2_with fail
      refine (Has_any hs.s ht).mono ?_
      rintro e w1 ⟨rfl, hq⟩
      go_wp2
      go_ret
      exact ⟨by simp, hq⟩
    · have d1 : decide (t < rHead r j) = false := decide_eq_false h1
      rw [d1]
      clear h1
      go_enter Try.func44, Try.ntmps44
      go_wp2_with fail
      refine (reader_any hs j).mono ?_
      rintro e w1 ⟨rfl, rfl⟩
      rw [hj2.out]
      go_wp2
      go_ret
      exact ⟨by simp, QD.refl _⟩
  | false =>
    have hj2 := As.mk hj
    clear hj
    go_enter Try.func44, Try.ntmps44
    go_wp2_with fail
    refine (reader_any hs j).mono ?_
    rintro e w1 ⟨rfl, rfl⟩
    rw [hj2.out]
    go_wp2
    go_ret
    exact ⟨by simp, QD.refl _⟩
theorem RHas_nil : Calls Try.prog 44 #[.pointer none, .int .i64 j, .int .u64 t] w fun e w' => e = .returned (.bool false) ∧ QD w w' := by
  go_enter Try.func44, Try.ntmps44
  go_wp2
  go_ret
  exact ⟨rfl, QD.refl _⟩
end Go.Proofs.Ytmejnhfggmmefaa.H
