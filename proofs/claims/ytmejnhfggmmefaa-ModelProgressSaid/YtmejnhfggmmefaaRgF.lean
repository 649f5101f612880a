/- Layer 13: what ring's stands does. No condition. Layer 13: what ring's Load does: the refusals. No condition. -/
import Derived.Test.YtmejnhfggmmefaaRgD
namespace Go.Proofs.Ytmejnhfggmmefaa.H
open Go.RowKit
set_option linter.unusedVariables false
set_option linter.unusedSimpArgs false
variable {w : World} {B : RB} {r : Rg} {t j v : Int}

/-- May a place stand so? -/
def standB (x : Sl) (tail most : Int) (heads : List Int) : Bool :=
  if x.st % 2 = 1 then decide (x.st / 2 < tail) && (List.range heads.length).all fun (j : Nat) => bitOf x.left j || decide (x.st / 2 < heads.getD j 0)
  else (List.range heads.length).all fun (j : Nat) => !(decide (most ≤ x.st / 2) && decide (heads.getD j 0 ≤ x.st / 2 - most))

set_option maxRecDepth 100000 in
set_option maxHeartbeats 3200000 in
theorem stands_held (h : RingIn w B r) (x : Sl) (hx : x.ok) (hp : x.st % 2 = 1) : Calls Try.prog 82 #[.pointer (some ⟨B.g, 0, none⟩), .agg #[.int .u64 x.st, .int .u64 x.v, .int .i64 x.left]] w fun e w' =>
    e = .returned (.bool (standB x r.tail r.L.length r.heads)) ∧ Kp no w w' := by
  obtain ⟨s, v, l⟩ := x
  obtain ⟨hx0, hx1, hx2, hx3⟩ := hx
  change 0 ≤ s at hx0
  change s < _ at hx1
  change 0 ≤ l at hx2
  change l < _ at hx3
  change s % 2 = 1 at hp
  show Calls Try.prog 82 #[.pointer (some ⟨B.g, 0, none⟩), .agg #[.int .u64 s, .int .u64 v, .int .i64 l]] w _
  have hKW : Kp no w (w.alloc (.cells #[.int .u64 s, .int .u64 v, .int .i64 l] 119)) := (Kp.refl no w).alloc _
  have hW := h.kp hKW (fun _ _ x => x)
  have c0 := hW.c0
  have c1 := hW.c1
  have c3 := hW.c3
  have h8 := h.s.hR
  have HS := As.mk (show standB ⟨s, v, l⟩ r.tail r.L.length r.heads = (decide (s / 2 < r.tail) && (List.range r.heads.length).all fun (j : Nat) => bitOf l j || decide (s / 2 < r.heads.getD j 0)) from by unfold standB; rw [if_pos hp])
  have ht1 : Int.tdiv s 2 = s / 2 := Int.tdiv_eq_ediv_of_nonneg hx0
  have ht3 : Int.tmod s 2 = s % 2 := Int.tmod_eq_emod_of_nonneg hx0
  have hw2 : IntKind.u64.wrap (s / 2) = s / 2 := by rw [IntKind.wrap_u64]; omega
  have hB := As.mk (And.intro hx2 hx3)
  by_cases h1 : s / 2 < r.tail
  · have d1 : decide (r.tail ≤ s / 2) = false := decide_eq_false (by omega)
    have D1 := As.mk (decide_eq_true h1)
    clear h1 hx1 hx2 hx3
    go_enter Try.func82, Try.ntmps82
    go_wp2
    have cl : (w.alloc (.cells #[.int .u64 s, .int .u64 v, .int .i64 l] 119)).cell? ⟨w.heap.size, 2, none⟩ = some (.int .i64 l) := bk_cell (heap_alloc_new _ _) 2
    generalize w.alloc (.cells #[.int .u64 s, .int .u64 v, .int .i64 l] 119) = W at hW hKW cl c0 c1 c3 ⊢
    generalize w.heap.size = n0 at cl ⊢
    go_loop [32] (fun v32 => ∃ k : Nat, k ≤ r.heads.length ∧ v32 = .int .i64 k ∧ As (∀ i : Nat, i < k → (bitOf l i || decide (s / 2 < r.heads.getD i 0)) = true)) (fun v32 => r.heads.length - (intOf v32).toNat)
    case atStart => exact ⟨0, Nat.zero_le _, rfl, ⟨fun i hi => by omega⟩⟩
    case round =>
      obtain ⟨k, hk, rfl, hA⟩ := hrel
      by_cases hlt : k < r.heads.length
      · have hc := hW.ch hlt
        generalize hq : r.heads.getD k 0 = q at hc
        have HQ := As.mk hq
        clear hq
        have hm : min k 64 = k := by omega
        have hlt2 : (k : Int) < (r.heads.length : Int) := by omega
        have hnn : (0 : Int) ≤ (k : Int) := by omega
        have hbits : bits .and .i64 (l / 2 ^ k) 1 = l / 2 ^ k % 2 := by
          obtain ⟨L, hL⟩ := Int.eq_ofNat_of_zero_le hB.out.1
          have := hB.out.2
          rw [hL] at this ⊢
          exact bits_and1 L k (by omega) (by omega)
        have hbo : bitOf l (k : Int) = (l / 2 ^ k % 2 == 1) := by unfold bitOf; simp
        by_cases hb : l / 2 ^ k % 2 = 1
        · rw [hb] at hbits
          have hA2 : As (∀ i : Nat, i < k + 1 → (bitOf l i || decide (s / 2 < r.heads.getD i 0)) = true) := ⟨fun i hi => by
            by_cases e : i = k
            · rw [e, hbo, hb]; rfl
            · exact hA.out i (by omega)⟩
          clear hb hbo hA
          go_wp2
          exact ⟨⟨k + 1, by omega, by go_num, hA2⟩, by simp [intOf]; omega⟩
        · have hb0 : l / 2 ^ k % 2 = 0 := by omega
          rw [hb0] at hbits
          by_cases hle : q ≤ s / 2
          · have hd : decide (q ≤ s / 2) = true := decide_eq_true hle
            have hF : As (standB ⟨s, v, l⟩ r.tail r.L.length r.heads = false) := ⟨by
              rw [HS.out]
              have : ((List.range r.heads.length).all fun (j : Nat) => bitOf l j || decide (s / 2 < r.heads.getD j 0)) = false := by
                rw [List.all_eq_false]
                refine ⟨k, List.mem_range.2 hlt, ?_⟩
                rw [hbo, hb0, HQ.out, decide_eq_false (by omega)]; decide
              rw [this, Bool.and_false]⟩
            clear hb hb0 hbo hA hle
            go_wp2
            go_ret
            exact ⟨by rw [hF.out]; rfl, hKW⟩
          · have hd : decide (q ≤ s / 2) = false := decide_eq_false hle
            have hA2 : As (∀ i : Nat, i < k + 1 → (bitOf l i || decide (s / 2 < r.heads.getD i 0)) = true) := ⟨fun i hi => by
              by_cases e : i = k
              · rw [e, HQ.out, decide_eq_true (by omega), Bool.or_true]
              · exact hA.out i (by omega)⟩
            clear hb hb0 hbo hA hle
            go_wp2
            exact ⟨⟨k + 1, by omega, by go_num, hA2⟩, by simp [intOf]; omega⟩
      · have hF : As (standB ⟨s, v, l⟩ r.tail r.L.length r.heads = true) := ⟨by
          rw [HS.out]
          rw [D1.out, Bool.true_and, List.all_eq_true]
          intro i hi
          exact hA.out i (by have := List.mem_range.1 hi; omega)⟩
        clear hA
        go_wp2
        go_ret
        exact ⟨by rw [hF.out]; rfl, hKW⟩
  · have d1 : decide (r.tail ≤ s / 2) = true := decide_eq_true (by omega)
    have hF : As (standB ⟨s, v, l⟩ r.tail r.L.length r.heads = false) := ⟨by rw [HS.out, decide_eq_false h1, Bool.false_and]⟩
    clear h1 hx1 hx2 hx3
    go_enter Try.func82, Try.ntmps82
    go_wp2
    go_ret
    exact ⟨by rw [hF.out]; rfl, hKW⟩

set_option maxRecDepth 100000 in
set_option maxHeartbeats 3200000 in
theorem stands_free (h : RingIn w B r) (x : Sl) (hx : x.ok) (hp : x.st % 2 = 0) : Calls Try.prog 82 #[.pointer (some ⟨B.g, 0, none⟩), .agg #[.int .u64 x.st, .int .u64 x.v, .int .i64 x.left]] w fun e w' =>
    e = .returned (.bool (standB x r.tail r.L.length r.heads)) ∧ Kp no w w' := by
  obtain ⟨s, v, l⟩ := x
  obtain ⟨hx0, hx1, hx2, hx3⟩ := hx
  change 0 ≤ s at hx0
  change s < _ at hx1
  change s % 2 = 0 at hp
  show Calls Try.prog 82 #[.pointer (some ⟨B.g, 0, none⟩), .agg #[.int .u64 s, .int .u64 v, .int .i64 l]] w _
  have hKW : Kp no w (w.alloc (.cells #[.int .u64 s, .int .u64 v, .int .i64 l] 119)) := (Kp.refl no w).alloc _
  have hW := h.kp hKW (fun _ _ x => x)
  have c0 := hW.c0
  have c1 := hW.c1
  have c3 := hW.c3
  have h8 := h.s.hR
  have hL := h.s.le
  have HS := As.mk (show standB ⟨s, v, l⟩ r.tail r.L.length r.heads = ((List.range r.heads.length).all fun (j : Nat) => !(decide ((r.L.length : Int) ≤ s / 2) && decide (r.heads.getD j 0 ≤ s / 2 - r.L.length))) from by unfold standB; rw [if_neg (by show ¬ s % 2 = 1; omega)])
  have ht1 : Int.tdiv s 2 = s / 2 := Int.tdiv_eq_ediv_of_nonneg hx0
  have ht3 : Int.tmod s 2 = s % 2 := Int.tmod_eq_emod_of_nonneg hx0
  have hw2 : IntKind.u64.wrap (s / 2) = s / 2 := by rw [IntKind.wrap_u64]; omega
  by_cases h1 : (r.L.length : Int) ≤ s / 2
  · have d1 : decide ((r.L.length : Int) ≤ s / 2) = true := decide_eq_true h1
    have hw3 : IntKind.u64.wrap (s / 2 - (r.L.length : Int)) = s / 2 - (r.L.length : Int) := by rw [IntKind.wrap_u64]; omega
    have D1 := As.mk d1
    clear h1 hx1
    go_enter Try.func82, Try.ntmps82
    go_wp2
    generalize w.alloc (.cells #[.int .u64 s, .int .u64 v, .int .i64 l] 119) = W at hW hKW c0 c1 c3 ⊢
    generalize w.heap.size = n0 at ⊢
    go_loop [32] (fun v32 => ∃ k : Nat, k ≤ r.heads.length ∧ v32 = .int .i64 k ∧ As (∀ i : Nat, i < k → ¬ r.heads.getD i 0 ≤ s / 2 - r.L.length)) (fun v32 => r.heads.length - (intOf v32).toNat)
    case atStart => exact ⟨0, Nat.zero_le _, rfl, ⟨fun i hi => by omega⟩⟩
    case round =>
      obtain ⟨k, hk, rfl, hA⟩ := hrel
      by_cases hlt : k < r.heads.length
      · have hc := hW.ch hlt
        generalize hq : r.heads.getD k 0 = q at hc
        have HQ := As.mk hq
        clear hq
        have hlt2 : (k : Int) < (r.heads.length : Int) := by omega
        have hnn : (0 : Int) ≤ (k : Int) := by omega
        by_cases hle : q ≤ s / 2 - (r.L.length : Int)
        · have hd : decide (q ≤ s / 2 - (r.L.length : Int)) = true := decide_eq_true hle
          have hF : As (standB ⟨s, v, l⟩ r.tail r.L.length r.heads = false) := ⟨by
            rw [HS.out, List.all_eq_false]
            exact ⟨k, List.mem_range.2 hlt, by rw [D1.out, HQ.out, hd]; decide⟩⟩
          clear hA hle
          go_wp2
          go_ret
          exact ⟨by rw [hF.out]; rfl, hKW⟩
        · have hd : decide (q ≤ s / 2 - (r.L.length : Int)) = false := decide_eq_false hle
          have hA2 : As (∀ i : Nat, i < k + 1 → ¬ r.heads.getD i 0 ≤ s / 2 - r.L.length) := ⟨fun i hi => by
            by_cases e : i = k
            · rw [e, HQ.out]; exact hle
            · exact hA.out i (by omega)⟩
          clear hA hle
          go_wp2
          exact ⟨⟨k + 1, by omega, by go_num, hA2⟩, by simp [intOf]; omega⟩
      · have hF : As (standB ⟨s, v, l⟩ r.tail r.L.length r.heads = true) := ⟨by
          rw [HS.out, List.all_eq_true]
          intro i hi
          rw [decide_eq_false (hA.out i (by have := List.mem_range.1 hi; omega)), Bool.and_false]; rfl⟩
        clear hA
        go_wp2
        go_ret
        exact ⟨by rw [hF.out]; rfl, hKW⟩
  · have d1 : decide ((r.L.length : Int) ≤ s / 2) = false := decide_eq_false h1
    have hF : As (standB ⟨s, v, l⟩ r.tail r.L.length r.heads = true) := ⟨by
      rw [HS.out, List.all_eq_true]
      intro i hi
      rw [d1, Bool.false_and]; rfl⟩
    clear h1 hx1
    go_enter Try.func82, Try.ntmps82
    go_wp2
    generalize w.alloc (.cells #[.int .u64 s, .int .u64 v, .int .i64 l] 119) = W at hW hKW c0 c1 c3 ⊢
    generalize w.heap.size = n0 at ⊢
    go_loop [32] (fun v32 => ∃ k : Nat, k ≤ r.heads.length ∧ v32 = .int .i64 k) (fun v32 => r.heads.length - (intOf v32).toNat)
    case atStart => exact ⟨0, Nat.zero_le _, rfl⟩
    case round =>
      obtain ⟨k, hk, rfl⟩ := hrel
      by_cases hlt : k < r.heads.length
      · have hc := hW.ch hlt
        generalize hq : r.heads.getD k 0 = q at hc
        have HQ := As.mk hq
        clear hq
        have hlt2 : (k : Int) < (r.heads.length : Int) := by omega
        have hnn : (0 : Int) ≤ (k : Int) := by omega
        go_wp2
        exact ⟨⟨k + 1, by omega, by go_num⟩, by simp [intOf]; omega⟩
      · go_wp2
        go_ret
        exact ⟨by rw [hF.out]; rfl, hKW⟩
theorem stands_any (h : RingIn w B r) (x : Sl) (hx : x.ok) : Calls Try.prog 82 #[.pointer (some ⟨B.g, 0, none⟩), .agg #[.int .u64 x.st, .int .u64 x.v, .int .i64 x.left]] w fun e w' =>
    e = .returned (.bool (standB x r.tail r.L.length r.heads)) ∧ Kp no w w' := by
  by_cases hp : x.st % 2 = 1
  · exact stands_held h x hx hp
  · exact stands_free h x hx (by omega)
end Go.Proofs.Ytmejnhfggmmefaa.H
namespace Go.Proofs.Ytmejnhfggmmefaa.H
open Go.RowKit
set_option linter.unusedVariables false
set_option linter.unusedSimpArgs false
variable {w : World} {B : RB} {r : Rg} {t j v : Int}

set_option maxRecDepth 100000 in
set_option maxHeartbeats 1600000 in
theorem RLoad_may (k c R : Int) (h : rMay k c R = false) (x0 x1 x2 x3 : Value) (A1 A2 : Option Addr) (n1 c1 n2 c2 : Nat) (T : Int) (cl : Bool) :
    Calls Try.prog 56 #[.agg #[.int .i64 k, .int .i64 c, .int .i64 R], .agg #[.int .u64 T, .slice A1 n1 c1, .bool cl, .slice A2 n2 c2]] w fun e w' => e = .returned (.tuple #[.pointer none, .int .i64 1]) ∧ Kp no w w' := by
  have H := As.mk h
  clear h
  go_enter Try.func56, Try.ntmps56
  go_wp2_with fail
  refine (RNew_no k c R H.out).mono ?_
  rintro e w1 ⟨rfl, hK⟩
  have hK2 := (((Kp.refl no w).alloc _).alloc _).trans hK
  go_wp2
  go_ret2
  exact ⟨rfl, hK2⟩

/-- Where Load stands behind the call of New: two boxes, a new ring. -/
structure LoadAt (w w1 : World) (k T : Int) (p q : Nat) (A1 A2 : Option Addr) (n1 c1 n2 c2 : Nat) (cl : Bool) (b1 b2 : Nat) (B : RB) : Prop where
  bx1 : w1.heap[b1]? = some (.cells #[.int .i64 k, .int .i64 p, .int .i64 q] 23 (0, 0))
  bx2 : w1.heap[b2]? = some (.cells #[.int .u64 T, .slice A1 n1 c1, .bool cl, .slice A2 n2 c2] 92 (0, 0))
  ge1 : w.heap.size ≤ b1
  ge2 : w.heap.size ≤ b2
  rg : RingIn w1 B ⟨0, List.replicate q 0, false, sNew p⟩
  new : ∀ i, B.own i → w.heap.size ≤ i
  ne1 : ¬ B.own b1
  ne2 : ¬ B.own b2
  kp : Kp no w w1
theorem LoadAt.next {w w1 w2 : World} {k T : Int} {p q : Nat} {A1 A2 : Option Addr} {n1 c1 n2 c2 : Nat} {cl : Bool} {b1 b2 : Nat} {B : RB} (h : LoadAt w w1 k T p q A1 A2 n1 c1 n2 c2 cl b1 b2 B) (hK : Kp no w1 w2) : LoadAt w w2 k T p q A1 A2 n1 c1 n2 c2 cl b1 b2 B :=
  ⟨bk_kp h.bx1 hK (fun x => x), bk_kp h.bx2 hK (fun x => x), h.ge1, h.ge2, h.rg.kp hK (fun _ _ x => x), h.new, h.ne1, h.ne2, h.kp.trans hK⟩
theorem LoadAt.cells {w w1 : World} {k T : Int} {p q : Nat} {A1 A2 : Option Addr} {n1 c1 n2 c2 : Nat} {cl : Bool} {b1 b2 : Nat} {B : RB} (h : LoadAt w w1 k T p q A1 A2 n1 c1 n2 c2 cl b1 b2 B) :
    w1.cell? ⟨b1, 1, none⟩ = some (.int .i64 p) ∧ w1.cell? ⟨b1, 2, none⟩ = some (.int .i64 q) ∧ w1.cell? ⟨b2, 0, none⟩ = some (.int .u64 T) ∧ w1.cell? ⟨b2, 1, none⟩ = some (.slice A1 n1 c1) ∧ w1.cell? ⟨b2, 2, none⟩ = some (.bool cl) ∧ w1.cell? ⟨b2, 3, none⟩ = some (.slice A2 n2 c2) :=
  ⟨bk_cell h.bx1 1, bk_cell h.bx1 2, bk_cell h.bx2 0, bk_cell h.bx2 1, bk_cell h.bx2 2, bk_cell h.bx2 3⟩

theorem loadAt_new {w w1 : World} {k T : Int} {p q : Nat} {A1 A2 : Option Addr} {n1 c1 n2 c2 : Nat} {cl : Bool} {B : RB}
    (hR : RingIn w1 B ⟨0, List.replicate q 0, false, sNew p⟩)
    (hn : ∀ i, B.own i → ((w.alloc (.cells #[.int .i64 k, .int .i64 p, .int .i64 q] 23)).alloc (.cells #[.int .u64 T, .slice A1 n1 c1, .bool cl, .slice A2 n2 c2] 92)).heap.size ≤ i)
    (hK : Kp no ((w.alloc (.cells #[.int .i64 k, .int .i64 p, .int .i64 q] 23)).alloc (.cells #[.int .u64 T, .slice A1 n1 c1, .bool cl, .slice A2 n2 c2] 92)) w1) :
    LoadAt w w1 k T p q A1 A2 n1 c1 n2 c2 cl w.heap.size (w.heap.size + 1) B := by
  have hsz : ((w.alloc (.cells #[.int .i64 k, .int .i64 p, .int .i64 q] 23)).alloc (.cells #[.int .u64 T, .slice A1 n1 c1, .bool cl, .slice A2 n2 c2] 92)).heap.size = w.heap.size + 2 := by simp
  refine ⟨bk_kp (bk_alloc (heap_alloc_new _ _) _) hK (fun x => x), bk_kp ?_ hK (fun x => x), Nat.le_refl _, by omega, hR, fun i hi => by have := hn i hi; omega, fun h => by have := hn _ h; omega, fun h => by have := hn _ h; omega, (((Kp.refl no w).alloc _).alloc _).trans hK⟩
  have := heap_alloc_new (w.alloc (.cells #[.int .i64 k, .int .i64 p, .int .i64 q] 23)) (.cells #[.int .u64 T, .slice A1 n1 c1, .bool cl, .slice A2 n2 c2] 92)
  simpa using this

set_option maxRecDepth 100000 in
set_option maxHeartbeats 3200000 in
theorem RLoad_form (k : Int) (p q : Nat) (h : rMay k p q = true) (A1 : Option Addr) (n1 c1 : Nat) {A2 : Option Addr} {c2 : Nat} (T : Int) (cl : Bool) (M : List Sl) (hwf : ∀ x ∈ M, 0 ≤ x.st ∧ x.st < 18446744073709551616)
    (hM : Rd w (.slice A2 M.length c2) M.length (slCells M)) (hbad : loadB p q M = false ∨ n1 ≠ q ∨ ¬ T < 4611686018427387904) :
    Calls Try.prog 56 #[.agg #[.int .i64 k, .int .i64 p, .int .i64 q], .agg #[.int .u64 T, .slice A1 n1 c1, .bool cl, .slice A2 M.length c2]] w fun e w' => e = .returned (.tuple #[.pointer none, .int .i64 3]) ∧ Kp no w w' := by
  have H := As.mk h
  have H1 : mayB p q = true := by unfold rMay at h; rw [Bool.and_eq_true] at h; exact h.1
  have H1' := As.mk H1
  have HM := As.mk hM
  have HB := As.mk hbad
  clear h H1 hM hbad
  go_enter Try.func56, Try.ntmps56
  go_wp2_with fail
  refine (RNew_ok k p q H.out).mono ?_
  rintro e w1 ⟨B, rfl, hR, hn, hK⟩
  have hA := loadAt_new hR hn hK
  clear hR hn hK
  generalize w.heap.size = b1 at hA ⊢
  generalize b1 + 1 = b2 at hA ⊢
  obtain ⟨d1, d2, d3, d4, d5, d6⟩ := hA.cells
  go_wp2_with fail
  refine (SLoad_any p q H1'.out M hwf (HM.out.kp hA.kp (fun _ _ x => x))).mono ?_
  rintro e w2 (⟨hl, g3, b3, cap3, rfl, hS, _, _, hK2⟩ | ⟨hl, rfl, hK2⟩)
  · replace hA := hA.next hK2
    have hl2 := As.mk hl
    clear d1 d2 d3 d4 d5 d6 hS hl
    obtain ⟨d1, d2, d3, d4, d5, d6⟩ := hA.cells
    by_cases hn : n1 = q
    · have hnb : ((n1 : Int) != (q : Int)) = false := by rw [hn]; simp
      have hT : ¬ T < 4611686018427387904 := by
        rcases HB.out with h | h | h
        · rw [hl2.out] at h; cases h
        · exact absurd hn h
        · omega
      have hTd : decide (4611686018427387904 ≤ T) = true := decide_eq_true (by omega)
      clear hn hT HB
      go_wp2
      go_ret2
      exact ⟨rfl, hA.kp⟩
    · have hnb : ((n1 : Int) != (q : Int)) = true := by simp; omega
      clear hn HB
      go_wp2
      go_ret2
      exact ⟨rfl, hA.kp⟩
  · replace hA := hA.next hK2
    clear d1 d2 d3 d4 d5 d6 hl HB
    go_wp2
    go_ret2
    exact ⟨rfl, hA.kp⟩
end Go.Proofs.Ytmejnhfggmmefaa.H
