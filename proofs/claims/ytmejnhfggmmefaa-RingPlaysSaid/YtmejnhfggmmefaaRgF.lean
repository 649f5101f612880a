/- Layer 13: what ring's Load does: the refusals. No condition. -/
import Derived.Test.YtmejnhfggmmefaaRgE
namespace Go.Proofs.Ytmejnhfggmmefaa.H
open Go.RowKit
set_option linter.unusedVariables false
set_option linter.unusedSimpArgs false
variable {w : World} {B : RB} {r : Rg} {t j v : Int}

set_option maxRecDepth 100000 in
set_option maxHeartbeats 1600000 in
theorem RLoad_may (k c R : Int) (h : rMay k c R = false) (x0 x1 x2 x3 : Value) (A1 A2 : Option Addr) (n1 c1 n2 c2 : Nat) (T : Int) (cl : Bool) :
    Calls Try.prog 56 #[.agg #[.int .i64 k, .int .i64 c, .int .i64 R], .agg #[.int .u64 T, .slice A1 n1 c1, .bool cl, .slice A2 n2 c2]] w fun e w' => e = .returned (.tuple #[.pointer none, .int .i64 1]) ∧ Kp no w w' := by
  have H := As.mk h
  clear h
  go_enter Try.func56, Try.ntmps56
  go_wp2_with fail
  refine (RNew_no k c R H.out).mono ?_
  rintro e w1 ⟨rfl, hK⟩
  have hK2 := (((Kp.refl no w).alloc _).alloc _).trans hK
  go_wp2
  go_ret2
  exact ⟨rfl, hK2⟩

/-- Where Load stands behind the call of New: two boxes, a new ring. -/
structure LoadAt (w w1 : World) (k T : Int) (p q : Nat) (A1 A2 : Option Addr) (n1 c1 n2 c2 : Nat) (cl : Bool) (b1 b2 : Nat) (B : RB) : Prop where
  bx1 : w1.heap[b1]? = some (.cells #[.int .i64 k, .int .i64 p, .int .i64 q] 23 (0, 0))
  bx2 : w1.heap[b2]? = some (.cells #[.int .u64 T, .slice A1 n1 c1, .bool cl, .slice A2 n2 c2] 92 (0, 0))
  ge1 : w.heap.size ≤ b1
  ge2 : w.heap.size ≤ b2
  rg : RingIn w1 B ⟨0, List.replicate q 0, false, sNew p⟩
  new : ∀ i, B.own i → w.heap.size ≤ i
  ne1 : ¬ B.own b1
  ne2 : ¬ B.own b2
  kp : Kp no w w1
theorem LoadAt.next {w w1 w2 : World} {k T : Int} {p q : Nat} {A1 A2 : Option Addr} {n1 c1 n2 c2 : Nat} {cl : Bool} {b1 b2 : Nat} {B : RB} (h : LoadAt w w1 k T p q A1 A2 n1 c1 n2 c2 cl b1 b2 B) (hK : Kp no w1 w2) : LoadAt w w2 k T p q A1 A2 n1 c1 n2 c2 cl b1 b2 B :=
  ⟨bk_kp h.bx1 hK (fun x => x), bk_kp h.bx2 hK (fun x => x), h.ge1, h.ge2, h.rg.kp hK (fun _ _ x => x), h.new, h.ne1, h.ne2, h.kp.trans hK⟩
theorem LoadAt.cells {w w1 : World} {k T : Int} {p q : Nat} {A1 A2 : Option Addr} {n1 c1 n2 c2 : Nat} {cl : Bool} {b1 b2 : Nat} {B : RB} (h : LoadAt w w1 k T p q A1 A2 n1 c1 n2 c2 cl b1 b2 B) :
    w1.cell? ⟨b1, 1, none⟩ = some (.int .i64 p) ∧ w1.cell? ⟨b1, 2, none⟩ = some (.int .i64 q) ∧ w1.cell? ⟨b2, 0, none⟩ = some (.int .u64 T) ∧ w1.cell? ⟨b2, 1, none⟩ = some (.slice A1 n1 c1) ∧ w1.cell? ⟨b2, 2, none⟩ = some (.bool cl) ∧ w1.cell? ⟨b2, 3, none⟩ = some (.slice A2 n2 c2) :=
  ⟨bk_cell h.bx1 1, bk_cell h.bx1 2, bk_cell h.bx2 0, bk_cell h.bx2 1, bk_cell h.bx2 2, bk_cell h.bx2 3⟩

theorem loadAt_new {w w1 : World} {k T : Int} {p q : Nat} {A1 A2 : Option Addr} {n1 c1 n2 c2 : Nat} {cl : Bool} {B : RB}
    (hR : RingIn w1 B ⟨0, List.replicate q 0, false, sNew p⟩)
    (hn : ∀ i, B.own i → ((w.alloc (.cells #[.int .i64 k, .int .i64 p, .int .i64 q] 23)).alloc (.cells #[.int .u64 T, .slice A1 n1 c1, .bool cl, .slice A2 n2 c2] 92)).heap.size ≤ i)
    (hK : Kp no ((w.alloc (.cells #[.int .i64 k, .int .i64 p, .int .i64 q] 23)).alloc (.cells #[.int .u64 T, .slice A1 n1 c1, .bool cl, .slice A2 n2 c2] 92)) w1) :
    LoadAt w w1 k T p q A1 A2 n1 c1 n2 c2 cl w.heap.size (w.heap.size + 1) B := by
  have hsz : ((w.alloc (.cells #[.int .i64 k, .int .i64 p, .int .i64 q] 23)).alloc (.cells #[.int .u64 T, .slice A1 n1 c1, .bool cl, .slice A2 n2 c2] 92)).heap.size = w.heap.size + 2 := by simp
  refine ⟨bk_kp (bk_alloc (heap_alloc_new _ _) _) hK (fun x => x), bk_kp ?_ hK (fun x => x), Nat.le_refl _, by omega, hR, fun i hi => by have := hn i hi; omega, fun h => by have := hn _ h; omega, fun h => by have := hn _ h; omega, (((Kp.refl no w).alloc _).alloc _).trans hK⟩
  have := heap_alloc_new (w.alloc (.cells #[.int .i64 k, .int .i64 p, .int .i64 q] 23)) (.cells #[.int .u64 T, .slice A1 n1 c1, .bool cl, .slice A2 n2 c2] 92)
  simpa using this

set_option maxRecDepth 100000 in
set_option maxHeartbeats 3200000 in
theorem RLoad_form (k : Int) (p q : Nat) (h : rMay k p q = true) (A1 : Option Addr) (n1 c1 : Nat) {A2 : Option Addr} {c2 : Nat} (T : Int) (cl : Bool) (M : List Sl) (hwf : ∀ x ∈ M, 0 ≤ x.st ∧ x.st < 18446744073709551616)
    (hM : Rd w (.slice A2 M.length c2) M.length (slCells M)) (hbad : loadB p q M = false ∨ n1 ≠ q ∨ ¬ T < 4611686018427387904) :
    Calls Try.prog 56 #[.agg #[.int .i64 k, .int .i64 p, .int .i64 q], .agg #[.int .u64 T, .slice A1 n1 c1, .bool cl, .slice A2 M.length c2]] w fun e w' => e = .returned (.tuple #[.pointer none, .int .i64 3]) ∧ Kp no w w' := by
  have H := As.mk h
  have H1 : mayB p q = true := by unfold rMay at h; rw [Bool.and_eq_true] at h; exact h.1
  have H1' := As.mk H1
  have HM := As.mk hM
  have HB := As.mk hbad
  clear h H1 hM hbad
  go_enter Try.func56, Try.ntmps56
  go_wp2_with fail
  refine (RNew_ok k p q H.out).mono ?_
  rintro e w1 ⟨B, rfl, hR, hn, hK⟩
  have hA := loadAt_new hR hn hK
  clear hR hn hK
  generalize w.heap.size = b1 at hA ⊢
  generalize b1 + 1 = b2 at hA ⊢
  obtain ⟨d1, d2, d3, d4, d5, d6⟩ := hA.cells
  go_wp2_with fail
  refine (SLoad_any p q H1'.out M hwf (HM.out.kp hA.kp (fun _ _ x => x))).mono ?_
  rintro e w2 (⟨hl, g3, b3, cap3, rfl, hS, _, _, hK2⟩ | ⟨hl, rfl, hK2⟩)
  · replace hA := hA.next hK2
    have hl2 := As.mk hl
    clear d1 d2 d3 d4 d5 d6 hS hl
    obtain ⟨d1, d2, d3, d4, d5, d6⟩ := hA.cells
    by_cases hn : n1 = q
    · have hnb : ((n1 : Int) != (q : Int)) = false := by rw [hn]; simp
      have hT : ¬ T < 4611686018427387904 := by
        rcases HB.out with h | h | h
        · rw [hl2.out] at h; cases h
        · exact absurd hn h
        · omega
      have hTd : decide (4611686018427387904 ≤ T) = true := decide_eq_true (by omega)
      clear hn hT HB
      go_wp2
      go_ret2
      exact ⟨rfl, hA.kp⟩
    · have hnb : ((n1 : Int) != (q : Int)) = true := by simp; omega
      clear hn HB
      go_wp2
      go_ret2
      exact ⟨rfl, hA.kp⟩
  · replace hA := hA.next hK2
    clear d1 d2 d3 d4 d5 d6 hl HB
    go_wp2
    go_ret2
    exact ⟨rfl, hA.kp⟩
end Go.Proofs.Ytmejnhfggmmefaa.H
