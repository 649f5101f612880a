/- Layer 12: SlotsPlays: whatever is put and got, in whatever order, each answer, and how all places stand, is the reference's. No condition. -/
import Derived.Test.YtmejnhfggmmefaaL12Q
import Derived.Test.YtmejnhfggmmefaaOpen
import Derived.Test.YtmejnhfggmmefaaL12A
namespace Go.Proofs.Ytmejnhfggmmefaa.H
open Go.RowKit
set_option linter.unusedVariables false
set_option linter.unusedSimpArgs false
variable {w : World} {L : List Sl} {R : Nat} {t v j : Int} {g b cap : Nat}

set_option maxRecDepth 100000 in
set_option maxHeartbeats 3200000 in
theorem plays_nil (h : SlotsIn w g b cap L R) {e0 : Value} (hr : RS b w e0 L R) (A : Option Addr) (c : Nat) :
    Calls Try.prog 35 #[.pointer (some ⟨g, 0, none⟩), e0, .slice A 0 c] w fun e w' => e = .returned (.bool true) ∧ Kp (· = b) w w' := by
  obtain ⟨v0, rfl, hrd, hfar⟩ := hr
  clear h hrd hfar
  go_enter Try.func35, Try.ntmps35
  go_wp2
  obtain ⟨m0, hK⟩ := alloc1 (w := w) #[v0, .int .i64 R] 60
  generalize w.alloc (Obj.cells #[v0, .int .i64 R] 60) = W at m0 hK ⊢
  go_loopw [24] (fun v24 wr => v24 = .int .i64 0 ∧ wr = W) (fun v24 _ => 0)
  case atStart => exact ⟨rfl, rfl⟩
  case round =>
    obtain ⟨rfl, rfl⟩ := hrel
    go_wp2
    go_ret
    exact ⟨rfl, hK.mono (fun _ x => x.elim)⟩
/-- plays, of any script that can be read. -/
theorem plays_rd (h : SlotsIn w g b cap L R) {e0 sv : Value} (hr : RS b w e0 L R) (O : List O12) (hO : ∀ o ∈ O, o.ok) (hl : O.length ≤ 200) (hs : Rd w sv O.length (oCells O)) (hb : 0 < O.length → ∀ k, sv.ownBlock = some k → k ≠ b) :
    Calls Try.prog 35 #[.pointer (some ⟨g, 0, none⟩), e0, sv] w fun e w' => e = .returned (.bool true) ∧ Kp (· = b) w w' := by
  by_cases h0 : O.length = 0
  · obtain ⟨A, c, rfl, -⟩ := hs
    rw [h0]
    exact plays_nil h hr A c
  · obtain ⟨sb, so, c, rfl, h1, h2, h3⟩ := hs.form (by rw [oCells_len]; omega)
    refine plays_any h hr O (fun o ho => (hO o ho).1) sb so c h1 hl (hb (by omega) sb rfl) ?_ h3
    have hx : 0 < O.length := by omega
    have := h3 0 _ (oCells_get O 0 hx).1
    exact World.block_lt_of_cell? _ _ this
set_option maxRecDepth 100000 in
set_option maxHeartbeats 6400000 in
theorem SlotsPlays_calls (p : Int) (wp : (Lit.int .i64 p).wf = true) (r : Int) (wr : (Lit.int .i64 r).wf = true) {sv : Value} (ho : ∃ O : List O12, Rd w sv O.length (oCells O) ∧ ∀ o ∈ O, o.ok) :
    Calls Try.prog 7 #[.int .i64 p, .int .i64 r, sv] w fun e w' => e = .returned (.bool true) ∧ Kp no w w' := by
  obtain ⟨O, hs, hO⟩ := ho
  have hs0 := As.mk hs
  have HO := As.mk hO
  obtain ⟨A, c, rfl, hc1, hc2, -⟩ := hs
  unfold maxLen at hc2
  clear hO
  by_cases hl : O.length ≤ 200
  · have hd : decide (200 < O.length) = false := decide_eq_false (by omega)
    have hd2 : decide ((200 : Int) < (O.length : Int)) = false := decide_eq_false (by omega)
    have HL := As.mk hl
    clear hl hc1 hc2
    go_enter Try.func7, Try.ntmps7
    go_wp2_with fail
    refine awake12.mono ?_
    rintro e w1 ⟨rfl, hK1⟩
    have HS := As.mk (hs0.out.kp hK1 (fun _ _ x => x))
    clear hs0
    go_wp2_with fail
    by_cases hm : 1 ≤ p ∧ p ≤ 64 ∧ 1 ≤ r ∧ r ≤ 8
    · obtain ⟨m1, m2, m3, m4⟩ := hm
      obtain ⟨P, rfl⟩ := Int.eq_ofNat_of_zero_le (show 0 ≤ p by omega)
      obtain ⟨Q, rfl⟩ := Int.eq_ofNat_of_zero_le (show 0 ≤ r by omega)
      refine (SNew_ok P Q (by omega) (by omega) (by omega) (by omega)).mono ?_
      rintro e w2 ⟨g, b, rfl, hS, hg, hb, hK2⟩
      have hlb : 0 < O.length → ∀ k, (Value.slice A O.length c).ownBlock = some k → k ≠ b := fun h0 k hk e => by
        subst e
        obtain ⟨sb, so, c', he, -, -, h3⟩ := HS.out.form (by rw [oCells_len]; omega)
        have h4 := World.block_lt_of_cell? _ _ (h3 0 _ (oCells_get O 0 (by omega)).1)
        injection he with e1
        subst e1
        injection hk with hk
        change sb < w1.heap.size at h4
        change sb = k at hk
        omega
      have hwb : w.heap.size ≤ b := by have := hK1.size; omega
      replace HS := As.mk (HS.out.kp hK2 (fun _ _ x => x))
      replace hK1 := hK1.trans hK2
      have q1 : decide ((P : Int) < 1) = false := decide_eq_false (by omega)
      have q2 : decide ((64 : Int) < (P : Int)) = false := decide_eq_false (by omega)
      have q3 : decide ((Q : Int) < 1) = false := decide_eq_false (by omega)
      have q4 : decide ((8 : Int) < (Q : Int)) = false := decide_eq_false (by omega)
      have HM := As.mk (And.intro m1 (And.intro m2 (And.intro m3 m4)))
      clear m1 m2 m3 m4 hK2
      go_wp2_with fail
      refine (RNew b P (by have := HM.out; omega) hS.blt).mono ?_
      rintro e w3 ⟨vv, rfl, hr, hK3⟩
      replace HS := As.mk (HS.out.kp hK3 (fun _ _ x => x))
      replace hS := hS.kp hK3 (fun x => x) (fun x => x)
      replace hK1 := hK1.trans hK3
      obtain ⟨v0, rfl, hrr⟩ := hr
      go_wp2_with fail
      refine (plays_rd hS ⟨_, rfl, hrr⟩ O HO.out HL.out HS.out hlb).mono ?_
      rintro e w4 ⟨rfl, hK4⟩
      replace hK1 := hK1.new hK4 (fun i hi => by omega)
      clear hrr hS HS hK3 hK4 hlb
      go_wp2
      go_ret
      exact ⟨rfl, hK1⟩
    · have hb : mayB p r = false := decide_eq_false hm
      refine (SNew_no p r hb).mono ?_
      rintro e w2 ⟨rfl, hq⟩
      replace hK1 := hK1.qd hq
      have HM := As.mk hm
      clear hm hb hq HS
      by_cases a1 : p < 1
      · have q1 : decide (p < 1) = true := decide_eq_true a1
        clear a1
        go_wp2
        go_ret
        exact ⟨rfl, hK1⟩
      · have q1 : decide (p < 1) = false := decide_eq_false a1
        by_cases a2 : 64 < p
        · have q2 : decide (64 < p) = true := decide_eq_true a2
          clear a1 a2
          go_wp2
          go_ret
          exact ⟨rfl, hK1⟩
        · have q2 : decide (64 < p) = false := decide_eq_false a2
          by_cases a3 : r < 1
          · have q3 : decide (r < 1) = true := decide_eq_true a3
            clear a1 a2 a3
            go_wp2
            go_ret
            exact ⟨rfl, hK1⟩
          · have q3 : decide (r < 1) = false := decide_eq_false a3
            have q4 : decide (8 < r) = true := decide_eq_true (by have := HM.out; omega)
            clear a1 a2 a3
            go_wp2
            go_ret
            exact ⟨rfl, hK1⟩
  · have hd : decide (200 < O.length) = true := decide_eq_true (by omega)
    have hd2 : decide ((200 : Int) < (O.length : Int)) = true := decide_eq_true (by omega)
    clear hl hc1 hc2
    go_enter Try.func7, Try.ntmps7
    go_wp2_with fail
    refine awake12.mono ?_
    rintro e w1 ⟨rfl, hK1⟩
    go_wp2_with fail
    refine awake12.mono ?_
    rintro e w2 ⟨rfl, hK2⟩
    replace hK1 := hK1.trans hK2
    clear hK2
    go_wp2
    go_ret
    exact ⟨rfl, hK1⟩
end Go.Proofs.Ytmejnhfggmmefaa.H
