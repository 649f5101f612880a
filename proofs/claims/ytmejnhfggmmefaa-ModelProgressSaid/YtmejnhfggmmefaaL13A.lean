/- Layer 13's statements: rings that are new; do; awake, in whatever world, is true; RingNil. No condition. -/
import Derived.Test.YtmejnhfggmmefaaRgH
import Derived.Test.YtmejnhfggmmefaaL12P
namespace Go.Proofs.Ytmejnhfggmmefaa.H
open Go.RowKit
set_option linter.unusedVariables false
set_option linter.unusedSimpArgs false
variable {w : World}

/-- A ring that was made behind a world; what was there is as it was. -/
structure RgNew (w0 w : World) (B : RB) (r : Rg) : Prop where
  i : RingIn w B r
  n : ∀ k, B.own k → w0.heap.size ≤ k
  K : Kp no w0 w
theorem RgNew.kp {w0 w w' : World} {B : RB} {r : Rg} (h : RgNew w0 w B r) (k : Kp no w w') : RgNew w0 w' B r := ⟨h.i.kp k (fun _ _ x => x), h.n, h.K.trans k⟩
theorem RgNew.qd {w0 w w' : World} {B : RB} {r : Rg} (h : RgNew w0 w B r) (k : QD w w') : RgNew w0 w' B r := h.kp (Kp.of_qd k)
section
variable {w0 w : World} {B : RB} {r : Rg} {t v j : Int}
theorem Claim_new (h : RgNew w0 w B r) (hb : r.tail + 1 < 9223372036854775808) : Calls Try.prog 50 #[.pointer (some ⟨B.g, 0, none⟩)] w fun e w' => e = .returned (.tuple #[.int .u64 (rClaim r).1, .int .i64 (rClaim r).2.1]) ∧ RgNew w0 w' B (rClaim r).2.2 ∧ Kp B.own w w' := by
  refine (Claim_any h.i hb).mono ?_
  rintro e w' ⟨rfl, h1, h2⟩
  exact ⟨rfl, ⟨h1, h.n, h.K.new h2 h.n⟩, h2⟩
theorem Publish_new (h : RgNew w0 w B r) (ht : 0 ≤ t) : Calls Try.prog 51 #[.pointer (some ⟨B.g, 0, none⟩), .int .u64 t, .int .u64 v] w fun e w' => e = .returned (.int .i64 (rPublish r t v).1) ∧ RgNew w0 w' B (rPublish r t v).2 ∧ Kp B.own w w' := by
  refine (Publish_any h.i ht).mono ?_
  rintro e w' ⟨rfl, h1, h2⟩
  exact ⟨rfl, ⟨h1, h.n, h.K.new h2 h.n⟩, h2⟩
theorem Take_new (h : RgNew w0 w B r) (j : Int) : Calls Try.prog 53 #[.pointer (some ⟨B.g, 0, none⟩), .int .i64 j] w fun e w' => e = .returned (.tuple #[.int .u64 (rTake r j).1, .int .i64 (rTake r j).2.1]) ∧ RgNew w0 w' B (rTake r j).2.2 ∧ Kp B.own w w' := by
  refine (Take_any h.i j).mono ?_
  rintro e w' ⟨rfl, h1, h2⟩
  exact ⟨rfl, ⟨h1, h.n, h.K.new h2 h.n⟩, h2⟩
theorem Release_new (h : RgNew w0 w B r) (ht : 0 ≤ t) (j : Int) : Calls Try.prog 54 #[.pointer (some ⟨B.g, 0, none⟩), .int .i64 j, .int .u64 t] w fun e w' => e = .returned (.tuple #[.int .u64 (rRelease r j t).1, .int .i64 (rRelease r j t).2.1]) ∧ RgNew w0 w' B (rRelease r j t).2.2 ∧ Kp B.own w w' := by
  refine (Release_any h.i ht j).mono ?_
  rintro e w' ⟨rfl, h1, h2⟩
  exact ⟨rfl, ⟨h1, h.n, h.K.new h2 h.n⟩, h2⟩
theorem Close_new (h : RgNew w0 w B r) : Calls Try.prog 52 #[.pointer (some ⟨B.g, 0, none⟩)] w fun e w' => e = .returned (.int .i64 0) ∧ RgNew w0 w' B { r with closed := true } ∧ Kp B.own w w' := by
  refine (Close_any h.i).mono ?_
  rintro e w' ⟨rfl, h1, h2⟩
  exact ⟨rfl, ⟨h1, h.n, h.K.new h2 h.n⟩, h2⟩
theorem RNew_new (k : Int) (p q : Nat) (h : rMay k p q = true) (hK : Kp no w0 w) : Calls Try.prog 47 #[.agg #[.int .i64 k, .int .i64 p, .int .i64 q]] w fun e w' => ∃ B, e = .returned (.tuple #[.pointer (some ⟨B.g, 0, none⟩), .int .i64 0]) ∧ RgNew w0 w' B ⟨0, List.replicate q 0, false, sNew p⟩ ∧ (∀ i, B.own i → w.heap.size ≤ i) ∧ Kp no w w' := by
  refine (RNew_ok k p q h).mono ?_
  rintro e w' ⟨B, rfl, h1, h2, h3⟩
  have hs := hK.size
  exact ⟨B, rfl, ⟨h1, fun i hi => by have := h2 i hi; omega, hK.trans h3⟩, h2, h3⟩
end
/-- A call of a script. -/
def kd (o : O12) : Int := IntKind.u64.wrap o.k % 5
def rDo (r : Rg) (o : O12) : Int × Int × Rg :=
  if kd o = 0 then rClaim r else if kd o = 1 then (0, (rPublish r o.t o.v).1, (rPublish r o.t o.v).2) else if kd o = 2 then rTake r o.j else if kd o = 3 then rRelease r o.j o.t else (0, 0, { r with closed := true })
theorem kd_le (o : O12) : 0 ≤ kd o ∧ kd o < 5 := by unfold kd; omega
theorem kd_tmod (o : O12) : Int.tmod (IntKind.u64.wrap o.k) 5 = kd o := by
  unfold kd; exact Int.tmod_eq_emod_of_nonneg (by rw [IntKind.wrap_u64]; omega)
theorem box1 {w : World} (cs : Array Value) (T : TypeId) : (w.alloc (.cells cs T)).heap[w.heap.size]? = some (.cells cs T (0, 0)) ∧ Kp no w (w.alloc (.cells cs T)) := ⟨heap_alloc_new w _, (Kp.refl no w).alloc _⟩

set_option maxRecDepth 100000 in
set_option maxHeartbeats 6400000 in
theorem do_any {w0 w : World} {B : RB} {r : Rg} (h : RgNew w0 w B r) (hb : r.tail + 1 < 9223372036854775808) (k j t v : Int) (ht : 0 ≤ t) : Calls Try.prog 48 #[.pointer (some ⟨B.g, 0, none⟩), .agg #[.int .i64 k, .int .i64 j, .int .u64 t, .int .u64 v]] w fun e w' =>
    e = .returned (.tuple #[.int .u64 (rDo r ⟨k, j, t, v⟩).1, .int .i64 (rDo r ⟨k, j, t, v⟩).2.1]) ∧ RgNew w0 w' B (rDo r ⟨k, j, t, v⟩).2.2 ∧ Kp B.own w w' := by
  have hk := kd_tmod ⟨k, j, t, v⟩
  change Int.tmod (IntKind.u64.wrap k) 5 = _ at hk
  have hle := kd_le ⟨k, j, t, v⟩
  unfold rDo
  generalize kd ⟨k, j, t, v⟩ = q at hk hle ⊢
  dsimp only
  have H := As.mk h
  rcases (show q = 0 ∨ q = 1 ∨ q = 2 ∨ q = 3 ∨ q = 4 by omega) with rfl | rfl | rfl | rfl | rfl
  · rw [if_pos rfl]
    clear h hle
    go_enter Try.func48, Try.ntmps48
    go_wp2_with fail
    obtain ⟨m0, hK⟩ := box1 (w := w) #[.int .i64 k, .int .i64 j, .int .u64 t, .int .u64 v] 89
    have H1 := H.out.kp hK
    refine (Claim_new H1 hb).mono ?_
    rintro e w2 ⟨rfl, h2, hk2⟩
    have hk3 := (hK.mono (S' := B.own) (fun _ x => x.elim)).trans hk2
    clear hk H m0 hK H1 hk2
    go_wp2
    go_ret2
    exact ⟨rfl, h2, hk3⟩
  · rw [if_neg (by decide), if_pos rfl]
    clear h hle
    go_enter Try.func48, Try.ntmps48
    go_wp2_with fail
    obtain ⟨m0, hK⟩ := box1 (w := w) #[.int .i64 k, .int .i64 j, .int .u64 t, .int .u64 v] 89
    have H1 := H.out.kp hK
    refine (Publish_new H1 ht).mono ?_
    rintro e w2 ⟨rfl, h2, hk2⟩
    have hk3 := (hK.mono (S' := B.own) (fun _ x => x.elim)).trans hk2
    clear hk H m0 hK H1 hk2
    go_wp2
    go_ret2
    exact ⟨rfl, h2, hk3⟩
  · rw [if_neg (by decide), if_neg (by decide), if_pos rfl]
    clear h hle
    go_enter Try.func48, Try.ntmps48
    go_wp2_with fail
    obtain ⟨m0, hK⟩ := box1 (w := w) #[.int .i64 k, .int .i64 j, .int .u64 t, .int .u64 v] 89
    have H1 := H.out.kp hK
    refine (Take_new H1 j).mono ?_
    rintro e w2 ⟨rfl, h2, hk2⟩
    have hk3 := (hK.mono (S' := B.own) (fun _ x => x.elim)).trans hk2
    clear hk H m0 hK H1 hk2
    go_wp2
    go_ret2
    exact ⟨rfl, h2, hk3⟩
  · rw [if_neg (by decide), if_neg (by decide), if_neg (by decide), if_pos rfl]
    clear h hle
    go_enter Try.func48, Try.ntmps48
    go_wp2_with fail
    obtain ⟨m0, hK⟩ := box1 (w := w) #[.int .i64 k, .int .i64 j, .int .u64 t, .int .u64 v] 89
    have H1 := H.out.kp hK
    refine (Release_new H1 ht j).mono ?_
    rintro e w2 ⟨rfl, h2, hk2⟩
    have hk3 := (hK.mono (S' := B.own) (fun _ x => x.elim)).trans hk2
    clear hk H m0 hK H1 hk2
    go_wp2
    go_ret2
    exact ⟨rfl, h2, hk3⟩
  · rw [if_neg (by decide), if_neg (by decide), if_neg (by decide), if_neg (by decide)]
    clear h hle
    go_enter Try.func48, Try.ntmps48
    go_wp2_with fail
    obtain ⟨m0, hK⟩ := box1 (w := w) #[.int .i64 k, .int .i64 j, .int .u64 t, .int .u64 v] 89
    have H1 := H.out.kp hK
    refine (Close_new H1).mono ?_
    rintro e w2 ⟨rfl, h2, hk2⟩
    have hk3 := (hK.mono (S' := B.own) (fun _ x => x.elim)).trans hk2
    clear hk H m0 hK H1 hk2
    go_wp2
    go_ret2
    exact ⟨rfl, h2, hk3⟩

set_option maxRecDepth 100000 in
set_option maxHeartbeats 6400000 in
theorem do_nil {w : World} (k j t v : Int) : Calls Try.prog 48 #[.pointer none, .agg #[.int .i64 k, .int .i64 j, .int .u64 t, .int .u64 v]] w fun e w' => e = .returned (.tuple #[.int .u64 0, .int .i64 15]) ∧ Kp no w w' := by
  have hk := kd_tmod ⟨k, j, t, v⟩
  change Int.tmod (IntKind.u64.wrap k) 5 = _ at hk
  have hle := kd_le ⟨k, j, t, v⟩
  generalize kd ⟨k, j, t, v⟩ = q at hk hle ⊢
  rcases (show q = 0 ∨ q = 1 ∨ q = 2 ∨ q = 3 ∨ q = 4 by omega) with rfl | rfl | rfl | rfl | rfl
  · clear hle
    go_enter Try.func48, Try.ntmps48
    go_wp2_with fail
    refine Claim_nil.mono ?_
    rintro e w2 ⟨rfl, hq⟩
    have hK := ((Kp.refl no w).alloc (.cells #[.int .i64 k, .int .i64 j, .int .u64 t, .int .u64 v] 89)).qd hq
    clear hk hq
    go_wp2
    go_ret2
    exact ⟨rfl, hK⟩
  · clear hle
    go_enter Try.func48, Try.ntmps48
    go_wp2_with fail
    refine Publish_nil.mono ?_
    rintro e w2 ⟨rfl, hq⟩
    have hK := ((Kp.refl no w).alloc (.cells #[.int .i64 k, .int .i64 j, .int .u64 t, .int .u64 v] 89)).qd hq
    clear hk hq
    go_wp2
    go_ret2
    exact ⟨rfl, hK⟩
  · clear hle
    go_enter Try.func48, Try.ntmps48
    go_wp2_with fail
    refine Take_nil.mono ?_
    rintro e w2 ⟨rfl, hq⟩
    have hK := ((Kp.refl no w).alloc (.cells #[.int .i64 k, .int .i64 j, .int .u64 t, .int .u64 v] 89)).qd hq
    clear hk hq
    go_wp2
    go_ret2
    exact ⟨rfl, hK⟩
  · clear hle
    go_enter Try.func48, Try.ntmps48
    go_wp2_with fail
    refine Release_nil.mono ?_
    rintro e w2 ⟨rfl, hq⟩
    have hK := ((Kp.refl no w).alloc (.cells #[.int .i64 k, .int .i64 j, .int .u64 t, .int .u64 v] 89)).qd hq
    clear hk hq
    go_wp2
    go_ret2
    exact ⟨rfl, hK⟩
  · clear hle
    go_enter Try.func48, Try.ntmps48
    go_wp2_with fail
    refine Close_nil.mono ?_
    rintro e w2 ⟨rfl, hq⟩
    have hK := ((Kp.refl no w).alloc (.cells #[.int .i64 k, .int .i64 j, .int .u64 t, .int .u64 v] 89)).qd hq
    clear hk hq
    go_wp2
    go_ret2
    exact ⟨rfl, hK⟩

def ar0 : Rg := ⟨0, List.replicate 1 0, false, sNew 1⟩
def ar1 : Rg := ⟨1, [0], false, [⟨0, 0, 0⟩]⟩
def ar2 : Rg := ⟨1, [1], false, [⟨0, 0, 0⟩]⟩
def ar3 : Rg := ⟨1, [1], false, [⟨1, 7, 1⟩]⟩
def ar4 : Rg := ⟨2, [1], false, [⟨1, 7, 1⟩]⟩
def ar5 : Rg := ⟨2, [1], false, [⟨2, 0, 0⟩]⟩
def ar6 : Rg := ⟨2, [1], false, [⟨3, 8, 1⟩]⟩
def ar7 : Rg := ⟨2, [1], true, [⟨3, 8, 1⟩]⟩
theorem ar_1 : rClaim ar0 = (0, 0, ar1) := by rfl
theorem ar_2 : rClaim ar1 = (0, 8, ar1) := by rfl
theorem ar_3 : rTake ar1 0 = (0, 0, ar2) := by rfl
theorem ar_4 : rRelease ar2 0 0 = (0, 9, ar2) := by rfl
theorem ar_5 : rPublish ar2 0 7 = (0, ar3) := by rfl
theorem ar_6 : rClaim ar3 = (1, 0, ar4) := by rfl
theorem ar_7 : rPublish ar4 1 8 = (8, ar4) := by rfl
theorem ar_8 : rRelease ar4 0 0 = (7, 0, ar5) := by rfl
theorem ar_9 : rPublish ar5 1 8 = (0, ar6) := by rfl
theorem ar_10 : rClaim ar7 = (0, 10, ar7) := by rfl
theorem ar_l1 : rLoadsB 1 1 1 2 [1] [⟨3, 8, 1⟩] = true := by rfl
theorem ar_l2 : rLoadsB 1 2 1 2 [1] [⟨3, 8, 1⟩] = false := by rfl
set_option maxRecDepth 100000 in
set_option maxHeartbeats 6400000 in
theorem awake13 : Calls Try.prog 46 #[] w fun e w' => e = .returned (.bool true) ∧ Kp no w w' := by
  go_enter Try.func46, Try.ntmps46
  go_wp2_with fail
  refine (RNew_new 1 1 1 (by rfl) (Kp.refl no w)).mono ?_
  rintro e w1 ⟨B, rfl, hR, -, -⟩
  change RgNew w w1 B ar0 at hR
  go_wp2_with fail
  refine (RNew_no 1 1 2 (by rfl)).mono ?_
  rintro e w2 ⟨rfl, hk⟩
  replace hR := hR.kp hk
  clear hk
  go_wp2_with fail
  refine (Claim_new hR (by decide)).mono ?_
  rw [ar_1]
  rintro e w3 ⟨rfl, hR', -⟩
  clear hR
  have hR := hR'
  clear hR'
  go_wp2_with fail
  refine (Claim_new hR (by decide)).mono ?_
  rw [ar_2]
  rintro e w4 ⟨rfl, hR', -⟩
  clear hR
  have hR := hR'
  clear hR'
  go_wp2_with fail
  refine (Take_new hR 0).mono ?_
  rw [ar_3]
  rintro e w5 ⟨rfl, hR', -⟩
  clear hR
  have hR := hR'
  clear hR'
  go_wp2_with fail
  refine (Release_new (t := 0) hR (by decide) 0).mono ?_
  rw [ar_4]
  rintro e w6 ⟨rfl, hR', -⟩
  clear hR
  have hR := hR'
  clear hR'
  go_wp2_with fail
  refine (Publish_new (t := 0) (v := 7) hR (by decide)).mono ?_
  rw [ar_5]
  rintro e w7 ⟨rfl, hR', -⟩
  clear hR
  have hR := hR'
  clear hR'
  go_wp2_with fail
  refine (Claim_new hR (by decide)).mono ?_
  rw [ar_6]
  rintro e w8 ⟨rfl, hR', -⟩
  clear hR
  have hR := hR'
  clear hR'
  go_wp2_with fail
  refine (Publish_new (t := 1) (v := 8) hR (by decide)).mono ?_
  rw [ar_7]
  rintro e w9 ⟨rfl, hR', -⟩
  clear hR
  have hR := hR'
  clear hR'
  go_wp2_with fail
  refine (Release_new (t := 0) hR (by decide) 0).mono ?_
  rw [ar_8]
  rintro e w10 ⟨rfl, hR', -⟩
  clear hR
  have hR := hR'
  clear hR'
  go_wp2_with fail
  refine (Publish_new (t := 1) (v := 8) hR (by decide)).mono ?_
  rw [ar_9]
  rintro e w11 ⟨rfl, hR', -⟩
  clear hR
  have hR := hR'
  clear hR'
  go_wp2_with fail
  refine (Close_new hR).mono ?_
  rintro e w12 ⟨rfl, hR', -⟩
  clear hR
  have hR := hR'
  clear hR'
  change RgNew w w12 B ar7 at hR
  go_wp2_with fail
  refine (Claim_new hR (by decide)).mono ?_
  rw [ar_10]
  rintro e w13 ⟨rfl, hR', -⟩
  clear hR
  have hR := hR'
  clear hR'
  go_wp2_with fail
  refine (State_any hR.i).mono ?_
  rintro e w20 ⟨v1, v2, rfl, o1, o2, hk⟩
  have hK := hR.K.trans hk
  clear hR hk
  obtain ⟨b1, k1, rfl, -⟩ := or_some o1 (by decide)
  obtain ⟨b2, k2, rfl, -⟩ := or_some o2 (by decide)
  unfold stVal
  go_wp2_with fail
  obtain ⟨m0, hk0⟩ := box1 (w := w20) #[.int .u64 2, .slice (some ⟨b1, 0, none⟩) 1 k1, .bool true, .slice (some ⟨b2, 0, none⟩) 1 k2] 92
  have r1 := (Rd.of_own o1).kp hk0 (fun _ _ x => x)
  have r2 := (Rd.of_own o2).kp hk0 (fun _ _ x => x)
  replace hK := hK.trans hk0
  refine (RLoad_any 1 1 1 2 true [1] [⟨3, 8, 1⟩] (by decide) r1 (by decide) r2 (by decide)).mono ?_
  generalize w20.alloc (.cells #[.int .u64 2, .slice (some ⟨b1, 0, none⟩) 1 k1, .bool true, .slice (some ⟨b2, 0, none⟩) 1 k2] 92) = W at m0 hk0 r1 r2 hK ⊢
  generalize w20.heap.size = n0 at m0 ⊢
  rintro e w21 (⟨-, B2, rfl, -, -, hk⟩ | ⟨hl, -, -⟩)
  · have m1 := bk_kp m0 hk (fun x => x)
    have q1 := r1.kp hk (fun _ _ x => x)
    have q2 := r2.kp hk (fun _ _ x => x)
    replace hK := hK.trans hk
    have d0 := bk_cell m1 0
    have d1 := bk_cell m1 1
    have d2 := bk_cell m1 2
    have d3 := bk_cell m1 3
    clear o1 o2 hk0 hk m0 r1 r2
    go_wp2_with fail
    refine (RLoad_any 1 2 1 2 true [1] [⟨3, 8, 1⟩] (by decide) q1 (by decide) q2 (by decide)).mono ?_
    rintro e w22 (⟨hl, -⟩ | ⟨-, rfl, hk⟩)
    · exact absurd (hl.symm.trans ar_l2) (by decide)
    · rw [show rMay 1 2 1 = true from by rfl, if_pos rfl]
      have q1' := q1.kp hk (fun _ _ x => x)
      have m2 := bk_kp m1 hk (fun x => x)
      replace hK := hK.trans hk
      obtain ⟨A1, c1, e1, -, -, -, hc⟩ := q1'
      cases e1
      have e2 := hc _ rfl 0 _ rfl
      change w22.cell? ⟨b1, 0, none⟩ = some (.int .u64 1) at e2
      clear d0 d1 d2 d3 q1 q2 hk m1
      have d0 := bk_cell m2 0
      have d1 := bk_cell m2 1
      clear m2 hc
      go_wp2
      go_ret
      exact ⟨rfl, hK⟩
  · exact absurd (hl.symm.trans ar_l1) (by decide)
end Go.Proofs.Ytmejnhfggmmefaa.H
