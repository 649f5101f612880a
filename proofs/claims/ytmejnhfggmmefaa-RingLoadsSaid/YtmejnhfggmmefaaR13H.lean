/- Layer 13's reference: place. No condition. -/
import Derived.Test.YtmejnhfggmmefaaL13E
import Derived.Test.YtmejnhfggmmefaaSeqQ
namespace Go.Proofs.Ytmejnhfggmmefaa.H
open Go.RowKit
set_option linter.unusedVariables false
set_option linter.unusedSimpArgs false
variable {w : World}

set_option maxRecDepth 100000 in
set_option maxHeartbeats 6400000 in
theorem RPlace_held (s v : Int) (l : Nat) (hx0 : 0 ≤ s) (hx1 : s < 18446744073709551616) (hl : l < 256) (hp : s % 2 = 1) (T c : Int) (H : List Int) (h8 : H.length ≤ 8) (ab ao ch : Nat) (hcells : ∀ k, k < H.length → w.cell? ⟨ab, ao + k, none⟩ = some (.int .u64 (H.getD k 0))) :
    Calls Try.prog 89 #[.agg #[.int .u64 s, .int .u64 v, .int .i64 l], .int .u64 c, .int .u64 T, .slice (some ⟨ab, ao, none⟩) H.length ch] w fun e w' => e = .returned (.bool (standB ⟨s, v, l⟩ T c H)) ∧ Kp no w w' := by
  have hKW : Kp no w (w.alloc (.cells #[.int .u64 s, .int .u64 v, .int .i64 l] 119)) := (Kp.refl no w).alloc _
  have HS := As.mk (show standB ⟨s, v, l⟩ T c H = (decide (s / 2 < T) && (List.range H.length).all fun (j : Nat) => bitOf l j || decide (s / 2 < H.getD j 0)) from by unfold standB; rw [if_pos hp])
  have ht1 : Int.tdiv s 2 = s / 2 := Int.tdiv_eq_ediv_of_nonneg hx0
  have ht3 : Int.tmod s 2 = s % 2 := Int.tmod_eq_emod_of_nonneg hx0
  have hw2 : IntKind.u64.wrap (s / 2) = s / 2 := by rw [IntKind.wrap_u64]; omega
  have HC := As.mk (show ∀ k, k < H.length → (w.alloc (.cells #[.int .u64 s, .int .u64 v, .int .i64 l] 119)).cell? ⟨ab, ao + k, none⟩ = some (.int .u64 (H.getD k 0)) from fun k hk => by have h := hcells k hk; rw [World.cell?_of_block (hKW.block ab (World.block_lt_of_cell? _ _ h) (fun x => x))]; exact h)
  clear hcells
  have HL := As.mk hl
  by_cases h1 : s / 2 < T
  · have d1 : decide (T ≤ s / 2) = false := decide_eq_false (by omega)
    have D1 := As.mk (decide_eq_true h1)
    clear h1 hx1 hl
    go_enter Try.func89, Try.ntmps89
    go_wp2
    have cs : (w.alloc (.cells #[.int .u64 s, .int .u64 v, .int .i64 l] 119)).cell? ⟨w.heap.size, 0, none⟩ = some (.int .u64 s) := bk_cell (heap_alloc_new _ _) 0
    generalize w.alloc (.cells #[.int .u64 s, .int .u64 v, .int .i64 l] 119) = W at hKW HC cs ⊢
    generalize w.heap.size = n0 at cs ⊢
    go_loop [10, 11] (fun v10 v11 => ∃ k : Nat, k ≤ H.length ∧ v11 = .int .i64 k ∧ v10 = .int .i64 ((l / 2 ^ k : Nat) : Int) ∧ As (∀ i : Nat, i < k → (bitOf l i || decide (s / 2 < H.getD i 0)) = true)) (fun _ v11 => H.length - (intOf v11).toNat)
    case atStart => exact ⟨0, Nat.zero_le _, rfl, by simp, ⟨fun i hi => by omega⟩⟩
    case round =>
      obtain ⟨k, hk, rfl, rfl, hA⟩ := hrel
      by_cases hlt : k < H.length
      · have hc := HC.out k hlt
        generalize hq : H.getD k 0 = q at hc
        have HQ := As.mk hq
        clear hq
        have hlt2 : (k : Int) < (H.length : Int) := by omega
        have hnn : (0 : Int) ≤ (k : Int) := by omega
        have hle : l / 2 ^ k ≤ l := Nat.div_le_self _ _
        have HN := As.mk (show l / 2 ^ (k + 1) = l / 2 ^ k / 2 from by rw [Nat.pow_succ, Nat.div_div_eq_div_mul])
        have HB := As.mk (show bitOf l k = (((l / 2 ^ k : Nat) : Int) % 2 == 1) from by unfold bitOf; simp)
        have hle2 : l / 2 ^ k < 256 := by have := HL.out; omega
        clear hle
        generalize l / 2 ^ k = u at hle2 HN HB ⊢
        have e1 : Int.tdiv (u : Int) 2 = ((u / 2 : Nat) : Int) := by rw [Int.tdiv_eq_ediv_of_nonneg (by omega)]; simp
        have e2 : wrap64 ((u / 2 : Nat) : Int) = ((u / 2 : Nat) : Int) := by unfold wrap64; omega
        have e3 : Int.tmod (u : Int) 2 = (u : Int) % 2 := Int.tmod_eq_emod_of_nonneg (by omega)
        by_cases hb : (u : Int) % 2 = 1
        · have hA2 : As (∀ i : Nat, i < k + 1 → (bitOf l i || decide (s / 2 < H.getD i 0)) = true) := ⟨fun i hi => by
            by_cases e : i = k
            · rw [e, HB.out, hb]; rfl
            · exact hA.out i (by omega)⟩
          clear hA hle2
          as_aux_lemma =>
            go_wp2
            exact ⟨⟨k + 1, by omega, by go_num, by rw [HN.out]; have := e2; simpa using this, hA2⟩, by simp [intOf]; omega⟩
        · have hb0 : (u : Int) % 2 = 0 := by rcases Int.emod_two_eq (u : Int) with h | h; exact h; exact absurd h hb
          by_cases hle : q ≤ s / 2
          · have hd : decide (q ≤ s / 2) = true := decide_eq_true hle
            have hF : As (standB ⟨s, v, l⟩ T c H = false) := ⟨by
              rw [HS.out]
              have : ((List.range H.length).all fun (j : Nat) => bitOf l j || decide (s / 2 < H.getD j 0)) = false := by
                rw [List.all_eq_false]
                refine ⟨k, List.mem_range.2 hlt, ?_⟩
                rw [HB.out, hb0, HQ.out, decide_eq_false (by omega)]; decide
              rw [this, Bool.and_false]⟩
            clear hb hA hle hle2
            as_aux_lemma =>
              go_wp2
              go_ret
              exact ⟨by rw [hF.out]; rfl, hKW⟩
          · have hd : decide (q ≤ s / 2) = false := decide_eq_false hle
            have hA2 : As (∀ i : Nat, i < k + 1 → (bitOf l i || decide (s / 2 < H.getD i 0)) = true) := ⟨fun i hi => by
              by_cases e : i = k
              · rw [e, HQ.out, decide_eq_true (by omega), Bool.or_true]
              · exact hA.out i (by omega)⟩
            clear hb hA hle hle2
            as_aux_lemma =>
              go_wp2
              exact ⟨⟨k + 1, by omega, by go_num, by rw [HN.out]; have := e2; simpa using this, hA2⟩, by simp [intOf]; omega⟩
      · have hF : As (standB ⟨s, v, l⟩ T c H = true) := ⟨by
          rw [HS.out]
          rw [D1.out, Bool.true_and, List.all_eq_true]
          intro i hi
          exact hA.out i (by have := List.mem_range.1 hi; omega)⟩
        clear hA
        generalize l / 2 ^ k = u
        as_aux_lemma =>
          go_wp2
          go_ret
          exact ⟨by rw [hF.out]; rfl, hKW⟩
  · have d1 : decide (T ≤ s / 2) = true := decide_eq_true (by omega)
    have hF : As (standB ⟨s, v, l⟩ T c H = false) := ⟨by rw [HS.out, decide_eq_false h1, Bool.false_and]⟩
    clear h1 hx1 hl HC
    go_enter Try.func89, Try.ntmps89
    go_wp2
    go_ret
    exact ⟨by rw [hF.out]; rfl, hKW⟩

set_option maxRecDepth 100000 in
set_option maxHeartbeats 6400000 in
theorem RPlace_free (s v : Int) (l : Nat) (hx0 : 0 ≤ s) (hx1 : s < 18446744073709551616) (hl : l < 256) (hp : s % 2 = 0) (T c : Int) (hc0 : 0 ≤ c) (hc1 : c < 18446744073709551616) (H : List Int) (h8 : H.length ≤ 8) (ab ao ch : Nat) (hcells : ∀ k, k < H.length → w.cell? ⟨ab, ao + k, none⟩ = some (.int .u64 (H.getD k 0))) :
    Calls Try.prog 89 #[.agg #[.int .u64 s, .int .u64 v, .int .i64 l], .int .u64 c, .int .u64 T, .slice (some ⟨ab, ao, none⟩) H.length ch] w fun e w' => e = .returned (.bool (standB ⟨s, v, l⟩ T c H)) ∧ Kp no w w' := by
  have hKW : Kp no w (w.alloc (.cells #[.int .u64 s, .int .u64 v, .int .i64 l] 119)) := (Kp.refl no w).alloc _
  have HS := As.mk (show standB ⟨s, v, l⟩ T c H = ((List.range H.length).all fun (j : Nat) => !(decide (c ≤ s / 2) && decide (H.getD j 0 ≤ s / 2 - c))) from by unfold standB; rw [if_neg (by show ¬ s % 2 = 1; omega)])
  have ht1 : Int.tdiv s 2 = s / 2 := Int.tdiv_eq_ediv_of_nonneg hx0
  have ht3 : Int.tmod s 2 = s % 2 := Int.tmod_eq_emod_of_nonneg hx0
  have hw2 : IntKind.u64.wrap (s / 2) = s / 2 := by rw [IntKind.wrap_u64]; omega
  have HC := As.mk (show ∀ k, k < H.length → (w.alloc (.cells #[.int .u64 s, .int .u64 v, .int .i64 l] 119)).cell? ⟨ab, ao + k, none⟩ = some (.int .u64 (H.getD k 0)) from fun k hk => by have h := hcells k hk; rw [World.cell?_of_block (hKW.block ab (World.block_lt_of_cell? _ _ h) (fun x => x))]; exact h)
  clear hcells
  have HL := As.mk hl
  have hw3 : c ≤ s / 2 → IntKind.u64.wrap (s / 2 - c) = s / 2 - c := fun h => by rw [IntKind.wrap_u64]; omega
  have HW3 := As.mk hw3
  clear hw3 hc0 hc1 hx1 hl
  go_enter Try.func89, Try.ntmps89
  go_wp2
  have cs : (w.alloc (.cells #[.int .u64 s, .int .u64 v, .int .i64 l] 119)).cell? ⟨w.heap.size, 0, none⟩ = some (.int .u64 s) := bk_cell (heap_alloc_new _ _) 0
  generalize w.alloc (.cells #[.int .u64 s, .int .u64 v, .int .i64 l] 119) = W at hKW HC cs ⊢
  generalize w.heap.size = n0 at cs ⊢
  go_loop [10, 11] (fun v10 v11 => ∃ k : Nat, k ≤ H.length ∧ v11 = .int .i64 k ∧ v10 = .int .i64 ((l / 2 ^ k : Nat) : Int) ∧ As (∀ i : Nat, i < k → (!(decide (c ≤ s / 2) && decide (H.getD i 0 ≤ s / 2 - c))) = true)) (fun _ v11 => H.length - (intOf v11).toNat)
  case atStart => exact ⟨0, Nat.zero_le _, rfl, by simp, ⟨fun i hi => by omega⟩⟩
  case round =>
    obtain ⟨k, hk, rfl, rfl, hA⟩ := hrel
    by_cases hlt : k < H.length
    · have hc := HC.out k hlt
      generalize hq : H.getD k 0 = q at hc
      have HQ := As.mk hq
      clear hq
      have hlt2 : (k : Int) < (H.length : Int) := by omega
      have hnn : (0 : Int) ≤ (k : Int) := by omega
      have hle : l / 2 ^ k ≤ l := Nat.div_le_self _ _
      have HN := As.mk (show l / 2 ^ (k + 1) = l / 2 ^ k / 2 from by rw [Nat.pow_succ, Nat.div_div_eq_div_mul])
      have hle2 : l / 2 ^ k < 256 := by have := HL.out; omega
      clear hle
      generalize l / 2 ^ k = u at hle2 HN ⊢
      have e1 : Int.tdiv (u : Int) 2 = ((u / 2 : Nat) : Int) := by rw [Int.tdiv_eq_ediv_of_nonneg (by omega)]; simp
      have e2 : wrap64 ((u / 2 : Nat) : Int) = ((u / 2 : Nat) : Int) := by unfold wrap64; omega
      clear hle2
      by_cases h1 : c ≤ s / 2
      · have d1 : decide (c ≤ s / 2) = true := decide_eq_true h1
        have hw3 := HW3.out h1
        clear h1
        by_cases hle : q ≤ s / 2 - c
        · have hd : decide (q ≤ s / 2 - c) = true := decide_eq_true hle
          have hF : As (standB ⟨s, v, l⟩ T c H = false) := ⟨by
            rw [HS.out, List.all_eq_false]
            exact ⟨k, List.mem_range.2 hlt, by rw [d1, HQ.out, hd]; decide⟩⟩
          clear hA hle
          as_aux_lemma =>
            go_wp2
            go_ret
            exact ⟨by rw [hF.out]; rfl, hKW⟩
        · have hd : decide (q ≤ s / 2 - c) = false := decide_eq_false hle
          have hA2 : As (∀ i : Nat, i < k + 1 → (!(decide (c ≤ s / 2) && decide (H.getD i 0 ≤ s / 2 - c))) = true) := ⟨fun i hi => by
            by_cases e : i = k
            · rw [e, HQ.out, hd, Bool.and_false]; rfl
            · exact hA.out i (by omega)⟩
          clear hA hle
          as_aux_lemma =>
            go_wp2
            exact ⟨⟨k + 1, by omega, by go_num, by rw [HN.out]; have := e2; simpa using this, hA2⟩, by simp [intOf]; omega⟩
      · have d1 : decide (c ≤ s / 2) = false := decide_eq_false h1
        have hA2 : As (∀ i : Nat, i < k + 1 → (!(decide (c ≤ s / 2) && decide (H.getD i 0 ≤ s / 2 - c))) = true) := ⟨fun i hi => by rw [d1, Bool.false_and]; rfl⟩
        clear hA h1
        as_aux_lemma =>
          go_wp2
          exact ⟨⟨k + 1, by omega, by go_num, by rw [HN.out]; have := e2; simpa using this, hA2⟩, by simp [intOf]; omega⟩
    · have hF : As (standB ⟨s, v, l⟩ T c H = true) := ⟨by
        rw [HS.out, List.all_eq_true]
        intro i hi
        exact hA.out i (by have := List.mem_range.1 hi; omega)⟩
      clear hA
      generalize l / 2 ^ k = u
      as_aux_lemma =>
        go_wp2
        go_ret
        exact ⟨by rw [hF.out]; rfl, hKW⟩
theorem RPlace_any (x : Sl) (hx : x.ok) (T c : Int) (hc0 : 0 ≤ c) (hc1 : c < 18446744073709551616) (H : List Int) (h8 : H.length ≤ 8) (ab ao ch : Nat) (hcells : ∀ k, k < H.length → w.cell? ⟨ab, ao + k, none⟩ = some (.int .u64 (H.getD k 0))) :
    Calls Try.prog 89 #[.agg #[.int .u64 x.st, .int .u64 x.v, .int .i64 x.left], .int .u64 c, .int .u64 T, .slice (some ⟨ab, ao, none⟩) H.length ch] w fun e w' => e = .returned (.bool (standB x T c H)) ∧ Kp no w w' := by
  obtain ⟨s, v, l⟩ := x
  obtain ⟨h0, h1, h2, h3⟩ := hx
  obtain ⟨l, rfl⟩ := Int.eq_ofNat_of_zero_le h2
  change (l : Int) < _ at h3
  by_cases hp : s % 2 = 1
  · exact RPlace_held s v l h0 h1 (by omega) hp T c H h8 ab ao ch hcells
  · exact RPlace_free s v l h0 h1 (by omega) (by omega) T c hc0 hc1 H h8 ab ao ch hcells
end Go.Proofs.Ytmejnhfggmmefaa.H
