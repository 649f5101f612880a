/- Layer 12: what slots' may, right, All and slices.Clone at api.Slot do. No condition. -/
import Derived.Test.YtmejnhfggmmefaaSlC
namespace Go.Proofs.Ytmejnhfggmmefaa.H
open Go.RowKit
set_option linter.unusedVariables false
set_option linter.unusedSimpArgs false
theorem Try.eqnil (t e : TypeId) (h : Try.prog.underlying t = some (.slice e)) (a : Option Addr) (n c : Nat) (w : World) : (binOp .eql t (.slice a n c) (.slice none 0 0)).run Try.prog w = .ok (.bool a.isNone) w := Lib.run_eql_slice_nil w t e a n c 0 0 h
variable {w : World} {g b cap : Nat} {L : List Sl} {R : Nat} {t j : Int}

theorem Try.infoSlot : (Try.prog.info? 119).map (fun i => (i.zero, i.size, i.bytes)) = some (some (.agg #[.int .u64 0, .int .u64 0, .int .i64 0]), 3, 24) := by kernel_rfl

set_option maxRecDepth 100000 in
set_option maxHeartbeats 1600000 in
theorem CloneSlot_nil : Calls Try.prog 78 #[.slice none 0 0] w fun e w' => e = .returned (.slice none 0 0) ∧ QD w w' := by
  have he := Try.eqnil 58 119 Try.underlying58 none 0 0
  go_enter Try.func78, Try.ntmps78
  go_wp2
  go_ret
  exact ⟨rfl, QD.refl _⟩
set_option maxRecDepth 100000 in
set_option maxHeartbeats 1600000 in
theorem CloneSlot_some (ad : Addr) (n c : Nat) (xs : List Value) (hl : xs.length = n * 3) (h1 : ∀ u ∈ xs, u.oneCell' = true) (hn : n ≤ 5864062014805)
    (hx : ∀ j u, xs[j]? = some u → w.cell? (ad.add j) = some u) :
    Calls Try.prog 78 #[.slice (some ad) n c] w fun e w' => ∃ v, e = .returned v ∧ w'.ownsRow w.heap.size 119 3 v n xs ∧ Kp no w w' := by
  obtain ⟨i0, hi, hz0, hz1, hz2⟩ := info_parts Try.infoSlot
  have hX := As.mk hx
  clear hx
  have he := Try.eqnil 58 119 Try.underlying58 (some ad) n c
  go_enter Try.func78, Try.ntmps78
  have hcell : ∀ j u, xs[j]? = some u → (w.alloc (.cells #[] 119)).cell? (ad.add j) = some u := fun j u hj => by
    have := hX.out j u hj
    rw [World.cell?_of_block (Below.heap_alloc w _ _ (World.block_lt_of_cell? _ _ this))]; exact this
  have hC := As.mk hcell
  clear hcell
  go_wp2_with (at_builtin; refine wpList_append_own_at _ (by rfl) _ _ 58 (by rfl) w.heap.size 119 i0 _ 3 24 Try.underlying58 hi hz0 hz1 hz2 (by rfl) (by decide) (.slice (some ⟨w.heap.size, 0, none⟩) 0 0) 0 [] (by rfl) (World.ownsRow_made w #[] 0 (Nat.le_refl _) (Nat.zero_le _) rfl) ad n c xs (by rfl) hl hC.out h1 (by unfold maxLen; omega) (by omega) (by simp) ?_; intro v' w' hown hgrow _ _)
  go_ret
  exact ⟨v', rfl, by simpa using hown, ((Kp.refl no w).alloc _).grown hgrow (fun k hk hlt => by simp [Value.ownBlock] at hk; omega)⟩
/-- Clone of places that can be read. -/
theorem CloneSlot_any {v : Value} {n : Nat} {xs : List Value} (h : Rd w v n xs) (hl : xs.length = n * 3) (h1 : ∀ u ∈ xs, u.oneCell' = true) (hn : n ≤ 5864062014805) :
    Calls Try.prog 78 #[v] w fun e w' => ∃ v, e = .returned v ∧ w'.ownsRow w.heap.size 119 3 v n xs ∧ Kp no w w' := by
  obtain ⟨A, c, rfl, _, _, h3, h4⟩ := h
  cases A with
  | none =>
    obtain ⟨rfl, rfl, rfl⟩ := h3 rfl
    refine CloneSlot_nil.mono ?_
    rintro e w' ⟨rfl, hq⟩
    exact ⟨_, rfl, World.ownsRow_nil _ _ _ _, Kp.of_qd hq⟩
  | some ad => exact CloneSlot_some ad n c xs hl h1 hn (h4 ad rfl)

set_option maxRecDepth 100000 in
set_option maxHeartbeats 1600000 in
theorem All_any (h : SlotsIn w g b cap L R) : Calls Try.prog 41 #[.pointer (some ⟨g, 0, none⟩)] w fun e w' => ∃ v, e = .returned v ∧ w'.ownsRow w.heap.size 119 3 v L.length (slCells L) ∧ Kp no w w' := by
  have hc := h.c0
  have hle := h.le
  have hs := h
  go_enter Try.func41, Try.ntmps41
  go_wp2_with fail
  refine (CloneSlot_any (Rd.of_own hs.bk) (slCells_len L) (slCells_one L) (by omega)).mono ?_
  rintro e w1 ⟨v, rfl, hown, hK⟩
  go_wp2
  go_ret
  exact ⟨v, rfl, hown, hK⟩
set_option maxRecDepth 100000 in
set_option maxHeartbeats 1600000 in
theorem All_nil : Calls Try.prog 41 #[.pointer none] w fun e w' => e = .returned (.slice none 0 0) ∧ QD w w' := by
  go_enter Try.func41, Try.ntmps41
  go_wp2
  go_ret
  exact ⟨rfl, QD.refl _⟩

def mayB (p r : Int) : Bool := decide (1 ≤ p ∧ p ≤ 64 ∧ 1 ≤ r ∧ r ≤ 8)
set_option maxRecDepth 100000 in
set_option maxHeartbeats 1600000 in
theorem may_any (p r : Int) : Calls Try.prog 70 #[.int .i64 p, .int .i64 r] w fun e w' => e = .returned (.bool (mayB p r)) ∧ w' = w := by
  by_cases h1 : 1 ≤ p
  · have d1 : decide (1 ≤ p) = true := decide_eq_true h1
    by_cases h2 : p ≤ 64
    · have d2 : decide (p ≤ 64) = true := decide_eq_true h2
      by_cases h3 : 1 ≤ r
      · have d3 : decide (1 ≤ r) = true := decide_eq_true h3
        have e : mayB p r = decide (r ≤ 8) := by unfold mayB; exact decide_eq_decide.2 (by omega)
        rw [e]
        clear h1 h2 h3 e
        go_enter Try.func70, Try.ntmps70
        go_wp2
        go_ret
        exact ⟨rfl, rfl⟩
      · have d3 : decide (1 ≤ r) = false := decide_eq_false h3
        have e : mayB p r = false := by unfold mayB; exact decide_eq_false (by omega)
        rw [e]
        clear h1 h2 h3 e
        go_enter Try.func70, Try.ntmps70
        go_wp2
        go_ret
        exact ⟨rfl, rfl⟩
    · have d2 : decide (p ≤ 64) = false := decide_eq_false h2
      have e : mayB p r = false := by unfold mayB; exact decide_eq_false (by omega)
      rw [e]
      clear h1 h2 e
      go_enter Try.func70, Try.ntmps70
      go_wp2
      go_ret
      exact ⟨rfl, rfl⟩
  · have d1 : decide (1 ≤ p) = false := decide_eq_false h1
    have e : mayB p r = false := by unfold mayB; exact decide_eq_false (by omega)
    rw [e]
    clear h1 e
    go_enter Try.func70, Try.ntmps70
    go_wp2
    go_ret
    exact ⟨rfl, rfl⟩
set_option maxRecDepth 100000 in
set_option maxHeartbeats 1600000 in
theorem SNew_no (p r : Int) (h : mayB p r = false) : Calls Try.prog 34 #[.int .i64 p, .int .i64 r] w fun e w' => e = .returned (.tuple #[.pointer none, .int .i64 1]) ∧ QD w w' := by
  have H := As.mk h
  clear h
  go_enter Try.func34, Try.ntmps34
  go_wp2_with fail
  refine (may_any p r).mono ?_
  rintro e w1 ⟨rfl, rfl⟩
  rw [H.out]
  go_wp2
  go_ret2
  exact ⟨rfl, QD.refl _⟩

/-- The places while New fills them. -/
def sNewTo (n k : Nat) : List Sl := (List.range n).map fun (i : Nat) => if i < k then ⟨2 * (i : Int), 0, 0⟩ else ⟨0, 0, 0⟩
theorem sNewTo_len (n k : Nat) : (sNewTo n k).length = n := by simp [sNewTo]
theorem sNewTo_zero (n : Nat) : sNewTo n 0 = List.replicate n Sl.z := by
  apply List.ext_getElem?; intro i
  simp [sNewTo, List.getElem?_replicate, List.getElem?_range]
  by_cases h : i < n <;> simp [h, Sl.z]
theorem sNewTo_all (n : Nat) : sNewTo n n = sNew n := by
  unfold sNewTo sNew
  apply List.map_congr_left
  intro i hi
  rw [if_pos (List.mem_range.1 hi)]
theorem sNewTo_step (n k : Nat) (h : k < n) : (sNewTo n k).set k ⟨2 * (k : Int), 0, 0⟩ = sNewTo n (k + 1) := by
  apply List.ext_getElem?; intro i
  simp only [sNewTo, List.getElem?_set, List.getElem?_map, List.length_map, List.length_range]
  by_cases e : k = i
  · subst e; simp [h]
  · rw [if_neg e]
    by_cases hi : i < n
    · simp only [List.getElem?_range hi, Option.map_some]
      by_cases h2 : i < k
      · rw [if_pos h2, if_pos (by omega)]
      · rw [if_neg h2, if_neg (by omega)]
    · simp [List.getElem?_eq_none (l := List.range n) (by simpa using hi)]
theorem sNewTo_at (n k : Nat) (h : k < n) : (sNewTo n k).getD k Sl.z = ⟨0, 0, 0⟩ := by simp [sNewTo, List.getD, h]
theorem sNewTo_ok (n k : Nat) (hn : n ≤ 64) : ∀ x ∈ sNewTo n k, x.ok := by
  intro x hx
  obtain ⟨i, hi, rfl⟩ := List.mem_map.1 hx
  have := List.mem_range.1 hi
  split <;> (unfold Sl.ok; simp; try omega)
theorem slCells_rep (n : Nat) : slCells (List.replicate n Sl.z) = (madeCells #[.int .u64 0, .int .u64 0, .int .i64 0] (n * 3)).toList := by
  apply List.ext_getElem?
  intro j
  have hl := slCells_len (List.replicate n Sl.z)
  rw [List.length_replicate] at hl
  have hm : (madeCells #[.int .u64 0, .int .u64 0, .int .i64 0] (n * 3)).toList.length = n * 3 := by simp [size_madeCells]
  by_cases h : j < n * 3
  · have h3 := slCells_get (List.replicate n Sl.z) (j / 3) (by rw [List.length_replicate]; omega)
    have hz : (List.replicate n Sl.z).getD (j / 3) Sl.z = Sl.z := by
      have h4 : j / 3 < n := by omega
      simp [List.getD, List.getElem?_replicate, h4]
    rw [hz] at h3
    have hr : (madeCells #[.int .u64 0, .int .u64 0, .int .i64 0] (n * 3)).toList[j]? = some ((#[.int .u64 0, .int .u64 0, .int .i64 0] : Array Value)[j % 3]!) := by
      simp [madeCells, h]
    rw [hr]
    have h5 : j % 3 = 0 ∨ j % 3 = 1 ∨ j % 3 = 2 := by omega
    rcases h5 with h5 | h5 | h5
    · rw [h5, show j = j / 3 * 3 from by omega, h3.1]; rfl
    · rw [h5, show j = j / 3 * 3 + 1 from by omega, h3.2.1]; rfl
    · rw [h5, show j = j / 3 * 3 + 2 from by omega, h3.2.2]; rfl
  · rw [List.getElem?_eq_none (by omega), List.getElem?_eq_none (by omega)]

set_option maxRecDepth 100000 in
set_option maxHeartbeats 3200000 in
theorem SNew_ok (p R : Nat) (h1 : 1 ≤ p) (h2 : p ≤ 64) (h3 : 1 ≤ R) (h4 : R ≤ 8) : Calls Try.prog 34 #[.int .i64 p, .int .i64 R] w fun e w' => ∃ g b, e = .returned (.tuple #[.pointer (some ⟨g, 0, none⟩), .int .i64 0]) ∧
    SlotsIn w' g b p (sNew p) R ∧ w.heap.size ≤ g ∧ w.heap.size ≤ b ∧ Kp no w w' := by
  have H := As.mk (show mayB p R = true from decide_eq_true (by omega))
  obtain ⟨i0, hi, hz0, hz1, hz2⟩ := info_parts Try.infoSlot
  obtain ⟨w1, hmk, hown, hgr⟩ := run_makeSlice_full (P := Try.prog) w w.heap.size 58 119 i0 _ 3 Try.underlying58 hi hz0 hz1 .i64 .i64 p (by omega) (by rw [hz2]; omega) (by unfold maxLen; omega) (Nat.le_refl _)
  have hO := As.mk hown
  clear hown hi hz0 hz1 hz2
  go_enter Try.func34, Try.ntmps34
  go_wp2_with fail
  refine (may_any p R).mono ?_
  rintro e w2 ⟨rfl, rfl⟩
  rw [H.out]
  go_wp2
  have hsz := hgr.size
  have hS : SlotsIn (w1.alloc (.cells #[.slice (some ⟨w2.heap.size, 0, none⟩) p p, .int .i64 R] 122)) w1.heap.size w2.heap.size p (sNewTo p 0) R := by
    refine ⟨?_, ?_, by rw [sNewTo_len]; omega, by rw [sNewTo_len]; omega, h4, h3, sNewTo_ok p 0 h2⟩
    · rw [sNewTo_len]; exact heap_alloc_new _ _
    · rw [sNewTo_len, sNewTo_zero, slCells_rep]
      exact or_base (hO.out.alloc _) (Nat.zero_le _)
  have hK : Kp no w2 (w1.alloc (.cells #[.slice (some ⟨w2.heap.size, 0, none⟩) p p, .int .i64 R] 122)) := ((Kp.refl no w2).grown hgr (fun k hk => by cases hk)).alloc _
  generalize w1.alloc (.cells #[.slice (some ⟨w2.heap.size, 0, none⟩) p p, .int .i64 R] 122) = W at hS hK ⊢
  clear hmk hgr hO
  generalize hg : w1.heap.size = g at hS hsz ⊢
  generalize hb : w2.heap.size = b at hS ⊢
  have hbl : w2.heap.size ≤ b := by omega
  clear hg hb
  go_loopw [22] (fun v22 wr => ∃ k : Nat, k ≤ p ∧ v22 = .int .i64 k ∧ SlotsIn wr g b p (sNewTo p k) R ∧ Kp no w2 wr) (fun v22 _ => p - (intOf v22).toNat)
  case atStart => exact ⟨0, Nat.zero_le _, rfl, hS, hK⟩
  case round =>
    clear hS hK
    obtain ⟨k, hk, rfl, hS, hK⟩ := hrel
    by_cases hlt : k < p
    · go_wp2
      refine wp_region_still_tail 10 (by kernel_rfl) (by kernel_rfl) ?_
      generalize hq : ({ wr with drawn := wr.drawn + 1 } : World) = w3
      replace hq : QD wr w3 := ⟨1, hq.symm⟩
      replace hK := hK.qd hq
      replace hS := hS.qd hq
      clear hq
      have hlen := sNewTo_len p k
      have c0 := hS.c0
      rw [hlen] at c0
      have c1 := (hS.cell (i := k) (by omega)).1
      have f0 := hS.fz (k * 3)
      have hw : IntKind.u64.wrap (k : Int) = (k : Int) := by rw [IntKind.wrap_u64]; omega
      have hHl := As.mk hlen
      have hnn : (0 : Int) ≤ (k : Int) := by omega
      have hlt2 : (k : Int) < (p : Int) := by omega
      have hfr : (k : Int) < 9223372036854775808 := by omega
      clear hlen
      simp only [List.take_succ_cons, List.take_zero, List.drop_succ_cons, List.drop_zero]
      repeat still_step
      still_call (free_ok _ _ hnn hfr)
      repeat still_step
      refine wpStill_nil ?_
      go_wp2
      have hf := hS.put0 (i := k) (by rw [sNewTo_len]; exact hlt) (s := 2 * (k : Int)) (by omega) (by omega)
      rw [sNewTo_at p k hlt, sNewTo_step p k hlt] at hf
      exact ⟨⟨k + 1, by omega, by go_num, hf, hK.setNew _ hbl _⟩, by simp [intOf]; omega⟩
    · go_wp2
      go_ret2
      have : k = p := by omega
      subst this
      rw [sNewTo_all] at hS
      exact ⟨g, b, rfl, hS, hsz, hbl, hK⟩
end Go.Proofs.Ytmejnhfggmmefaa.H
