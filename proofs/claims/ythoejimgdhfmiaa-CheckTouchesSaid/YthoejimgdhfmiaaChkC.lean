/- Layer 11: Sort and Compact of one number; Touches of the document's example. No condition. -/
import Derived.Test.YthoejimgdhfmiaaChkA
import Derived.Test.YthoejimgdhfmiaaPCheckTellsx4
import Derived.Test.YthoejimgdhfmiaaPCheckTellsx11
import Derived.Test.YthoejimgdhfmiaaSeq
import Derived.Lib.Tables
namespace Go.Proofs.Ythoejimgdhfmiaa.H
open Go.RowKit Go.Proofs.Ythoejimgdhfmiaa.PCheckTells Go.Proofs.YthoejimgdhfmiaaW.PrintWords Go.Proofs.YthoejimgdhfmiaaW.PrintLast Go.Proofs.YthoejimgdhfmiaaW.PrintMore
set_option linter.unusedVariables false
set_option linter.unusedSimpArgs false
variable {w : World}

set_option maxRecDepth 100000 in
theorem len64_1 : Calls Try.prog 51 #[.int .u64 1] w fun e w' => (∃ n, e = .returned (.int .i64 n)) ∧ w' = w := by
  go_enter Try.func51, Try.ntmps51
  go_wp2
  go_ret
  exact ⟨⟨_, rfl⟩, rfl⟩
set_option maxRecDepth 100000 in
theorem len_1 : Calls Try.prog 39 #[.int .u64 1] w fun e w' => (∃ n, e = .returned (.int .i64 n)) ∧ w' = w := by
  go_enter Try.func39, Try.ntmps39
  go_wp2_with fail
  refine len64_1.mono ?_
  rintro e w1 ⟨⟨n, rfl⟩, rfl⟩
  go_wp2
  go_ret
  exact ⟨⟨_, rfl⟩, rfl⟩
set_option maxRecDepth 100000 in
theorem ins_1 (A : Option Addr) (c : Nat) : Calls Try.prog 41 #[.slice A 1 c, .int .i64 0, .int .i64 1] w fun e w' => e = .returned (.tuple #[]) ∧ w' = w := by
  go_enter Try.func41, Try.ntmps41
  go_wp2
  go_loopw [6] (fun v6 wr => v6 = .int .i64 1 ∧ wr = w) (fun _ _ => 0)
  case atStart => exact ⟨rfl, rfl⟩
  case round =>
    obtain ⟨rfl, rfl⟩ := hrel
    go_wp2
    go_end0
    exact ⟨rfl, rfl⟩
set_option maxRecDepth 100000 in
theorem pdq_1 (A : Option Addr) (c : Nat) (n : Int) : Calls Try.prog 38 #[.slice A 1 c, .int .i64 0, .int .i64 1, .int .i64 n] w fun e w' => e = .returned (.tuple #[]) ∧ w' = w := by
  go_enter Try.func38, Try.ntmps38
  go_wp2_with fail
  go_loopw [1, 2] (fun v1 v2 wr => v1 = .int .i64 0 ∧ v2 = .int .i64 1 ∧ wr = w) (fun _ _ _ => 0)
  case atStart => exact ⟨rfl, rfl, rfl⟩
  case round =>
    obtain ⟨rfl, rfl, rfl⟩ := hrel
    go_wp2_with fail
    refine (ins_1 A c).mono ?_
    rintro e w1 ⟨rfl, rfl⟩
    go_wp2
    refine bodyPost_ret (results_none rfl _ _ _) rfl ?_
    exact ⟨rfl, rfl⟩
set_option maxRecDepth 100000 in
theorem sort_1 (A : Option Addr) (c : Nat) : Calls Try.prog 31 #[.slice A 1 c] w fun e w' => e = .returned (.tuple #[]) ∧ w' = w := by
  go_enter Try.func31, Try.ntmps31
  go_wp2_with fail
  refine len_1.mono ?_
  rintro e w1 ⟨⟨n, rfl⟩, rfl⟩
  go_wp2_with fail
  refine (pdq_1 A c n).mono ?_
  rintro e w1 ⟨rfl, rfl⟩
  go_wp2
  go_end0
  exact ⟨rfl, rfl⟩
set_option maxRecDepth 100000 in
theorem compact_1 (A : Option Addr) (c : Nat) : Calls Try.prog 32 #[.slice A 1 c] w fun e w' => e = .returned (.slice A 1 c) ∧ w' = w := by
  go_enter Try.func32, Try.ntmps32
  go_wp2
  go_ret
  exact ⟨rfl, rfl⟩
def samp (a : Int) : List S48 := [⟨16, 0, 0, 0, 0, 2⟩, ⟨20, 0, 0, a, 0, 0⟩, ⟨25, 0, 0, 0, 0, 0⟩, ⟨24, 0, 0, 0, 0, 0⟩]
def sampR : List S55 := [⟨1, 1, 1⟩]
theorem asked_s0 : check_asked.f 40 sampR [samp 0] 0 = some 0 := by decide +kernel
theorem reach_s0 : check_reach.f 40 (samp 0) = some [true, true, true, false, false] := by decide +kernel

/-- A cell of a slice that is read. -/
theorem ad_form {w : World} {ad : Addr} {u : Value} (h : w.cell? (ad.add 0) = some u) : ∃ b o, ad = ⟨b, o, none⟩ := by
  obtain ⟨b, o, spot⟩ := ad
  refine ⟨b, o, ?_⟩
  have := World.cell?_spot h
  unfold Addr.add at this
  simp_all
theorem Rd.lit {w : World} (cs : Array Value) (T : TypeId) (n : Nat) (hn : cs.size = n) (h : n ≤ 1000) : Rd (w.alloc (.cells cs T)) (.slice (some ⟨w.heap.size, 0, none⟩) n n) n cs.toList := by
  refine ⟨_, n, rfl, Nat.le_refl _, by unfold maxLen; omega, (fun h => by cases h), fun ad e j u hj => ?_⟩
  cases e
  rw [add_none, Nat.zero_add, bk_cell (heap_alloc_new w (.cells cs T)) j]
  rw [← hj]; simp
theorem C48_cells {w : World} {A : Option Addr} {n : Nat} {xs : List S48} (h : Kd.C k48 w A n xs) (hn : 0 < n) : ∃ b o, A = some ⟨b, o, none⟩ ∧ ∀ k : Nat, k < n → w.cell? ⟨b, o + k * 6, none⟩ = some (.int .i64 (xs.getD k z48).f0) ∧ w.cell? ⟨b, o + k * 6 + 1, none⟩ = some (.int .i64 (xs.getD k z48).f1) ∧ w.cell? ⟨b, o + k * 6 + 2, none⟩ = some (.int .i64 (xs.getD k z48).f2) ∧ w.cell? ⟨b, o + k * 6 + 3, none⟩ = some (.int .i64 (xs.getD k z48).f3) ∧ w.cell? ⟨b, o + k * 6 + 4, none⟩ = some (.int .i64 (xs.getD k z48).f4) ∧ w.cell? ⟨b, o + k * 6 + 5, none⟩ = some (.int .u64 (xs.getD k z48).f5) := by
  obtain ⟨ad, rfl, h0, -⟩ := at_T48 h 0 (by decide) (by omega)
  obtain ⟨b, o, rfl⟩ := ad_form h0
  refine ⟨b, o, rfl, fun k hk => ?_⟩
  obtain ⟨ad, e, q0, q1, q2, q3, q4, q5⟩ := at_T48 h (k : Int) (by omega) (by omega)
  cases e
  rw [Int.toNat_natCast, add_none] at q0 q1 q2 q3 q4 q5
  unfold rd_T48 at q0 q1 q2 q3 q4 q5
  rw [Int.toNat_natCast] at q0 q1 q2 q3 q4 q5
  exact ⟨q0, q1, q2, q3, q4, q5⟩
theorem Cb_cells {w : World} {A : Option Addr} {n : Nat} {xs : List Bool} (h : Kd.C Kd.bool w A n xs) (hn : 0 < n) : ∃ b o, A = some ⟨b, o, none⟩ ∧ ∀ k : Nat, k < n → w.cell? ⟨b, o + k, none⟩ = some (.bool (xs.getD k false)) := by
  have get : ∀ k : Nat, k < n → ∃ ad, A = some ad ∧ w.cell? (ad.add k) = some (.bool (xs.getD k false)) := fun k hk => by
    obtain ⟨ad, c, e, -, hK, hc⟩ := Kd.C_get h false (k : Int) (by omega) (by omega)
    have hK2 : c = [.bool (xs.getD (k : Int).toNat false)] := hK
    subst hK2
    have := hc 0 _ rfl
    rw [Int.toNat_natCast] at this
    exact ⟨ad, e, by rwa [show Kd.bool.sz = 1 from rfl, Nat.mul_one, Nat.add_zero] at this⟩
  obtain ⟨ad, rfl, h0⟩ := get 0 hn
  obtain ⟨b, o, rfl⟩ := ad_form h0
  refine ⟨b, o, rfl, fun k hk => ?_⟩
  obtain ⟨ad, e, q⟩ := get k hk
  cases e
  rwa [add_none] at q
set_option maxRecDepth 100000 in
set_option maxHeartbeats 6400000 in
theorem touches_s (A0 : Option Addr) (c0 : Nat) (A1 : Option Addr) (c1 : Nat) (hR : Kd.C k55 w A0 sampR.length sampR) (hc0 : sampR.length ≤ c0) (hT : Kd.C (Kd.slice 48 k48) w A1 [samp 0].length [samp 0]) (hc1 : [samp 0].length ≤ c1) :
    Calls Try.prog 17 #[.agg #[.slice A0 sampR.length c0, .slice A1 [samp 0].length c1], .int .i64 0] w fun e w' => ∃ g c, e = .returned (.tuple #[.slice (some ⟨g, 0, none⟩) 1 c, .int .i64 0]) ∧ w'.cell? ⟨g, 0, none⟩ = some (.int .i64 0) ∧ Below w.heap.size w w' := by
  obtain ⟨ad, A2, c2, rfl, hcell, hc2, hL⟩ := at_L4 hT 0 (by decide) (by decide)
  change w.cell? (ad.add 0) = some (.slice A2 4 c2) at hcell
  obtain ⟨ab, ao, rfl⟩ := ad_form hcell
  change k48.C w A2 4 (samp 0) at hL
  have HR := As.mk (And.intro hR hc0)
  have HT := As.mk (And.intro hT hc1)
  have HL := As.mk (And.intro hL hc2)
  change 4 ≤ c2 at hc2
  show Calls Try.prog 17 #[.agg #[.slice A0 1 c0, .slice (some ⟨ab, ao, none⟩) 1 c1], .int .i64 0] w _
  change w.cell? ⟨ab, ao + 0, none⟩ = _ at hcell
  rw [Nat.add_zero] at hcell
  have HC := As.mk hcell
  clear hR hc0 hT hc1 hL hcell
  go_enter Try.func17, Try.ntmps17
  go_wp2_with fail
  have m0 := heap_alloc_new w (.cells #[.slice A0 1 c0, .slice (some ⟨ab, ao, none⟩) 1 c1] 25)
  have hb := Below.heap_alloc w (.cells #[.slice A0 1 c0, .slice (some ⟨ab, ao, none⟩) 1 c1] 25)
  have hK := (Kp.refl no w).alloc (.cells #[.slice A0 1 c0, .slice (some ⟨ab, ao, none⟩) 1 c1] 25)
  generalize w.alloc (.cells #[.slice A0 1 c0, .slice (some ⟨ab, ao, none⟩) 1 c1] 25) = W at m0 hK ⊢
  have h1 : w.heap.size < W.heap.size := bk_lt m0
  generalize hg0 : w.heap.size = g0 at m0 h1 ⊢
  clear hb
  refine (check_asked.calls 40 A0 c0 sampR (some ⟨ab, ao, none⟩) c1 [samp 0] 0 0 W (Kd.C_below HR.out.1 hK.below) HR.out.2 (Kd.C_below HT.out.1 hK.below) HT.out.2 asked_s0).mono ?_
  rintro e w1 ⟨rfl, hbl⟩
  have hk1 : Kp no W w1 := Kp.of_below hbl
  replace m0 := bk_kp m0 hk1 (fun x => x)
  replace hK := hK.trans hk1
  have e1 := bk_cell m0 1
  have ec : w1.cell? ⟨ab, ao, none⟩ = some (.slice A2 4 c2) := by rw [World.cell?_of_block (hK.block ab (World.block_lt_of_cell? _ _ HC.out) (fun x => x))]; exact HC.out
  clear hbl hk1
  go_wp2_with fail
  refine (check_reach.calls 40 A2 c2 (samp 0) [true, true, true, false, false] w1 (Kd.C_below HL.out.1 hK.below) HL.out.2 reach_s0).mono ?_
  rintro e w2 ⟨v0, rfl, hv, hbl⟩
  have hk1 : Kp no w1 w2 := Kp.of_below hbl
  obtain ⟨A3, c3, rfl, hc3, hC3⟩ := Kd.R_reads hv
  have hL2 := Kd.C_below HL.out.1 (hK.trans hk1).below
  obtain ⟨b3, o3, rfl, hin⟩ := Cb_cells hC3 (by decide)
  obtain ⟨b2, o2, rfl, hfs⟩ := C48_cells hL2 (by decide)
  replace m0 := bk_kp m0 hk1 (fun x => x)
  replace ec : w2.cell? ⟨ab, ao, none⟩ = _ := (World.cell?_of_block (hk1.block ab (World.block_lt_of_cell? _ _ ec) (fun x => x))).trans ec
  replace hK := As.mk (hK.trans hk1)
  replace e1 := bk_cell m0 1
  have HIN := As.mk hin
  have HFS := As.mk hfs
  have HG := As.mk (And.intro hg0 (show g0 < w2.heap.size from bk_lt m0))
  change 5 ≤ c3 at hc3
  clear hbl hk1 hv hC3 hL2 hin hfs hg0 m0 h1 HR HT HL HC
  go_wp2_with fail
  clear e1 ec
  obtain ⟨wo, rfl⟩ : ∃ wo : World, wo = w2 := ⟨_, rfl⟩
  go_loopw [4, 28] (fun v4 v28 wr => ∃ (k : Nat), k ≤ 4 ∧ v28 = .int .i64 k ∧ As (Kp no wo wr) ∧ ((k ≤ 1 ∧ v4 = .slice none 0 0) ∨ (2 ≤ k ∧ ∃ g c, v4 = .slice (some ⟨g, 0, none⟩) 1 c ∧ As (wr.ownsRow 0 3 1 (.slice (some ⟨g, 0, none⟩) 1 c) 1 [.int .i64 0])))) (fun _ v28 _ => 4 - (intOf v28).toNat)
  case atStart => exact ⟨0, by decide, rfl, ⟨Kp.refl _ _⟩, .inl ⟨by decide, rfl⟩⟩
  case round =>
    obtain ⟨k, hk, rfl, hKr, hst⟩ := hrel
    by_cases hlt : k < 4
    · have h5 : k < 5 := by omega
      have c0 := (World.cell?_of_block (hKr.out.block b3 (World.block_lt_of_cell? _ _ (HIN.out k h5)) (fun x => x))).trans (HIN.out k h5)
      obtain ⟨f0, f1, f2, f3, f4, f5⟩ := HFS.out k hlt
      have hb2 : wr.heap[b2]? = wo.heap[b2]? := hKr.out.block b2 (World.block_lt_of_cell? _ _ f0) (fun x => x)
      replace f0 := (World.cell?_of_block hb2).trans f0
      replace f1 := (World.cell?_of_block hb2).trans f1
      replace f2 := (World.cell?_of_block hb2).trans f2
      replace f3 := (World.cell?_of_block hb2).trans f3
      replace f4 := (World.cell?_of_block hb2).trans f4
      replace f5 := (World.cell?_of_block hb2).trans f5
      have hlt2 : (k : Int) < 4 := by omega
      have hlt5 : (k : Int) < 5 := by omega
      have hnn : (0 : Int) ≤ (k : Int) := by omega
      have hw : wrap64 ((k : Int) + 1) = ((k + 1 : Nat) : Int) := by unfold wrap64; omega
      have hca := fun cs => As.mk ((World.cell?_of_block (((Kp.refl no wr).alloc (.cells cs 48)).block b3 (World.block_lt_of_cell? _ _ c0) (fun x => x))).trans c0)
      have hKn := fun cs => As.mk (hKr.out.alloc (.cells cs 48))
      have HK4 := As.mk hlt
      clear hb2 h5
      have hcase : (k = 1 ∧ ([true, true, true, false, false] : List Bool).getD k false = true ∧ (samp 0).getD k z48 = ⟨20, 0, 0, 0, 0, 0⟩) ∨ (k ≠ 1 ∧ ([true, true, true, false, false] : List Bool).getD k false = true ∧ check_rings.f ((samp 0).getD k z48).f0 = some false) ∨ (k ≠ 1 ∧ ([true, true, true, false, false] : List Bool).getD k false = false) := by
        rcases (show k = 0 ∨ k = 1 ∨ k = 2 ∨ k = 3 by omega) with rfl | rfl | rfl | rfl
        · exact .inr (.inl ⟨by decide, rfl, rfl⟩)
        · exact .inl ⟨rfl, rfl, rfl⟩
        · exact .inr (.inl ⟨by decide, rfl, rfl⟩)
        · exact .inr (.inr ⟨by decide, rfl⟩)
      rcases hcase with ⟨hk1, hr, hx⟩ | ⟨hk1, hr, hx⟩ | ⟨hk1, hr⟩
      · have ca := (hca #[.int .i64 20, .int .i64 0, .int .i64 0, .int .i64 0, .int .i64 0, .int .u64 0]).out
        rw [hr] at ca
        clear hca c0
        rw [hx] at f0 f1 f2 f3 f4 f5
        dsimp only at f0 f1 f2 f3 f4 f5
        have hv4 := hst.resolve_right (fun h => by omega)
        obtain ⟨-, rfl⟩ := hv4
        have HK1 := As.mk hk1
        clear hst hr hx hk1
        go_wp2_with fail
        refine (check_rings.calls 20 true _ rfl).mono ?_
        rintro e w3 ⟨rfl, ⟨nd, rfl⟩⟩
        have hst0 : ((wr.alloc (.cells #[.int .i64 20, .int .i64 0, .int .i64 0, .int .i64 0, .int .i64 0, .int .u64 0] 48)).drewN nd).heap[wr.heap.size]? = some (.cells #[.int .i64 20, .int .i64 0, .int .i64 0, .int .i64 0, .int .i64 0, .int .u64 0] 48 (0, 0)) := heap_alloc_new wr _
        have hKn2 := As.mk ((hKn #[.int .i64 20, .int .i64 0, .int .i64 0, .int .i64 0, .int .i64 0, .int .u64 0]).out.drewN nd)
        generalize (wr.alloc (.cells #[.int .i64 20, .int .i64 0, .int .i64 0, .int .i64 0, .int .i64 0, .int .u64 0] 48)).drewN nd = W5 at hst0 hKn2 ⊢
        have s3 := bk_cell hst0 3
        clear hKn
        go_wp2_with (at_builtin; refine wp_append rfl (.tmp 42) (.tmp 45) 40 3 rfl Try.underlying40 info3 rfl (by decide) 0 (news := [.int .i64 0]) rfl rfl (World.ownsRow_nil _ _ _ _) (Rd.lit #[.int .i64 0] 3 1 rfl (by decide)) rfl (fun u hu => by rw [List.mem_singleton.1 hu]; rfl) (by decide) (by decide) (Nat.zero_le _) ?_; intro v1 w6 own6 k6 ob6; obtain ⟨g6, c6, rfl, -⟩ := or_some own6 (by decide))
        have hK6 := hKn2.out.alloc (.cells #[.int .i64 0] 3)
        exact ⟨⟨k + 1, by omega, by go_num, ⟨hK6.step k6 (fun i hi hx => by cases hx)⟩, .inr ⟨by have := HK1.out; omega, g6, c6, rfl, ⟨own6⟩⟩⟩, by simp [intOf]; omega⟩
      · rw [hr] at hca
        clear c0
        generalize (samp 0).getD k z48 = x at f0 f1 f2 f3 f4 f5 hx
        have HX := As.mk hx
        have HS := As.mk hst
        have ca := (hca #[.int .i64 x.f0, .int .i64 x.f1, .int .i64 x.f2, .int .i64 x.f3, .int .i64 x.f4, .int .u64 x.f5]).out
        clear hst hr hx hca
        go_wp2_with fail
        refine (check_rings.calls x.f0 false _ HX.out).mono ?_
        rintro e w3 ⟨rfl, ⟨nd, rfl⟩⟩
        have hKn2 := As.mk ((hKn #[.int .i64 x.f0, .int .i64 x.f1, .int .i64 x.f2, .int .i64 x.f3, .int .i64 x.f4, .int .u64 x.f5]).out.drewN nd)
        have hnx := As.mk (show (k + 1 ≤ 1 ∧ u4 = .slice none 0 0) ∨ (2 ≤ k + 1 ∧ ∃ g c, u4 = .slice (some ⟨g, 0, none⟩) 1 c ∧ As (((wr.alloc (.cells #[.int .i64 x.f0, .int .i64 x.f1, .int .i64 x.f2, .int .i64 x.f3, .int .i64 x.f4, .int .u64 x.f5] 48)).drewN nd).ownsRow 0 3 1 (.slice (some ⟨g, 0, none⟩) 1 c) 1 [.int .i64 0])) from by
          rcases HS.out with ⟨q1, q2⟩ | ⟨q1, g, c, q2, q3⟩
          · exact .inl ⟨by omega, q2⟩
          · exact .inr ⟨by omega, g, c, q2, ⟨or_kp q3.out (((Kp.refl no wr).alloc _).drewN nd) (fun _ _ x => x)⟩⟩)
        clear hKn HS
        go_wp2_with fail
        exact ⟨⟨k + 1, by omega, by go_num, hKn2, hnx.out⟩, by simp [intOf]; omega⟩
      · rw [hr] at hca
        clear c0
        generalize (samp 0).getD k z48 = x at f0 f1 f2 f3 f4 f5
        have HS := As.mk hst
        have ca := (hca #[.int .i64 x.f0, .int .i64 x.f1, .int .i64 x.f2, .int .i64 x.f3, .int .i64 x.f4, .int .u64 x.f5]).out
        clear hst hr hca
        have hKn2 := hKn #[.int .i64 x.f0, .int .i64 x.f1, .int .i64 x.f2, .int .i64 x.f3, .int .i64 x.f4, .int .u64 x.f5]
        have hnx := As.mk (show (k + 1 ≤ 1 ∧ u4 = .slice none 0 0) ∨ (2 ≤ k + 1 ∧ ∃ g c, u4 = .slice (some ⟨g, 0, none⟩) 1 c ∧ As ((wr.alloc (.cells #[.int .i64 x.f0, .int .i64 x.f1, .int .i64 x.f2, .int .i64 x.f3, .int .i64 x.f4, .int .u64 x.f5] 48)).ownsRow 0 3 1 (.slice (some ⟨g, 0, none⟩) 1 c) 1 [.int .i64 0])) from by
          rcases HS.out with ⟨q1, q2⟩ | ⟨q1, g, c, q2, q3⟩
          · exact .inl ⟨by omega, q2⟩
          · exact .inr ⟨by omega, g, c, q2, ⟨or_kp q3.out ((Kp.refl no wr).alloc _) (fun _ _ x => x)⟩⟩)
        clear hKn HS
        go_wp2_with fail
        exact ⟨⟨k + 1, by omega, by go_num, hKn2, hnx.out⟩, by simp [intOf]; omega⟩
    · have hk4 : k = 4 := by omega
      subst hk4
      obtain ⟨-, g, c, rfl, hown⟩ := hst.resolve_left (fun h => by omega)
      have hKf := As.mk (hK.out.trans hKr.out)
      have hcell := As.mk (or_cell hown.out 0 (.int .i64 0) rfl)
      clear hst hKr
      go_wp2_with fail
      refine (sort_1 _ c).mono ?_
      rintro e w3 ⟨rfl, rfl⟩
      go_wp2_with fail
      refine (compact_1 _ c).mono ?_
      rintro e w3 ⟨rfl, rfl⟩
      go_wp2
      go_ret2
      exact ⟨g, c, rfl, hcell.out, by rw [HG.out.1]; have := hKf.out.below; rw [HG.out.1] at this; exact this⟩
end Go.Proofs.Ythoejimgdhfmiaa.H
