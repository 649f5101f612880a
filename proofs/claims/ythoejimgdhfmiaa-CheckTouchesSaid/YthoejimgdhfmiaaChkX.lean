/- Layer 11: Touches of any thread of a right program. No condition. -/
import Derived.Test.YthoejimgdhfmiaaChkN
import Derived.Test.YthoejimgdhfmiaaChkW
import Derived.Test.YthoejimgdhfmiaaChkL
namespace Go.Proofs.Ythoejimgdhfmiaa.H
open Go.RowKit Go.Proofs.Ythoejimgdhfmiaa.PCheckTells Go.Proofs.YthoejimgdhfmiaaW.PrintWords Go.Proofs.YthoejimgdhfmiaaW.PrintLast Go.Proofs.YthoejimgdhfmiaaW.PrintMore
set_option linter.unusedVariables false
set_option linter.unusedSimpArgs false
variable {w : World}

theorem kp_put {W : World} (n g : Nat) (d : Array Int) (os : Array Obj) : Kp (· = g) W (Sort.grow (Sort.putRow (Value.int .i64) (Sort.ahead W n) g 0 d) os) := by
  refine ⟨rfl, rfl, rfl, by simp, fun k hk hn => ?_⟩
  rw [Sort.heap_grow_old _ _ (by simpa using hk)]
  unfold Sort.putRow Sort.mapBlock
  rw [Array.getElem?_modify, if_neg (fun e => hn e.symm)]
  rfl
/-- whole numbers, in cells of one's own -/
def InC (W : World) (A : Option Addr) (zs : List Int) : Prop := zs.length = 0 ∨ ∃ g, A = some ⟨g, 0, none⟩ ∧ ∀ j, j < zs.length → W.cell? ⟨g, j, none⟩ = some (.int .i64 (zs.getD j 0))
theorem holds_own {W : World} {base g c : Nat} {zs : List Int} (h : W.ownsRow base 3 1 (.slice (some ⟨g, 0, none⟩) zs.length c) zs.length (zs.map fun z => .int .i64 z)) : Sort.Holds (Value.int .i64) W g 0 zs.toArray ∧ g < W.heap.size ∧ zs.length ≤ c := by
  obtain ⟨cur, hb⟩ := or_bk h (b := g) rfl
  refine ⟨fun j hj => ?_, bk_lt hb, ?_⟩
  · have hj' : j < zs.length := by simpa using hj
    rw [get_toArray zs j hj', Nat.zero_add]
    exact ⟨or_cell h j _ (by rw [List.getElem?_map, List.getElem?_eq_getElem hj']; rfl), bk_fz hb j⟩
  · rcases h.2 with ⟨e, -⟩ | ⟨g', cap, cur', e, -, -, h3, -⟩
    · cases e
    · injection e with _ _ e; omega
theorem compact_le (zs : List Int) : (Lib.compact zs).length ≤ zs.length := by
  unfold Lib.compact Lib.compactUpTo
  rw [List.length_map]
  exact Nat.le_trans (List.length_filter_le _ _) (by simp)
/-- Sort and Compact, one behind the other. -/
theorem sort_own {W : World} {g c : Nat} {zs : List Int} (hH : Sort.Holds (Value.int .i64) W g 0 zs.toArray) (hg : g < W.heap.size) (hz : zs.length < 1000) :
    Calls Try.prog 31 #[.slice (some ⟨g, 0, none⟩) zs.length c] W fun e w' => e = .returned (.tuple #[]) ∧ Sort.Holds (Value.int .i64) w' g 0 (zs.mergeSort fun x y => decide (x ≤ y)).toArray ∧ Kp (· = g) W w' := by
  refine (sort_int g c zs hH hg hz).mono ?_
  rintro e w' ⟨rfl, n, os, rfl⟩
  refine ⟨rfl, Sort.holds_grow _ _ _ _ _ _ (by simpa using hg) (Sort.holds_putRow _ _ _ _ _ _ (Sort.holds_ahead _ _ _ _ _ _ hH) (by simp)), kp_put n g _ os⟩
theorem compact_own {W : World} {g c : Nat} {zs : List Int} (hH : Sort.Holds (Value.int .i64) W g 0 zs.toArray) (hz : zs.length < 1000) (hc : zs.length ≤ c) :
    Calls Try.prog 32 #[.slice (some ⟨g, 0, none⟩) zs.length c] W fun e w' => e = .returned (.slice (some ⟨g, 0, none⟩) (Lib.compact zs).length c) ∧ InC w' (some ⟨g, 0, none⟩) (Lib.compact zs) ∧ Kp (· = g) W w' := by
  refine (compact_int g c zs hH hz hc).mono ?_
  rintro e w' ⟨rfl, q, rfl⟩
  have hk := kp_put (W := W) q g (Lib.compact zs ++ List.replicate (zs.length - (Lib.compact zs).length) 0).toArray #[]
  rw [Sort.grow_empty] at hk
  have hle := compact_le zs
  refine ⟨rfl, Or.inr ⟨g, rfl, fun j hj => ?_⟩, hk⟩
  have := Sort.cell?_putRow (Value.int .i64) (Sort.ahead W q) g 0 zs.toArray (Lib.compact zs ++ List.replicate (zs.length - (Lib.compact zs).length) 0).toArray (Sort.holds_ahead _ _ _ _ _ _ hH) (by simp; omega) j (by simp; omega)
  rw [get_toArray _ j (by rw [List.length_append]; omega), Nat.zero_add, List.getElem_append_left hj] at this
  rw [this, List.getD_eq_getElem?_getD, List.getElem?_eq_getElem hj]
  rfl
theorem info3_ : (Try.prog.info? 3).map (fun i => (i.zero, i.size, i.bytes)) = some (some (.int .i64 0), 1, 8) := by kernel_rfl

set_option maxRecDepth 100000 in
set_option maxHeartbeats 6400000 in
theorem Touches_any {R : List S55} {T : List (List S48)} {A0 : Option Addr} {c0 : Nat} {A1 : Option Addr} {c1 : Nat} {k1 : Nat} {a b : Int} {tn : Nat} (hp : PgAt w R T A0 c0 A1 c1) (hc : check_Check.f k1 R T = some (a, b, 0)) (hT : wfT T) (ht : tn < T.length)
    {out : List Bool} (hlen : out.length = (rd_L4 T tn).length + 1) (hin : ∀ i : Nat, out.getD i false = true ↔ Rch (rd_L4 T tn) i) :
    Calls Try.prog 17 #[.agg #[.slice A0 R.length c0, .slice A1 T.length c1], .int .i64 (tn : Int)] w fun e w' => ∃ A c, e = .returned (.tuple #[.slice A (ownC (rd_L4 T tn) out 8).length c, .int .i64 0]) ∧ (ownC (rd_L4 T tn) out 8).length ≤ c ∧ InC w' A (ownC (rd_L4 T tn) out 8) ∧ Kp no w w' := by
  have htt : (tn : Int) < (T.length : Int) := by omega
  have hnn : (0 : Int) ≤ (tn : Int) := by omega
  have hOK := (okF hc).2 (tn : Int) hnn htt
  have hR8 := (okF hc).1.2.2
  have hTC := touch_eq (l := rd_L4 T tn) (out := out) (fun j hj h1 h2 => by have := okC hOK hj h1 h2; omega)
  obtain ⟨k2, hk2⟩ := askedF hc hnn htt
  obtain ⟨k3, out', hk3, hlen', hin'⟩ := reachF (okJ_of hOK (hT _ (rd_memL hnn htt)))
  obtain rfl : out' = out := bools_ext (by omega) (fun i => (hin' i).trans (hin i).symm)
  have HPG := As.mk hp
  obtain ⟨ad, _, _, hA0, hcell0, -, -⟩ := at_L4 HPG.out.t 0 (Int.le_refl 0) (by omega)
  obtain ⟨ab, ao, rfl⟩ := ad_form (show w.cell? (ad.add 0) = _ from hcell0)
  subst hA0
  obtain ⟨ad, AL, cL, hA, hcell, hLc, hLC⟩ := at_L4 HPG.out.t (tn : Int) hnn htt
  obtain rfl := Option.some.inj hA
  rw [Int.toNat_natCast, add_none] at hcell
  have hl256 : (rd_L4 T tn).length ≤ 256 := hOK.1
  have HTC := As.mk hTC
  have HAS := As.mk hk2
  have HRE := As.mk hk3
  have HLN := As.mk hlen
  have HL := As.mk hLC
  have HC := As.mk hcell
  clear hp hc hT hlen hin hOK hR8 hTC hk2 hk3 hlen' hin' hcell0 hA hLC
  generalize hg0 : rd_L4 T (tn : Int) = l at hcell HRE HTC HLN HL HC hl256 hLc ⊢
  have HRD := As.mk hg0
  clear hcell hg0
  go_enter Try.func17, Try.ntmps17
  go_wp2_with fail
  have m0 := heap_alloc_new w (.cells #[.slice A0 R.length c0, .slice (some ⟨ab, ao, none⟩) T.length c1] 25)
  have hK := (Kp.refl no w).alloc (.cells #[.slice A0 R.length c0, .slice (some ⟨ab, ao, none⟩) T.length c1] 25)
  generalize w.alloc (.cells #[.slice A0 R.length c0, .slice (some ⟨ab, ao, none⟩) T.length c1] 25) = W at m0 hK ⊢
  generalize w.heap.size = g0 at m0 ⊢
  have hp1 := HPG.out.below hK.below
  refine (check_asked.calls k2 A0 c0 R _ c1 T (tn : Int) 0 _ hp1.r hp1.l0 hp1.t hp1.l1 HAS.out).mono ?_
  rintro e w1 ⟨rfl, hbl⟩
  have hk := bk_b hbl
  replace m0 := bk_kp m0 hk (fun x => x)
  replace hK := hK.trans hk
  have d1 := bk_cell m0 1
  have ec : w1.cell? ⟨ab, ao + tn, none⟩ = some (.slice AL l.length cL) := (World.cell?_of_block (hK.block ab (World.block_lt_of_cell? _ _ HC.out) (fun x => x))).trans HC.out
  clear hk hbl hp1
  go_wp2_with fail
  refine (check_reach.calls k3 AL cL l out' w1 (Kd.C_below HL.out hK.below) hLc HRE.out).mono ?_
  rintro e w2 ⟨v0, rfl, hv, hbl⟩
  have hk := bk_b hbl
  obtain ⟨A3, c3, rfl, hc3, hC3⟩ := Kd.R_reads hv
  obtain ⟨b3, o3, rfl, hfs3⟩ := Cb_cells hC3 (by have := HLN.out; omega)
  have HF3 := As.mk hfs3
  have HB3 := As.mk (World.block_lt_of_cell? _ _ (hfs3 0 (by have := HLN.out; omega)))
  have hK2 := As.mk (hK.trans hk)
  replace m0 := bk_kp m0 hk (fun x => x)
  have d1 := bk_cell m0 1
  replace ec : w2.cell? ⟨ab, ao + tn, none⟩ = some (.slice AL l.length cL) := (World.cell?_of_block (hk.block ab (World.block_lt_of_cell? _ _ ec) (fun x => x))).trans ec
  rw [HLN.out] at hc3
  rw [HLN.out]
  clear hk hbl hv hC3 hfs3 hK m0
  go_wp2_with fail
  clear d1 ec
  have HLL := As.mk (Kd.C_below HL.out hK2.out.below)
  go_loopw [4, 28] (fun v4 v28 wr => ∃ (k : Nat) (A : Option Addr) (c : Nat), k ≤ l.length ∧ v28 = .int .i64 k ∧ v4 = .slice A (rawC l out' k).length c ∧ As (wr.ownsRow w2.heap.size 3 1 (.slice A (rawC l out' k).length c) (rawC l out' k).length ((rawC l out' k).map fun z => .int .i64 z)) ∧ As (Kp no w2 wr)) (fun _ v28 _ => l.length - (intOf v28).toNat)
  case atStart => exact ⟨0, none, 0, Nat.zero_le _, rfl, rfl, ⟨World.ownsRow_nil _ _ _ _⟩, ⟨Kp.refl _ _⟩⟩
  case round =>
    obtain ⟨k, A, c, hk, rfl, rfl, hown, hKr⟩ := hrel
    by_cases hlt : k < l.length
    · as_aux_lemma =>
        have ci := (World.cell?_of_block (hKr.out.block b3 HB3.out (fun x => x))).trans (HF3.out k (by have := HLN.out; omega))
        obtain ⟨b, o, hA, hfs⟩ := C48_cells (Kd.C_below HLL.out hKr.out.below) (by omega)
        subst hA
        obtain ⟨f0, f1, f2, f3, f4, f5⟩ := hfs k hlt
        have hlt2 : (k : Int) < (l.length : Int) := by omega
        have hlt3 : (k : Int) < (l.length : Int) + 1 := by omega
        have hnn2 : (0 : Int) ≤ (k : Int) := by omega
        have hk256 : k < 1000 := by omega
        have HLT := As.mk hlt
        have hsucc := rawC_succ l out' k
        have hhit : hit l out' k = (out'.getD k false && (decide (18 ≤ (l.getD k z48).f0) && decide ((l.getD k z48).f0 ≤ 20))) := rfl
        have hn := rawC_len l out' k
        generalize l.getD k z48 = x at f0 f1 f2 f3 f4 f5 hsucc hhit
        generalize out'.getD k false = oi at ci hhit
        have hca := fun cs => As.mk ((World.cell?_of_block (((Kp.refl no wr).alloc (.cells cs 48)).block b3 (World.block_lt_of_cell? _ _ ci) (fun x => x))).trans ci)
        have ca := (hca #[.int .i64 x.f0, .int .i64 x.f1, .int .i64 x.f2, .int .i64 x.f3, .int .i64 x.f4, .int .u64 x.f5]).out
        have hKn := As.mk (hKr.out.alloc (.cells #[.int .i64 x.f0, .int .i64 x.f1, .int .i64 x.f2, .int .i64 x.f3, .int .i64 x.f4, .int .u64 x.f5] 48))
        have hOn := As.mk (or_kp hown.out ((Kp.refl no wr).alloc (.cells #[.int .i64 x.f0, .int .i64 x.f1, .int .i64 x.f2, .int .i64 x.f3, .int .i64 x.f4, .int .u64 x.f5] 48)) (fun _ _ q => q))
        have HHH := As.mk hhit
        have HSS := As.mk hsucc
        clear hca ci hfs hlt hhit hsucc hown
        cases oi with
        | false =>
          have hno : rawC l out' (k + 1) = rawC l out' k := by rw [HSS.out, HHH.out]; simp
          clear hk
          go_wp2_with fail
          refine ⟨⟨k + 1, A, c, by have := HLT.out; omega, by go_num, ?_, ?_, hKn⟩, by have := HLT.out; simp [intOf]; omega⟩
          · rw [hno]
          · rw [hno]; exact hOn
        | true =>
          by_cases hr : 18 ≤ x.f0 ∧ x.f0 ≤ 20
          · have hyes : rawC l out' (k + 1) = rawC l out' k ++ [x.f3] := by
              rw [HSS.out, HHH.out, decide_eq_true hr.1, decide_eq_true hr.2]; rfl
            have hrg : check_rings.f x.f0 = some true := by rw [rings_eq, decide_eq_true hr]
            clear hk hr
            go_wp2_with fail
            refine (check_rings.calls x.f0 true _ hrg).mono ?_
            rintro e w3 ⟨rfl, ⟨nd, rfl⟩⟩
            have hst0 : ((wr.alloc (.cells #[.int .i64 x.f0, .int .i64 x.f1, .int .i64 x.f2, .int .i64 x.f3, .int .i64 x.f4, .int .u64 x.f5] 48)).drewN nd).heap[wr.heap.size]? = some (.cells #[.int .i64 x.f0, .int .i64 x.f1, .int .i64 x.f2, .int .i64 x.f3, .int .i64 x.f4, .int .u64 x.f5] 48 (0, 0)) := heap_alloc_new wr _
            have hKn2 := As.mk (hKn.out.drewN nd)
            have hOn2 := As.mk (or_qd hOn.out (QD.n _ nd))
            generalize (wr.alloc (.cells #[.int .i64 x.f0, .int .i64 x.f1, .int .i64 x.f2, .int .i64 x.f3, .int .i64 x.f4, .int .u64 x.f5] 48)).drewN nd = W5 at hst0 hKn2 hOn2 ⊢
            have s3 := bk_cell hst0 3
            have hbase := hKn2.out.size
            have hnn3 : (rawC l out' k).length < 2000 := by omega
            clear hKn hOn ca hst0 hrg
            go_wp2_with (at_builtin; refine wp_append rfl (.tmp 42) (.tmp 45) 40 3 rfl Try.underlying40 info3_ rfl (by decide) w2.heap.size (news := [.int .i64 x.f3]) rfl rfl (or_kp hOn2.out ((Kp.refl no W5).alloc (.cells #[.int .i64 x.f3] 3)) (fun _ _ q => q)) (Rd.lit #[.int .i64 x.f3] 3 1 rfl (by decide)) rfl (fun u hu => by rw [List.mem_singleton.1 hu]; rfl) (by omega) (by omega) (by first | omega | (simp; omega)) ?_; intro v1 w6 own6 k6 ob6; obtain ⟨g6, c6, rfl, hg6⟩ := or_some own6 (by omega))
            have hK6 := As.mk ((hKn2.out.alloc (.cells #[.int .i64 x.f3] 3)).new k6 (fun i hi => by have := (hOn2.out.lt i hi).1; omega))
            have hl6 : (rawC l out' (k + 1)).length = (rawC l out' k).length + 1 := by rw [hyes]; simp
            refine ⟨⟨k + 1, some ⟨g6, 0, none⟩, c6, by have := HLT.out; omega, by go_num, ?_, ?_, hK6⟩, by have := HLT.out; simp [intOf]; omega⟩
            · rw [hl6]
            · rw [hl6, hyes, List.map_append]; exact ⟨own6⟩
          · have hno : rawC l out' (k + 1) = rawC l out' k := by
              rw [HSS.out, HHH.out, if_neg]
              · rw [List.append_nil]
              · simp; omega
            have hrg : check_rings.f x.f0 = some false := by rw [rings_eq, decide_eq_false hr]
            clear hk hr
            go_wp2_with fail
            refine (check_rings.calls x.f0 false _ hrg).mono ?_
            rintro e w3 ⟨rfl, ⟨nd, rfl⟩⟩
            have hKn2 := As.mk (hKn.out.drewN nd)
            have hOn2 := As.mk (or_qd hOn.out (QD.n _ nd))
            clear hKn hOn ca
            go_wp2_with fail
            refine ⟨⟨k + 1, A, c, by have := HLT.out; omega, by go_num, ?_, ?_, hKn2⟩, by have := HLT.out; simp [intOf]; omega⟩
            · rw [hno]
            · rw [hno]; exact hOn2
    · obtain rfl : k = l.length := by omega
      have hT := HTC.out
      have hn := rawC_len l out' l.length
      generalize hz : rawC l out' l.length = zs at hT hn hown ⊢
      have HKf := As.mk (hK2.out.trans hKr.out)
      have HK2 := hKr
      have HO := hown
      clear hlt hk hz hKr hown
      by_cases h0 : zs.length = 0
      · have hz0 : zs = [] := List.eq_nil_of_length_eq_zero h0
        subst hz0
        have hT0 : ownC l out' 8 = [] := hT.symm.trans (by rw [List.mergeSort_nil]; rfl)
        have HT0 := As.mk hT0
        clear hT h0 hn HO hT0
        go_wp2_with fail
        refine (sort_none _ _).mono ?_
        rintro e w3 ⟨rfl, rfl⟩
        go_wp2_with fail
        refine (compact_none _ _).mono ?_
        rintro e w3 ⟨rfl, rfl⟩
        go_wp2
        go_ret2
        exact ⟨_, _, by rw [HT0.out]; rfl, by rw [HT0.out]; exact Nat.zero_le _, Or.inl (by rw [HT0.out]; rfl), HKf.out⟩
      · obtain ⟨g, c', e, hg⟩ := or_some HO.out (by omega)
        injection e with e1 e2 e3
        subst e1; subst e3
        obtain ⟨hH, hgl, hcc⟩ := holds_own HO.out
        have HH := As.mk hH
        clear hH h0
        go_wp2_with fail
        refine (sort_own (c := c) HH.out hgl (by omega)).mono ?_
        rintro e w3 ⟨rfl, hH3, hk3⟩
        have HK3 := As.mk (HKf.out.new hk3 (fun i hi => by have := hK2.out.size; omega))
        have HH3 := As.mk hH3
        have hsl : (zs.mergeSort fun x y => decide (x ≤ y)).length = zs.length := List.length_mergeSort _
        generalize hss : (zs.mergeSort fun x y => decide (x ≤ y)) = ss at hT hsl HH3
        have hcomp := compact_own (c := c) HH3.out (by omega) (by omega)
        rw [hsl] at hcomp
        have hle := compact_le ss
        rw [hT] at hcomp hle
        have HCO := As.mk hcomp
        rw [hsl] at hle
        clear hk3 hH3 hss hT hsl hcomp
        go_wp2_with fail
        refine HCO.out.mono ?_
        rintro e w4 ⟨rfl, hI4, hk4⟩
        have HK4 := As.mk (HK3.out.new hk4 (fun i hi => by have := hK2.out.size; omega))
        have HI4 := As.mk hI4
        clear hI4 hk4
        go_wp2
        go_ret2
        exact ⟨_, _, rfl, by omega, HI4.out, HK4.out⟩
end Go.Proofs.Ythoejimgdhfmiaa.H
