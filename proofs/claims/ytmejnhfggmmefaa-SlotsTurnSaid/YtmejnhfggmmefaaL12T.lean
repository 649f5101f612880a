/- Layer 12: SlotsTurn: a place holds a ticket's value till all readers have got it; then it is the ticket's that comes a turn later. No condition. -/
import Derived.Test.YtmejnhfggmmefaaL12O
namespace Go.Proofs.Ytmejnhfggmmefaa.H
open Go.RowKit
set_option linter.unusedVariables false
set_option linter.unusedSimpArgs false
variable {w : World} {L : List Sl} {R : Nat} {a v j : Int}

/-- The readers that haven't got a value yet, when k have got it from the reader F on. -/
def leftAt (R F k : Nat) : Int := (List.range R).foldl (fun (s : Int) (j : Nat) => if k ≤ (j + R - F) % R then s + 2 ^ j else s) 0
theorem leftAt_all : ∀ R : Fin 9, ∀ F : Fin 8, ∀ k : Fin 8, F.val < R.val → k.val < R.val →
    leftAt R.val F.val 0 = 2 ^ R.val - 1 ∧ leftAt R.val F.val k.val / 2 ^ ((F.val + k.val) % R.val) % 2 = 1 ∧ 0 ≤ leftAt R.val F.val k.val ∧ leftAt R.val F.val k.val < 256 ∧
    leftAt R.val F.val (k.val + 1) = leftAt R.val F.val k.val - 2 ^ ((F.val + k.val) % R.val) ∧ (leftAt R.val F.val k.val - 2 ^ ((F.val + k.val) % R.val) = 0 ↔ k.val + 1 = R.val) := by decide +kernel

theorem slAt_set (h : 0 < L.length) (a : Int) (x : Sl) : slAt (L.set (pl L a) x) a = x := by
  have := pl_lt h a
  unfold slAt
  have e : pl (L.set (pl L a) x) a = pl L a := by unfold pl; rw [List.length_set]
  rw [e]; simp [List.getD, this]
theorem slAt_turn (a : Int) : slAt L (a + L.length) = slAt L a := by
  unfold slAt pl
  rw [Int.add_emod_right]
theorem t_free (h : (slAt L a).st = 2 * a) (ha : a < 4611686018427387904) : sFree L a = true := by unfold sFree; rw [decide_eq_true ha, h]; simp
theorem t_nofree (b : Int) (h : (slAt L b).st = 2 * a + 1) : sFree L b = false := by
  unfold sFree
  have : ((slAt L b).st == 2 * b) = false := by rw [h]; simp; omega
  rw [this, Bool.and_false]
theorem t_put (h : (slAt L a).st = 2 * a) (ha : a < 4611686018427387904) : sPut L R a v = (0, L.set (pl L a) ⟨2 * a + 1, v, 2 ^ R - 1⟩) := by
  unfold sPut
  rw [if_pos ha, h, if_neg (by omega), if_neg (by omega)]
theorem t_get (l : Int) (h : slAt L a = ⟨2 * a + 1, v, l⟩) (ha : a < 4611686018427387904) (j : Nat) (hj : j < R) (hb : l / 2 ^ j % 2 = 1) :
    sGet L R (j : Int) a = (v, 0, L.set (pl L a) (if l - 2 ^ j = 0 then ⟨2 * (a + L.length), 0, 0⟩ else ⟨2 * a + 1, v, l - 2 ^ j⟩)) := by
  have hb2 : bitOf l (j : Int) = true := by unfold bitOf; rw [Int.toNat_natCast, hb]; rfl
  have hg0 : sGot L R (j : Int) a = 0 := by
    unfold sGot
    rw [if_pos ⟨ha, by omega, by omega⟩, h, if_neg (by show ¬ 2 * a + 1 < 2 * a + 1; omega), if_neg (by show ¬ 2 * a + 1 < 2 * a + 1; omega), if_pos hb2]
  unfold sGet
  rw [if_pos hg0, h, Int.toNat_natCast]

set_option maxRecDepth 100000 in
set_option maxHeartbeats 6400000 in
theorem SlotsTurn_calls (pa : Int) (w1 : (Lit.int .i64 pa).wf = true) (ra : Int) (w2 : (Lit.int .i64 ra).wf = true) (tu : Int) (w3 : (Lit.int .u64 tu).wf = true) (v : Int) (w4 : (Lit.int .u64 v).wf = true) (fa : Int) (w5 : (Lit.int .i64 fa).wf = true) :
    Calls Try.prog 9 #[.int .i64 pa, .int .i64 ra, .int .u64 tu, .int .u64 v, .int .i64 fa] w fun e w' => e = .returned (.bool true) ∧ Kp no w w' := by
  obtain ⟨ht0, ht1⟩ := wf_u64 w3
  have hpa : 0 ≤ IntKind.u64.wrap pa := by rw [IntKind.wrap_u64]; omega
  have hra : 0 ≤ IntKind.u64.wrap ra := by rw [IntKind.wrap_u64]; omega
  have hfa : 0 ≤ IntKind.u64.wrap fa := by rw [IntKind.wrap_u64]; omega
  obtain ⟨q, hq⟩ := Int.eq_ofNat_of_zero_le (show 0 ≤ IntKind.u64.wrap pa % 64 by omega)
  obtain ⟨s, hs⟩ := Int.eq_ofNat_of_zero_le (show 0 ≤ IntKind.u64.wrap ra % 8 by omega)
  have hq64 : q < 64 := by omega
  have hs8 : s < 8 := by omega
  have e1 : Int.tmod (IntKind.u64.wrap pa) 64 = (q : Int) := by rw [Int.tmod_eq_emod_of_nonneg hpa, hq]
  have e2 : Int.tmod (IntKind.u64.wrap ra) 8 = (s : Int) := by rw [Int.tmod_eq_emod_of_nonneg hra, hs]
  have e3 : IntKind.u64.wrap (1 + (q : Int)) = 1 + (q : Int) := u64_id (by omega) (by omega)
  have e4 : IntKind.u64.wrap (1 + (s : Int)) = 1 + (s : Int) := u64_id (by omega) (by omega)
  obtain ⟨F, hF⟩ := Int.eq_ofNat_of_zero_le (show 0 ≤ IntKind.u64.wrap fa % (1 + (s : Int)) from Int.emod_nonneg _ (by omega))
  have hFs : F < s + 1 := by
    have : IntKind.u64.wrap fa % (1 + (s : Int)) < 1 + (s : Int) := Int.emod_lt_of_pos _ (by omega)
    omega
  have e5 : Int.tmod (IntKind.u64.wrap fa) (1 + (s : Int)) = (F : Int) := by rw [Int.tmod_eq_emod_of_nonneg hfa, hF]
  obtain ⟨n, hn⟩ := Int.eq_ofNat_of_zero_le (show 0 ≤ tu % 5 by omega)
  have hn5 : n < 5 := by omega
  have e6 : Int.tmod tu 5 = (n : Int) := by rw [Int.tmod_eq_emod_of_nonneg ht0, hn]
  have e7 : Int.tmod (F : Int) (1 + (q : Int)) = (F : Int) % (1 + (q : Int)) := Int.tmod_eq_emod_of_nonneg (by omega)
  obtain ⟨A, hA⟩ := Int.eq_ofNat_of_zero_le (show 0 ≤ (F : Int) % (1 + (q : Int)) from Int.emod_nonneg _ (by omega))
  have hAq : A < q + 1 := by
    have : (F : Int) % (1 + (q : Int)) < 1 + (q : Int) := Int.emod_lt_of_pos _ (by omega)
    omega
  rw [hA] at e7
  have e8 : IntKind.u64.wrap (F : Int) = (F : Int) := u64_id (by omega) (by omega)
  obtain ⟨P, hP⟩ : ∃ P : Nat, 1 + (q : Int) = (P : Int) := ⟨q + 1, by omega⟩
  obtain ⟨R, hR⟩ : ∃ R : Nat, 1 + (s : Int) = (R : Int) := ⟨s + 1, by omega⟩
  have hP1 : 1 ≤ P := by omega
  have hP64 : P ≤ 64 := by omega
  have hR1 : 1 ≤ R := by omega
  have hR8 : R ≤ 8 := by omega
  have hFR : F < R := by omega
  have hAP : A < P := by omega
  rw [hP] at e3 e7
  rw [hR] at e4 e5
  have HPR := As.mk (And.intro hP hR)
  clear hq hs hpa hra hfa w1 w2 w3 w4 w5 hP hR hF hn hA
  go_enter Try.func9, Try.ntmps9
  have hP := HPR.out.1
  have hR := HPR.out.2
  go_wp2_with fail
  clear hP hR HPR e1 e2 e4
  refine (SNew_ok P R hP1 hP64 hR1 hR8).mono ?_
  rintro e w1 ⟨g, b, rfl, hS, hg, hb, hK⟩
  go_wp2_with fail
  refine awake12.mono ?_
  rintro e w2 ⟨rfl, hK'⟩
  replace hS := hS.kp hK' (fun x => x) (fun x => x)
  replace hK := hK.trans hK'
  clear hK'
  go_wp2
  have hst : ∃ L : List Sl, SlotsIn w2 g b P L R ∧ L.length = P ∧ (slAt L (A : Int)).st = 2 * (A : Int) := by
    have hlen : (sNew P).length = P := by simp [sNew]
    refine ⟨sNew P, hS, hlen, ?_⟩
    have hpl : pl (sNew P) (A : Int) = A := by unfold pl; rw [hlen]; have : (A : Int) % (P : Int) = A := Int.emod_eq_of_lt (by omega) (by omega); rw [this]; rfl
    unfold slAt; rw [hpl]; simp [sNew, List.getD, hAP]
  have HST := As.mk hst
  clear hst hS
  go_loopw [13, 53] (fun v13 v53 wr => ∃ i : Nat, i ≤ n + 1 ∧ v53 = .int .u64 i ∧ v13 = .int .u64 ((A : Int) + i * P) ∧ As (∃ L : List Sl, SlotsIn wr g b P L R ∧ L.length = P ∧ (slAt L ((A : Int) + i * P)).st = 2 * ((A : Int) + i * P)) ∧ Kp no w wr) (fun _ v53 _ => n + 1 - (intOf v53).toNat)
  case atStart => exact ⟨0, Nat.zero_le _, rfl, by simp, by simpa using HST, hK⟩
  case round =>
    clear HST hK
    obtain ⟨i, hi, rfl, rfl, hA, hK⟩ := hrel
    obtain ⟨L, hS, hL, hst⟩ := hA.out
    have hiP : (i : Int) * (P : Int) ≤ 5 * 64 := by
      have h1 : i * P ≤ 5 * 64 := Nat.mul_le_mul (by omega) hP64
      exact_mod_cast h1
    have hiP0 : 0 ≤ (i : Int) * (P : Int) := Int.mul_nonneg (by omega) (by omega)
    have hnx : (A : Int) + ((i + 1 : Nat) : Int) * P = (A : Int) + i * P + P := by rw [Int.natCast_add, Int.add_mul]; omega
    have HNX := As.mk hnx
    clear hnx hA
    generalize ha : (A : Int) + (i : Int) * P = a at hst HNX ⊢
    have ha0 : 0 ≤ a := by omega
    have ha1 : a < 1000 := by omega
    clear ha hiP hiP0
    by_cases hlt : i < n + 1
    · have hlt2 : (i : Int) < (n : Int) + 1 := by omega
      have ha62 : a < 4611686018427387904 := by omega
      have hfr := t_free hst ha62
      have hfr2 : sFree L (a + P) = false ∨ True := .inr trivial
      clear hfr2
      go_wp2_with fail
      refine (Free_ok hS ha0).mono ?_
      rintro e w3 ⟨rfl, hq⟩
      rw [hfr]
      replace hS := hS.qd hq
      replace hK := hK.qd hq
      clear hq hfr
      go_wp2_with fail
      refine (Put_any hS (v := v) ha0).mono ?_
      rintro e w4 ⟨rfl, hS', hK'⟩
      rw [t_put hst ha62] at hS'
      rw [t_put hst ha62]
      replace hK := hK.new hK' (fun i hi => by omega)
      have hpos := hS.pos
      have hat := slAt_set hpos a ⟨2 * a + 1, v, 2 ^ R - 1⟩
      have hl1 : (L.set (pl L a) ⟨2 * a + 1, v, 2 ^ R - 1⟩).length = P := by rw [List.length_set, hL]
      change SlotsIn w4 g b P (L.set (pl L a) ⟨2 * a + 1, v, 2 ^ R - 1⟩) R at hS'
      generalize L.set (pl L a) ⟨2 * a + 1, v, 2 ^ R - 1⟩ = L1 at hS' hat hl1
      clear hS hK' hst hL hpos
      have eaP : IntKind.u64.wrap (a + (P : Int)) = a + (P : Int) := u64_id (by omega) (by omega)
      have haP0 : 0 ≤ a + (P : Int) := by omega
      have hnf : sFree L1 (a + P) = false := t_nofree (a := a) _ (by rw [show (P : Int) = (L1.length : Int) from by rw [hl1], slAt_turn, hat])
      go_wp2_with fail
      refine (Free_ok hS' haP0).mono ?_
      rintro e w5 ⟨rfl, hq⟩
      rw [hnf]
      have hS2 := hS'.qd hq
      replace hK := hK.qd hq
      clear hq hnf hS'
      go_wp2
      obtain ⟨wo, rfl⟩ : ∃ wo : World, wo = w5 := ⟨_, rfl⟩
      have HI := As.mk (show ∃ L : List Sl, SlotsIn wo g b P L R ∧ L.length = P ∧ slAt L a = (if 0 < R then ⟨2 * a + 1, v, leftAt R F 0⟩ else ⟨2 * (a + P), 0, 0⟩) from by
        refine ⟨L1, hS2, hl1, ?_⟩
        rw [if_pos (by omega), (leftAt_all ⟨R, by omega⟩ ⟨F, by omega⟩ ⟨0, by omega⟩ hFR (by show 0 < R; omega)).1, hat])
      clear hS2 hl1 hat
      obtain ⟨wq, rfl⟩ : ∃ wq : World, wq = wr := ⟨_, rfl⟩
      go_loopw [75] (fun v75 wr => ∃ k : Nat, k ≤ R ∧ v75 = .int .i64 k ∧ As (∃ L : List Sl, SlotsIn wr g b P L R ∧ L.length = P ∧ slAt L a = (if k < R then ⟨2 * a + 1, v, leftAt R F k⟩ else ⟨2 * (a + P), 0, 0⟩)) ∧ Kp no w wr) (fun v75 _ => R - (intOf v75).toNat)
      case atStart => exact ⟨0, Nat.zero_le _, rfl, HI, hK⟩
      case round =>
        clear HI hK
        obtain ⟨k, hk, rfl, hI, hK⟩ := hrel
        obtain ⟨L2, hS, hl2, hat⟩ := hI.out
        clear hI
        by_cases hkR : k < R
        · rw [if_pos hkR] at hat
          have hkR2 : (k : Int) < (R : Int) := by omega
          obtain ⟨_, lb, l0, l1, ls, lz⟩ := leftAt_all ⟨R, by omega⟩ ⟨F, by omega⟩ ⟨k, by omega⟩ hFR hkR
          change leftAt R F k / 2 ^ ((F + k) % R) % 2 = 1 at lb
          change leftAt R F (k + 1) = leftAt R F k - 2 ^ ((F + k) % R) at ls
          change leftAt R F k - 2 ^ ((F + k) % R) = 0 ↔ k + 1 = R at lz
          have hjR : (F + k) % R < R := Nat.mod_lt _ (by omega)
          have hget := t_get (R := R) _ hat ha62 ((F + k) % R) hjR lb
          have hnf : sFree L2 (a + P) = false := t_nofree (a := a) _ (by rw [show (P : Int) = (L2.length : Int) from by rw [hl2], slAt_turn, hat])
          have ej : Int.tmod ((F : Int) + (k : Int)) (R : Int) = (((F + k) % R : Nat) : Int) := by
            rw [Int.tmod_eq_emod_of_nonneg (by omega)]; simp
          have HL := As.mk (And.intro hl2 (And.intro hat (And.intro ls lz)))
          generalize hjj : (F + k) % R = jj at hget ej hjR
          have HJ := As.mk hjj
          clear lb ls lz l0 l1 hat hl2 hjj
          go_wp2_with fail
          refine (Free_ok hS haP0).mono ?_
          rintro e w6 ⟨rfl, hq⟩
          rw [hnf]
          replace hS := hS.qd hq
          replace hK := hK.qd hq
          clear hq hnf
          go_wp2_with fail
          refine (Get_any hS (j := (jj : Int)) ha0).mono ?_
          rintro e w7 ⟨rfl, hS', hK'⟩
          rw [hget] at hS'
          rw [hget]
          replace hK := hK.new hK' (fun i hi => by omega)
          have hI2 : As (∃ L : List Sl, SlotsIn w7 g b P L R ∧ L.length = P ∧ slAt L a = (if k + 1 < R then ⟨2 * a + 1, v, leftAt R F (k + 1)⟩ else ⟨2 * (a + P), 0, 0⟩)) := by
            obtain ⟨hl2, hat, ls, lz⟩ := HL.out
            rw [HJ.out] at ls lz
            refine ⟨⟨_, hS', by rw [List.length_set, hl2], ?_⟩⟩
            rw [slAt_set hS.pos, hl2]
            by_cases hz : k + 1 = R
            · rw [if_pos (lz.2 hz), if_neg (by omega)]
            · rw [if_neg (fun h => hz (lz.1 h)), if_pos (by omega), ls]
          clear hS hS' hK' hget HL
          go_wp2
          exact ⟨⟨k + 1, by omega, by go_num, hI2, hK⟩, by simp [intOf]; omega⟩
        · have hkR2 : k = R := by omega
          subst hkR2
          rw [if_neg (by omega)] at hat
          have hI2 : As (∃ L : List Sl, SlotsIn wr g b P L k ∧ L.length = P ∧ (slAt L ((A : Int) + ((i + 1 : Nat) : Int) * P)).st = 2 * ((A : Int) + ((i + 1 : Nat) : Int) * P)) := by
            refine ⟨⟨L2, hS, hl2, ?_⟩⟩
            rw [HNX.out, show (P : Int) = (L2.length : Int) from by rw [hl2], slAt_turn, hat, hl2]
          have hex : Value.int .u64 (a + (P : Int)) = Value.int .u64 ((A : Int) + ((i + 1 : Nat) : Int) * P) := by rw [HNX.out]
          have HEX := As.mk hex
          clear hS hat hl2 hex
          go_wp2
          exact ⟨⟨i + 1, by omega, by go_num, HEX.out, hI2, hK⟩, by simp [intOf]; omega⟩
    · have hfr := t_free hst (by omega)
      have hnlt : ¬ (i : Int) < (n : Int) + 1 := by omega
      go_wp2_with fail
      refine (Free_ok hS ha0).mono ?_
      rintro e w3 ⟨rfl, hq⟩
      rw [hfr]
      replace hK := hK.qd hq
      clear hq hfr hS
      go_wp2
      go_ret
      exact ⟨rfl, hK⟩
end Go.Proofs.Ytmejnhfggmmefaa.H
