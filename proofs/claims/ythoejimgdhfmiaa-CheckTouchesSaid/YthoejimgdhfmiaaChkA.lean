/- Layer 11, plainly: the program's and the reference's answers about an instruction are one. No condition. -/
import Derived.Test.YthoejimgdhfmiaaPCheckTellsx3
import Derived.Test.YthoejimgdhfmiaaRefCheck
namespace Go.Proofs.Ythoejimgdhfmiaa.H
open Go.RowKit Go.Proofs.Ythoejimgdhfmiaa.PCheckTells Go.Proofs.YthoejimgdhfmiaaW.PrintWords Go.Proofs.YthoejimgdhfmiaaW.PrintLast Go.Proofs.YthoejimgdhfmiaaW.PrintMore
set_option linter.unusedVariables false
set_option linter.unusedSimpArgs false

theorem ifs {p : Prop} [Decidable p] (b : Bool) : (if p then some b else some false) = some (decide p && b) := by by_cases h : p <;> simp [h]
theorem ifn {p : Prop} [Decidable p] (b : Bool) : (if p then some false else some b) = some (!decide p && b) := by by_cases h : p <;> simp [h]
/-- the limits of what an instruction names -/
def lim (op : Int) : Int × Int × Int × Int × Int × Bool :=
  if op = 1 then (7, 0, 0, 0, 18446744073709551615, true) else if op = 2 ∨ op = 23 then (7, 7, 0, 0, 0, true) else if op = 15 then (0, 0, 0, 0, 256, true) else if op = 16 ∨ op = 17 then (7, 0, 0, 0, 256, true)
  else if op = 18 then (7, 7, 7, 2, 0, true) else if op = 19 then (7, 7, 7, 2, 7, true) else if op = 20 then (0, 0, 7, 0, 0, true) else if op = 21 ∨ op = 22 ∨ op = 24 then (7, 0, 0, 0, 0, true)
  else if op = 25 then (0, 0, 0, 0, 0, true) else if 3 ≤ op ∧ op ≤ 14 then (7, 7, 7, 0, 0, true) else (7, 7, 7, 0, 0, false)
theorem op_cases (op : Int) : (op = 1 ∨ op = 2 ∨ op = 3 ∨ op = 4 ∨ op = 5 ∨ op = 6 ∨ op = 7 ∨ op = 8 ∨ op = 9 ∨ op = 10 ∨ op = 11 ∨ op = 12 ∨ op = 13 ∨ op = 14 ∨ op = 15 ∨ op = 16 ∨ op = 17 ∨ op = 18 ∨ op = 19 ∨ op = 20 ∨ op = 21 ∨ op = 22 ∨ op = 23 ∨ op = 24 ∨ op = 25) ∨ (op < 1 ∨ 25 < op) := by omega
theorem lim_eq (k : Nat) (op : Int) : code_limit.f (k + 4) op = some (lim op) := by
  rcases op_cases op with h | h
  · rcases h with rfl | rfl | rfl | rfl | rfl | rfl | rfl | rfl | rfl | rfl | rfl | rfl | rfl | rfl | rfl | rfl | rfl | rfl | rfl | rfl | rfl | rfl | rfl | rfl | rfl <;> rfl
  · have n : ∀ c : Int, 1 ≤ c → c ≤ 25 → ¬ op = c := fun c h1 h2 => by omega
    have b : ∀ c : Int, 1 ≤ c → c ≤ 25 → (op == c) = false := fun c h1 h2 => by simp; exact n c h1 h2
    have p : code_Plain.f op = some false := by
      unfold code_Plain.f
      by_cases h1 : op ≥ 1
      · rw [if_pos h1, decide_eq_false (by omega)]
      · rw [if_neg h1]
    unfold code_limit.f
    rw [if_neg (n 1 (by decide) (by decide)), if_neg (n 2 (by decide) (by decide)), b 23 (by decide) (by decide)]
    simp only [code_limit.j0]
    rw [if_neg (by decide), if_neg (n 15 (by decide) (by decide)), if_neg (n 16 (by decide) (by decide)), b 17 (by decide) (by decide)]
    simp only [code_limit.j1]
    rw [if_neg (by decide), if_neg (n 18 (by decide) (by decide)), if_neg (n 19 (by decide) (by decide)), if_neg (n 20 (by decide) (by decide)), if_neg (n 21 (by decide) (by decide)), if_neg (n 22 (by decide) (by decide)), b 24 (by decide) (by decide)]
    simp only [code_limit.j2]
    rw [if_neg (by decide), if_neg (n 25 (by decide) (by decide)), p]
    unfold lim
    rw [if_neg (n 1 (by decide) (by decide)), if_neg (by omega), if_neg (by omega), if_neg (by omega), if_neg (by omega), if_neg (by omega), if_neg (by omega), if_neg (by omega), if_neg (by omega), if_neg (by omega)]
    rfl
def rightB (x : S48) : Bool :=
  decide ((lim x.f0).2.2.2.2.2 = true) && (decide (x.f1 ≥ 0) && (decide (x.f1 ≤ (lim x.f0).1) && (decide (x.f2 ≥ 0) && (decide (x.f2 ≤ (lim x.f0).2.1) && (decide (x.f3 ≥ 0) && (decide (x.f3 ≤ (lim x.f0).2.2.1) && (decide (x.f4 ≥ 0) && (decide (x.f4 ≤ (lim x.f0).2.2.2.1) && decide (x.f5 ≤ (lim x.f0).2.2.2.2.1)))))))))
theorem cRight_eq (k : Nat) (x : S48) : code_Right.f (k + 4) x.f0 x.f1 x.f2 x.f3 x.f4 x.f5 = some (rightB x) := by
  unfold code_Right.f
  rw [lim_eq]
  simp only [Option.bind_some, ifs]
  rfl
/-- the reference's -/
def mo (c : Int) : Int := if c = 114 ∨ c = 103 ∨ c = 100 then 7 else if c = 109 then 2 else if c = 112 then 256 else if c = 110 then 18446744073709551615 else 0
theorem most_eq (k : Nat) (c : Int) : rondeauref09_most.f (k + 1) c = some (mo c) := by
  unfold rondeauref09_most.f mo
  simp only [rondeauref09_most.j0]
  by_cases h1 : c = 114
  · subst h1; rfl
  · by_cases h2 : c = 103
    · subst h2; rfl
    · by_cases h3 : c = 100
      · subst h3; rfl
      · rw [if_neg h1, if_neg h2, if_neg (show ¬ (c == 100) = true by simpa using h3), if_neg (show ¬ (c = 114 ∨ c = 103 ∨ c = 100) by omega)]
        by_cases h4 : c = 109
        · rw [if_pos h4, if_pos h4]
        · rw [if_neg h4, if_neg h4]
          by_cases h5 : c = 112
          · rw [if_pos h5, if_pos h5]
          · rw [if_neg h5, if_neg h5]
            by_cases h6 : c = 110
            · rw [if_pos h6, if_pos h6]
            · rw [if_neg h6, if_neg h6]
def wf48 (x : S48) : Prop := (-9223372036854775808 ≤ x.f1 ∧ x.f1 ≤ 9223372036854775807) ∧ (-9223372036854775808 ≤ x.f2 ∧ x.f2 ≤ 9223372036854775807) ∧ (-9223372036854775808 ≤ x.f3 ∧ x.f3 ≤ 9223372036854775807) ∧ (-9223372036854775808 ≤ x.f4 ∧ x.f4 ≤ 9223372036854775807) ∧ (0 ≤ x.f5 ∧ x.f5 < 18446744073709551616)
def okx (x m : Int) : Bool := !decide (x < 0) && !decide (x > m)
theorem rl_step (K : Nat) (hm : ∀ c, rondeauref09_most.f K c = some (mo c)) (s : ByteArray) (hs : s.size = 5) (a b c d : Int) (i : Int) (h0 : 0 ≤ i) (h1 : i < 4) (x : Int) (hx : rd [a, b, c, d] i = x) (hb : x ≤ 9223372036854775807) (r : Bool) (hr : rondeauref09_Right.l0 K s [a, b, c, d] (i + 1) = some r) :
    rondeauref09_Right.l0 (K + 1) s [a, b, c, d] i = some (okx x (mo (bt s i)) && r) := by
  simp only [rondeauref09_Right.l0]
  rw [if_pos h1, if_pos h0, if_pos (show i < (([a, b, c, d] : List Int).length : Int) from h1), hx, hm, show wrap64 (i + 1) = i + 1 from by unfold wrap64; omega, hr, if_pos (show i < (s.size : Int) by omega)]
  unfold okx
  by_cases hn : x < 0
  · rw [if_pos hn, decide_eq_true hn]; rfl
  · rw [if_neg hn, decide_eq_false hn]
    have hw : IntKind.u64.wrap x = x := by rw [IntKind.wrap_u64]; omega
    simp only [Option.bind_some, hw]
    rw [ifn]
    rfl
theorem rl_eq (k : Nat) (s : ByteArray) (hs : s.size = 5) (x : S48) (hw : wf48 x) : rondeauref09_Right.l0 (k + 6) s [x.f1, x.f2, x.f3, x.f4] 0 = some (okx x.f1 (mo (bt s 0)) && (okx x.f2 (mo (bt s 1)) && (okx x.f3 (mo (bt s 2)) && (okx x.f4 (mo (bt s 3)) && true)))) := by
  obtain ⟨h1, h2, h3, h4, -⟩ := hw
  have e4 : rondeauref09_Right.l0 (k + 2) s [x.f1, x.f2, x.f3, x.f4] 4 = some true := by simp only [rondeauref09_Right.l0]; rw [if_neg (by decide)]
  have e3 := rl_step (k + 2) (most_eq (k + 1)) s hs x.f1 x.f2 x.f3 x.f4 3 (by decide) (by decide) x.f4 rfl h4.2 true e4
  have e2 := rl_step (k + 3) (most_eq (k + 2)) s hs x.f1 x.f2 x.f3 x.f4 2 (by decide) (by decide) x.f3 rfl h3.2 _ e3
  have e1 := rl_step (k + 4) (most_eq (k + 3)) s hs x.f1 x.f2 x.f3 x.f4 1 (by decide) (by decide) x.f2 rfl h2.2 _ e2
  exact rl_step (k + 5) (most_eq (k + 4)) s hs x.f1 x.f2 x.f3 x.f4 0 (by decide) (by decide) x.f1 rfl h1.2 _ e1
theorem rr_of (k : Nat) (s : ByteArray) (hs : s.size = 5) (x : S48) (hw : wf48 x) (hf : rondeauref09_form.f (k + 7) x.f0 = some s) (hne : s.toList ≠ []) (hl : (lim x.f0).2.2.2.2.2 = true) (h0 : mo (bt s 0) = (lim x.f0).1) (h1 : mo (bt s 1) = (lim x.f0).2.1) (h2 : mo (bt s 2) = (lim x.f0).2.2.1) (h3 : mo (bt s 3) = (lim x.f0).2.2.2.1) (h4 : mo (bt s 4) = (lim x.f0).2.2.2.2.1) :
    rondeauref09_Right.f (k + 7) x.f0 x.f1 x.f2 x.f3 x.f4 x.f5 = some (rightB x) := by
  unfold rondeauref09_Right.f
  rw [hf]
  simp only [Option.bind_some]
  rw [if_neg hne, if_pos (show 4 < (s.size : Int) by omega), most_eq]
  simp only [Option.bind_some]
  simp only [rondeauref09_Right.j0]
  rw [rl_eq k s hs x hw, h0, h1, h2, h3, h4]
  unfold rightB okx
  rw [hl]
  by_cases hk : x.f5 > (lim x.f0).2.2.2.2.1
  · rw [decide_eq_true hk, if_pos rfl, decide_eq_false (show ¬ x.f5 ≤ (lim x.f0).2.2.2.2.1 by omega)]
    simp
  · rw [decide_eq_false hk, if_neg (by decide), decide_eq_true (show x.f5 ≤ (lim x.f0).2.2.2.2.1 by omega)]
    congr 1
    rw [Bool.eq_iff_iff]
    refine ⟨fun h => ?_, fun h => ?_⟩ <;> simp at h ⊢ <;> omega
theorem rRight_eq (k : Nat) (x : S48) (hw : wf48 x) : rondeauref09_Right.f (k + 7) x.f0 x.f1 x.f2 x.f3 x.f4 x.f5 = some (rightB x) := by
  rcases op_cases x.f0 with h | h
  · obtain ⟨op, a, b, c, d, K⟩ := x
    dsimp only at h
    rcases h with rfl | rfl | rfl | rfl | rfl | rfl | rfl | rfl | rfl | rfl | rfl | rfl | rfl | rfl | rfl | rfl | rfl | rfl | rfl | rfl | rfl | rfl | rfl | rfl | rfl <;>
      exact rr_of k _ rfl _ hw rfl (fun h => by rw [ByteArray.toList_eq] at h; cases h) rfl rfl rfl rfl rfl rfl
  · have n : ∀ c : Int, 1 ≤ c → c ≤ 25 → ¬ x.f0 = c := fun c h1 h2 => by omega
    have b : ∀ c : Int, 1 ≤ c → c ≤ 25 → (x.f0 == c) = false := fun c h1 h2 => by simp; exact n c h1 h2
    have f : rondeauref09_form.f (k + 7) x.f0 = some (⟨#[]⟩ : ByteArray) := by
      unfold rondeauref09_form.f
      rw [if_neg (n 1 (by decide) (by decide)), if_neg (n 2 (by decide) (by decide)), b 23 (by decide) (by decide)]
      simp only [rondeauref09_form.j0]
      rw [if_neg (by decide)]
      have e : (if x.f0 ≥ 3 then rondeauref09_form.j1 (k + 6) x.f0 (decide (x.f0 ≤ 14)) else rondeauref09_form.j1 (k + 6) x.f0 false) = rondeauref09_form.j1 (k + 6) x.f0 false := by
        by_cases h3 : x.f0 ≥ 3
        · rw [if_pos h3, decide_eq_false (by omega)]
        · rw [if_neg h3]
      rw [e]
      simp only [rondeauref09_form.j1]
      rw [if_neg (by decide), if_neg (n 15 (by decide) (by decide)), if_neg (n 16 (by decide) (by decide)), b 17 (by decide) (by decide)]
      simp only [rondeauref09_form.j2]
      rw [if_neg (by decide), if_neg (n 18 (by decide) (by decide)), if_neg (n 19 (by decide) (by decide)), if_neg (n 20 (by decide) (by decide)), if_neg (n 21 (by decide) (by decide)), if_neg (n 22 (by decide) (by decide)), b 24 (by decide) (by decide)]
      simp only [rondeauref09_form.j3]
      rw [if_neg (by decide), if_neg (n 25 (by decide) (by decide))]
    have hl : (lim x.f0).2.2.2.2.2 = false := by
      unfold lim
      rw [if_neg (n 1 (by decide) (by decide)), if_neg (by omega), if_neg (by omega), if_neg (by omega), if_neg (by omega), if_neg (by omega), if_neg (by omega), if_neg (by omega), if_neg (by omega), if_neg (by omega)]
    unfold rondeauref09_Right.f
    rw [f]
    simp only [Option.bind_some]
    rw [if_pos (show (⟨#[]⟩ : ByteArray).toList = [] by rw [ByteArray.toList_eq])]
    simp only [rondeauref09_Right.j0]
    rw [if_pos trivial]
    unfold rightB
    rw [hl]
    rfl
end Go.Proofs.Ythoejimgdhfmiaa.H
