/- Regions that draw their order, whose callees only make memory: walked once. No condition. -/
import Derived.Test.YtmejnhfggmmefaaSeq
import Derived.Lib.QuietBelow
namespace Go.Proofs.Ytmejnhfggmmefaa.H
open Go.RowKit Go.Sort
set_option linter.unusedVariables false
set_option linter.unusedSimpArgs false
theorem kp_grow (w : World) (d : Nat) (os : Array Obj) : Kp no w (grow (redrawn w d) os) := Kp.of_below (below_regrown w d os)
theorem reg_kp {P : Program} {id : Nat} {Q : Exit → Act → World → Prop} {a : Act} {w : World} {l : List Oper} (hm : P.follows .mixedOrders = true) (hB : Region.lexB .any l.toArray = true)
    (h : wpQuiet P l.toArray (fun w' => ∃ p : Regrown, w' = grow (redrawn w p.d) p.os) (fun a' => ∀ w', Kp no w w' → Q .normal a' w') l a) : (Code.region id l.toArray true).wp P Q a w := by
  have mono : ∀ (l : List Oper) (ops : Array Oper) (C : World → Prop) (Q1 Q2 : Act → Prop) (a : Act), (∀ a, Q1 a → Q2 a) → wpQuiet P ops C Q1 l a → wpQuiet P ops C Q2 l a := by
    intro l
    induction l with
    | nil => intro ops C Q1 Q2 a hq h; exact hq a h
    | cons o l ih =>
      intro ops C Q1 Q2 a hq h
      unfold wpQuiet at h ⊢
      split
      · rename_i hw; rw [if_pos hw] at h; exact Oper.quiet_mono (fun a h => ih ops C Q1 Q2 a hq h) h
      · rename_i hw; rw [if_neg hw] at h; exact ih ops C Q1 Q2 _ hq h
  refine wp_region_quiet_below hm hB (mono l _ _ _ _ a (fun a' h w' hw => ?_) h)
  obtain ⟨p, rfl⟩ := hw
  exact h _ (kp_grow w p.d p.os)
theorem kq_of {P : Program} {f : FuncId} {args : Array Value} {w : World} {d : Nat} {os : Array Obj} {v : Value}
    (h : Calls P f args (grow (redrawn w d) os) fun e w' => e = .returned v ∧ Kp no (grow (redrawn w d) os) w') : Calls P f args (grow (redrawn w d) os) fun e w'' => e = .returned v ∧ ∃ p : Regrown, w'' = grow (redrawn w p.d) p.os :=
  Calls.regrown_of (h.mono fun _ _ ⟨he, hk⟩ => ⟨he, hk.below⟩)
theorem kq_same {P : Program} {f : FuncId} {args : Array Value} {w : World} {d : Nat} {os : Array Obj} {v : Value}
    (h : Calls P f args (grow (redrawn w d) os) fun e w' => e = .returned v ∧ w' = grow (redrawn w d) os) : Calls P f args (grow (redrawn w d) os) fun e w'' => e = .returned v ∧ ∃ p : Regrown, w'' = grow (redrawn w p.d) p.os :=
  h.mono fun _ _ ⟨he, hw⟩ => ⟨he, ⟨d, os⟩, hw⟩
theorem kq_qd {P : Program} {f : FuncId} {args : Array Value} {w : World} {d : Nat} {os : Array Obj} {v : Value}
    (h : Calls P f args (grow (redrawn w d) os) fun e w' => e = .returned v ∧ QD (grow (redrawn w d) os) w') : Calls P f args (grow (redrawn w d) os) fun e w'' => e = .returned v ∧ ∃ p : Regrown, w'' = grow (redrawn w p.d) p.os :=
  kq_of (h.mono fun _ _ ⟨he, hq⟩ => ⟨he, Kp.of_qd hq⟩)
theorem cell_grow {w : World} {a : Addr} {v : Value} (h : w.cell? a = some v) : ∀ (d : Nat) (os : Array Obj), (grow (redrawn w d) os).cell? a = some v := fun d os => cell_regrown h d os
end Go.Proofs.Ytmejnhfggmmefaa.H
