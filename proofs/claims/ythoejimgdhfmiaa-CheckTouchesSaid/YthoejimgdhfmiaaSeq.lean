/- Regions that draw their order, walked in the order of their text: reads first, one chain of writes behind. No condition. -/
import Derived.Test.YthoejimgdhfmiaaBase
import Derived.Laws.AppendOwnNone
namespace Go.Proofs.Ythoejimgdhfmiaa.H
open Go.RowKit
set_option linter.unusedVariables false
set_option linter.unusedSimpArgs false

def NoQ : Exit → Act → World → Prop := fun _ _ _ => False
/-- Operations that yield a value, or nothing, and enter nobody. -/
def plainOp : Op → Bool
  | .call c => (match c.callee with | .builtin .len | .builtin .cap | .builtin .min | .builtin .max => true | _ => false)
  | .go _ | .defer _ | .send .. | .recv .. | .select .. => false
  | _ => true
def ValOnly (s : Sem Next) : Prop := ∀ P w n w', s.run P w = .ok n w' → (∃ v, n = .value v) ∨ n = .skip
theorem ValOnly.val (v : Value) : ValOnly (pure (.value v)) := fun P w n w' h => by simp at h; exact .inl ⟨v, h.1.symm⟩
theorem ValOnly.skip : ValOnly (pure .skip) := fun P w n w' h => by simp at h; exact .inr h.1.symm
theorem ValOnly.bind {α : Type} {s : Sem α} {f : α → Sem Next} (h : ∀ x, ValOnly (f x)) : ValOnly (s >>= f) := fun P w n w' hr => by
  rw [Sem.run_bind] at hr
  cases hs : Sem.run P s w with
  | ok v w2 => rw [hs] at hr; exact h v P w2 n w' hr
  | halt x w2 => rw [hs] at hr; simp at hr
theorem ValOnly.halt (x : Halt) : ValOnly (.halt x) := fun P w n w' h => by simp at h
theorem ValOnly.panic (e : RuntimeError) : ValOnly (runtimePanic e) := by
  unfold runtimePanic
  refine ValOnly.bind fun p => ?_
  dsimp only
  split
  all_goals first | exact ValOnly.halt _ | (refine ValOnly.bind fun _ => ?_; exact ValOnly.halt _) | (refine ValOnly.bind fun _ => ?_; refine ValOnly.bind fun _ => ?_; exact ValOnly.halt _)
theorem plain_run {ρ : Operand → Value} {o : Oper} (hp : plainOp o.op = true) : ValOnly (execOp ρ o) := by
  obtain ⟨dst, op, type, pos, after, guard⟩ := o
  cases op <;> simp only [plainOp] at hp <;> simp only [execOp]
  all_goals first
    | (cases hp; done)
    | exact ValOnly.val _
    | exact ValOnly.bind fun _ => ValOnly.val _
    | exact ValOnly.bind fun _ => ValOnly.skip
    | skip
  · split
    all_goals first
      | exact ValOnly.panic _
      | exact ValOnly.val _
      | skip
    split
    all_goals first
      | exact ValOnly.panic _
      | exact ValOnly.val _
      | skip
    refine ValOnly.bind fun _ => ?_
    refine ValOnly.bind fun _ => ?_
    split
    · exact ValOnly.bind fun _ => ValOnly.val _
    · exact ValOnly.val _
  · rename_i c
    obtain ⟨callee, args, ats⟩ := c
    dsimp only at hp ⊢
    split at hp
    all_goals first
      | (cases hp; done)
      | (simp only [resolve, pure_bind, invoke, builtin]; exact ValOnly.bind fun _ => ValOnly.val _)
theorem still_of_wp {P : Program} {o : Oper} {a : Act} {w : World} {K : Act → Prop} (hp : plainOp o.op = true) (h : o.wp P a w (fun a' w' => w' = w ∧ K a') NoQ) : o.still P a w K := by
  unfold Oper.wp at h
  unfold Oper.still
  generalize hr : (execOp a.eval o).run P w = r at h ⊢
  cases r with
  | ok n w' =>
    rcases plain_run hp P w n w' hr with ⟨v, rfl⟩ | rfl
    · exact h
    · exact h
  | halt x w' =>
    cases x <;> simp only [Oper.upon] at h <;> exact h.elim
section
variable {P : Program} {ops : Array Oper} {w : World} {Q : Act → Prop} {o : Oper} {rest : List Oper} {a : Act}
theorem wpStill_op (hp : plainOp o.op = true) (hg : o.guard = none) (h : ∀ K : Act → World → Prop, (∀ a', wpStill P ops w Q rest a' → K a' w) → o.wp P a w K NoQ) : wpStill P ops w Q (o :: rest) a := by
  unfold wpStill
  rw [if_pos (by simp [Region.wanted, hg])]
  exact still_of_wp hp (h (fun a' w' => w' = w ∧ wpStill P ops w Q rest a') (fun a' h => ⟨rfl, h⟩))
theorem wpStill_want (hp : plainOp o.op = true) (hg : Region.wanted o (yielded ops a.tmps) = true) (h : ∀ K : Act → World → Prop, (∀ a', wpStill P ops w Q rest a' → K a' w) → o.wp P a w K NoQ) : wpStill P ops w Q (o :: rest) a := by
  unfold wpStill
  rw [if_pos hg]
  exact still_of_wp hp (h (fun a' w' => w' = w ∧ wpStill P ops w Q rest a') (fun a' h => ⟨rfl, h⟩))
theorem wpStill_skip (hg : Region.wanted o (yielded ops a.tmps) = false) (h : wpStill P ops w Q rest (a.put o.dst undef)) : wpStill P ops w Q (o :: rest) a := by
  unfold wpStill
  rw [if_neg (by rw [hg]; decide)]
  exact h
end
theorem reg_tail {P : Program} {id : Nat} {Q : Exit → Act → World → Prop} {a : Act} {w : World} {l : List Oper} (n : Nat) (hm : P.follows .mixedOrders = true) (hB : Region.lexTailB .any l.toArray n = true)
    (h : wpStill P l.toArray w.drew (fun a' => wpList P l.toArray Q (l.drop n) a' w.drew) (l.take n) a) : (Code.region id l.toArray true).wp P Q a w := wp_region_still_tail n hm hB h
theorem reg_still {P : Program} {id : Nat} {Q : Exit → Act → World → Prop} {a : Act} {w : World} {l : List Oper} (hm : P.follows .mixedOrders = true) (hB : Region.lexB .any l.toArray = true)
    (h : wpStill P l.toArray w.drew (fun a' => Q .normal a' w.drew) l a) : (Code.region id l.toArray true).wp P Q a w := wp_region_still_lit hm hB h
section
variable {w W : World} {o : Obj} {b g i : Nat} {cs : Array Value} {T : TypeId} {v : Value} {S : Nat → Prop}
theorem st_same (h : W.heap[b]? = some (.cells cs T (0, 0))) : (W.setCell ⟨b, i, none⟩ v).heap[b]? = some (.cells (cs.setIfInBounds i v) T (0, 0)) := bk_set h i v rfl
theorem st_far (hn : b ≠ g) (h : W.heap[b]? = some o) : (W.setCell ⟨g, i, none⟩ v).heap[b]? = some o := bk_far h (p := ⟨g, i, none⟩) hn v
theorem st_drew (h : W.heap[b]? = some o) : W.drew.heap[b]? = some o := h
theorem st_alloc {o' : Obj} (h : W.heap[b]? = some o) : (W.alloc o').heap[b]? = some o := bk_alloc h o'
theorem st_new (h : W.heap.size = b) : (W.alloc o).heap[b]? = some o := by subst h; exact heap_alloc_new W o
theorem kp_drew (h : Kp S w W) : Kp S w W.drew := h.drew
theorem kp_new (hg : w.heap.size ≤ g) (h : Kp S w W) : Kp S w (W.setCell ⟨g, i, none⟩ v) := h.setNew ⟨g, i, none⟩ hg v
theorem kp_in (hg : S g) (h : Kp S w W) : Kp S w (W.setCell ⟨g, i, none⟩ v) := h.setCell ⟨g, i, none⟩ hg v
theorem kp_alloc (h : Kp S w W) : Kp S w (W.alloc o) := h.alloc o
theorem sz_set : (W.setCell ⟨g, i, none⟩ v).heap.size = W.heap.size := by simp [World.setCell]
theorem sz_drew : W.drew.heap.size = W.heap.size := rfl
theorem sz_alloc : (W.alloc o).heap.size = W.heap.size + 1 := by simp
end
theorem info_at {P : Program} {e : TypeId} {z : Value} {size bytes : Nat} (h : (P.info? e).map (fun i => (i.zero, i.size, i.bytes)) = some (some z, size, bytes)) : ∃ i, P.info? e = some i ∧ i.zero = some z ∧ i.size = size ∧ i.bytes = bytes := by
  cases hi : P.info? e with
  | none => rw [hi] at h; cases h
  | some i =>
    rw [hi] at h
    have h := Option.some.inj h
    injection h with h1 h2
    injection h2 with h2 h3
    exact ⟨i, rfl, h1, h2, h3⟩
theorem Kp.of_grown {a b : World} {row : Option Nat} (h : a.grownBy b row) : Kp (fun k => row = some k) a b :=
  ⟨h.os, h.tape, h.output, h.size, fun k hk hn => h.block k hk (fun e => hn e.symm)⟩
/-- append of what can be read to a row that is owned. -/
theorem wp_append {P : Program} {w : World} {ops : Array Oper} {rest : List Oper} {o : Oper} {a : Act} {Q : Exit → Act → World → Prop} (hgd : o.guard = none) (s x : Operand) (t e : TypeId)
    (ho : o.op = .call { callee := .builtin .append, args := #[s, x], argTypes := #[t, t] }) (ht : P.underlying t = some (.slice e))
    {z : Value} {size bytes : Nat} (hi : (P.info? e).map (fun i => (i.zero, i.size, i.bytes)) = some (some z, size, bytes)) (hzs : z.cells.size = size) (hsz : 0 < size)
    (base : Nat) {vs vx : Value} {n m : Nat} {xs news : List Value} (hs : a.eval s = vs) (hx : a.eval x = vx) (hown : w.ownsRow base e size vs n xs) (hr : Rd w vx m news) (hl : news.length = m * size) (h1 : ∀ u ∈ news, u.oneCell' = true)
    (h63 : n + m ≤ 1099511627776) (hby : (n + m) * bytes ≤ 140737488355328) (hbase : base ≤ w.heap.size)
    (h : ∀ v' w', w'.ownsRow base e size v' (n + m) (xs ++ news) → Kp (fun k => vs.ownBlock = some k) w w' → (v'.ownBlock = vs.ownBlock ∨ v'.ownBlock = some w.heap.size) → wpList P ops Q rest (a.put o.dst v') w') :
    wpList P ops Q (o :: rest) a w := by
  obtain ⟨i, h2, h3, h4, h5⟩ := info_at hi
  obtain ⟨A, c, rfl, g1, g2, g3, g4⟩ := hr
  cases A with
  | none =>
    obtain ⟨rfl, rfl, rfl⟩ := g3 rfl
    refine wpList_append_own_none hgd s x t ho base e i size ht h2 vs n xs hs hown hx ?_
    exact h vs w (by simpa using hown) (Kp.refl _ w) (.inl rfl)
  | some ad =>
    refine wpList_append_own_at _ hgd s x t ho base e i z size bytes ht h2 h3 h4 h5 hzs hsz vs n xs hs hown ad m c news hx hl (g4 ad rfl) h1 (by unfold maxLen; omega) hby hbase ?_
    intro v' w' q1 q2 _ q4
    exact h v' w' q1 (Kp.of_grown q2) q4
/-- an empty row, just made -/
theorem own_empty {w : World} {b : Nat} {e : TypeId} {size base : Nat} (hb : w.heap[b]? = some (.cells #[] e (0, 0))) (h : base ≤ b) : w.ownsRow base e size (.slice (some ⟨b, 0, none⟩) 0 0) 0 [] :=
  ⟨by simp, .inr ⟨b, 0, #[], rfl, h, hb, Nat.le_refl _, Nat.zero_le _, by simp, by simp⟩⟩
end Go.Proofs.Ythoejimgdhfmiaa.H
