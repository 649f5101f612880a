/- append to an empty row, where the order is open. No condition. -/
import Derived.Test.YtmejnhfggmmefaaSeq
namespace Go.Proofs.Ytmejnhfggmmefaa.H
open Go.RowKit
set_option linter.unusedVariables false
set_option linter.unusedSimpArgs false
/-- append of what can be read to an empty row, just made, in a region whose order is open. -/
theorem step_clone {P : Program} {w : World} {ops : Array Oper} {o : Oper} {a : Act} {K : Act → World → Prop} {Q : Exit → Act → World → Prop} {E : Prop} (hgd : o.guard = none) (s x : Operand) (t e : TypeId)
    (ho : o.op = .call { callee := .builtin .append, args := #[s, x], argTypes := #[t, t] }) (ht : P.underlying t = some (.slice e))
    {z : Value} {size bytes : Nat} (hi : (P.info? e).map (fun i => (i.zero, i.size, i.bytes)) = some (some z, size, bytes)) (hzs : z.cells.size = size) (hsz : 0 < size)
    (base : Nat) {b : Nat} {vx : Value} {m : Nat} {news : List Value} (hs : a.eval s = .slice (some ⟨b, 0, none⟩) 0 0) (hx : a.eval x = vx) (hb : w.heap[b]? = some (.cells #[] e (0, 0))) (hbase : base ≤ b) (hr : Rd w vx m news) (hl : news.length = m * size) (h1 : ∀ u ∈ news, u.oneCell' = true)
    (h63 : m ≤ 1099511627776) (hby : m * bytes ≤ 140737488355328)
    (h : ∀ v' w', w'.ownsRow base e size v' m news → Kp (· = b) w w' → (∀ k, v'.ownBlock = some k → k = b ∨ k = w.heap.size) → K (a.put o.dst v') w') :
    if Region.wanted o (yielded ops a.tmps) = true then Oper.wp P o a w K Q else E := by
  rw [if_pos (by simp [Region.wanted, hgd])]
  obtain ⟨i, h2, h3, h4, h5⟩ := info_at hi
  obtain ⟨A, c, rfl, g1, g2, g3, g4⟩ := hr
  have hown := own_empty (size := size) hb hbase
  have hK : ∀ v' w', w'.ownsRow base e size v' m news → Kp (fun k => (Value.slice (some ⟨b, 0, none⟩) 0 0).ownBlock = some k) w w' → (v'.ownBlock = (Value.slice (some ⟨b, 0, none⟩) 0 0).ownBlock ∨ v'.ownBlock = some w.heap.size) → K (a.put o.dst v') w' := by
    intro v' w' q1 q2 q3
    refine h v' w' q1 (q2.mono (fun k e => (Option.some.inj e).symm)) (fun k hk => ?_)
    rcases q3 with q3 | q3
    · left; rw [hk] at q3; exact Option.some.inj q3
    · right; rw [hk] at q3; exact Option.some.inj q3
  unfold Oper.wp execOp
  cases A with
  | none =>
    obtain ⟨rfl, rfl, rfl⟩ := g3 rfl
    simp only [ho, resolve, invoke, builtin, Sem.run_bind, Sem.run_pure, Result.andThen_ok, List.map_toArray, List.map_cons, List.map_nil, hs, hx, run_append_owned_none (P := P) (w := w) base t o.type e i size ht h2 _ 0 [] hown]
    exact hK _ w hown (Kp.refl _ w) (.inl rfl)
  | some ad =>
    obtain ⟨v', w', hr', q2, q3, q4, q5⟩ := run_append_own_at (P := P) w base t o.type e i z size bytes ht h2 h3 h4 h5 hzs hsz _ 0 [] hown ad m c news hl (g4 ad rfl) h1 (by unfold maxLen; omega) (by rw [Nat.zero_add]; exact hby) (by have := bk_lt hb; omega)
    simp only [ho, resolve, invoke, builtin, Sem.run_bind, Sem.run_pure, Result.andThen_ok, List.map_toArray, List.map_cons, List.map_nil, hs, hx, hr']
    exact hK v' w' (by simpa using q2) (Kp.of_grown q3) q5
end Go.Proofs.Ytmejnhfggmmefaa.H
