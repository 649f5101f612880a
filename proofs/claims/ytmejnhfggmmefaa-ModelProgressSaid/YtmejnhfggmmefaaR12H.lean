/- Layer 12's reference: Same, of the same places. No condition. -/
import Derived.Test.YtmejnhfggmmefaaR12B
import Derived.Laws.StructEq
namespace Go.Proofs.Ytmejnhfggmmefaa.H
open Go.RowKit
set_option linter.unusedVariables false
set_option linter.unusedSimpArgs false

section
variable {P : Program} {d : Nat} {xs ys : Array Value} {f : Field} {fs : List Field} {a b : Value} {r s : Bool} {w : World}
theorem eqf_last (hn : (f.name == "_") = false) (ha : (part f.type xs f.offset).run P w = .ok a w) (hb : (part f.type ys f.offset).run P w = .ok b w) (he : (Op.equalIn d f.type a b).run P w = .ok r w) : (Op.eqFields d xs ys [f]).run P w = .ok r w := by
  have hn' : f.name ≠ "_" := by simpa using hn
  simp only [Op.eqFields, if_pos hn', Sem.run_bind, ha, hb, he, Result.andThen_ok]
  cases r <;> simp
theorem eqf_cons (hn : (f.name == "_") = false) (ha : (part f.type xs f.offset).run P w = .ok a w) (hb : (part f.type ys f.offset).run P w = .ok b w) (he : (Op.equalIn d f.type a b).run P w = .ok r w) (hr : (Op.eqFields d xs ys fs).run P w = .ok s w) : (Op.eqFields d xs ys (f :: fs)).run P w = .ok (r && s) w := by
  have hn' : f.name ≠ "_" := by simpa using hn
  rw [Op.eqFields]
  simp only [if_pos hn', Sem.run_bind, ha, hb, he, Result.andThen_ok]
  cases r
  · simp
  · simpa using hr
theorem eqA_of {t : TypeId} {fs : Array Field} (hu : P.underlying t = some (.struct fs)) (hp : P.stoodInHeld t = false) (h : (Op.eqFields d xs ys fs.toList).run P w = .ok r w) : (Op.equalIn (d + 1) t (.agg xs) (.agg ys)).run P w = .ok r w := by
  have hf : P.fieldsOf t = fs := by simp [Program.fieldsOf, hu]
  rw [run_equalIn_struct (P := P) w d t xs ys (by rw [hf]; exact hu) hp, hf]
  exact h
end
theorem eqSlot (d : Nat) (w : World) (x0 y0 : Int) (x1 y1 : Int) (x2 y2 : Int) :
    (Op.equalIn (d + 2) 119 (.agg #[.int .u64 x0, .int .u64 x1, .int .i64 x2]) (.agg #[.int .u64 y0, .int .u64 y1, .int .i64 y2])).run Try.prog w = .ok (x0 == y0 && (x1 == y1 && (x2 == y2))) w := by
  refine eqA_of Try.underlying119 (by kernel_rfl) ?_
  refine eqf_cons (by rfl) (by go_simp; rfl) (by go_simp; rfl) (by go_simp) ?_
  refine eqf_cons (by rfl) (by go_simp; rfl) (by go_simp; rfl) (by go_simp) ?_
  exact eqf_last (by rfl) (by go_simp; rfl) (by go_simp; rfl) (by go_simp)
theorem neSlot (w : World) (x0 x1 x2 : Int) : (binOp .neq 119 (.agg #[.int .u64 x0, .int .u64 x1, .int .i64 x2]) (.agg #[.int .u64 x0, .int .u64 x1, .int .i64 x2])).run Try.prog w = .ok (.bool false) w := by
  have h := eqSlot (Op.maxDepth - 2) w x0 x0 x1 x1 x2 x2
  rw [show Op.maxDepth - 2 + 2 = Op.maxDepth from by rfl] at h
  simp [binOp, Op.equal, h]

variable {w : World} {L : List Sl}
set_option maxRecDepth 100000 in
set_option maxHeartbeats 3200000 in
theorem RSame {v1 v2 : Value} (h1 : Rd w v1 L.length (slCells L)) (h2 : Rd w v2 L.length (slCells L)) (hL : 0 < L.length) (hle : L.length ≤ 64) : Calls Try.prog 74 #[v1, v2] w fun e w' => e = .returned (.bool true) ∧ QD w w' := by
  have hx0 : 0 < (slCells L).length := by rw [slCells_len]; omega
  obtain ⟨ab, ao, c, rfl, _, _, hc⟩ := h1.form hx0
  obtain ⟨ab', ao', c', rfl, _, _, hc'⟩ := h2.form hx0
  have HC := As.mk (And.intro hc hc')
  clear hc hc' h1 h2 hx0
  go_enter Try.func74, Try.ntmps74
  go_wp2
  go_loopw [5] (fun v5 wr => ∃ k : Nat, k ≤ L.length ∧ v5 = .int .i64 k ∧ QD w wr) (fun v5 _ => L.length - (intOf v5).toNat)
  case atStart => exact ⟨0, Nat.zero_le _, rfl, QD.refl _⟩
  case round =>
    obtain ⟨k, hk, rfl, hq⟩ := hrel
    by_cases hlt : k < L.length
    · obtain ⟨k0, k1, k2⟩ := slCells_get L k hlt
      obtain ⟨n, rfl⟩ := hq
      have hc0 : (w.drewN n).cell? _ = _ := HC.out.1 _ _ k0
      have hc1 : (w.drewN n).cell? _ = _ := HC.out.1 _ _ k1
      have hc2 : (w.drewN n).cell? _ = _ := HC.out.1 _ _ k2
      have hd0 : (w.drewN n).cell? _ = _ := HC.out.2 _ _ k0
      have hd1 : (w.drewN n).cell? _ = _ := HC.out.2 _ _ k1
      have hd2 : (w.drewN n).cell? _ = _ := HC.out.2 _ _ k2
      rw [← Nat.add_assoc] at hc1 hc2 hd1 hd2
      have HQ := As.mk (QD.n w n)
      generalize w.drewN n = W at hc0 hc1 hc2 hd0 hd1 hd2 HQ ⊢
      generalize (L.getD k Sl.z).st = s at hc0 hd0
      generalize (L.getD k Sl.z).v = vl at hc1 hd1
      generalize (L.getD k Sl.z).left = l at hc2 hd2
      have hne := fun (w : World) => neSlot w s vl l
      clear k0 k1 k2
      go_wp2
      go_quiet (fail)
      go_wp2
      exact ⟨⟨k + 1, by omega, by go_num, HQ.out.trans (QD.n _ _)⟩, by simp [intOf]; omega⟩
    · go_wp2
      go_ret
      exact ⟨rfl, hq⟩
end Go.Proofs.Ytmejnhfggmmefaa.H
