/- Layer 11: CheckMore: a right program with one thread more is right just if that one with the same rings is; what is wrong is told of it. No condition. -/
import Derived.Test.YthoejimgdhfmiaaChkD
import Derived.Test.YthoejimgdhfmiaaChkM
import Derived.Test.YthoejimgdhfmiaaOpnC
namespace Go.Proofs.Ythoejimgdhfmiaa.H
open Go.RowKit Go.ChangeShapes Go.WideShapes Go.Deep Go.Proofs.Ythoejimgdhfmiaa.PCheckTells Go.Proofs.YthoejimgdhfmiaaW.PrintWords Go.Proofs.YthoejimgdhfmiaaW.PrintLast Go.Proofs.YthoejimgdhfmiaaW.PrintMore
set_option linter.unusedVariables false
set_option linter.unusedSimpArgs false
variable {w : World}

/-- A thread's instructions, in memory. -/
def IsIn (w : World) (v : Value) : Prop := ∃ (A : Option Addr) (c : Nat) (M : List S48), v = .slice A M.length c ∧ M.length ≤ c ∧ Kd.C k48 w A M.length M ∧ ∀ x ∈ M, wf48 x
set_option maxRecDepth 100000 in
theorem open_instrs {H : Type} {enc : TypeId × Value → H} {spare : Nat → Bool} {held : Bool} {b : Nat} {r : Reach} {v : Value} {d : DataW H} {p : List MemPlace} (hv : Value.okWide Try.prog w r b 44 v) (h : DataW.Trod enc Try.prog w 0 spare held 44 v d p) : IsIn w v := by
  obtain ⟨a0, len, cap, rfl⟩ := okWide_slice Try.underlying44 hv
  obtain ⟨fuel, hf⟩ := h
  obtain ⟨M, ⟨A, c, e, hl, hC⟩, hok⟩ := cells_thread hf
  have e2 : Value.slice a0 len cap = .slice A M.length c := by simpa [Value.cells] using e
  exact ⟨A, c, M, e2, hl, hC, hok⟩
set_option maxRecDepth 100000 in
set_option maxHeartbeats 6400000 in
theorem rRight_calls {k : Nat} {R : List S55} {T : List (List S48)} {A0 : Option Addr} {c0 : Nat} {A1 : Option Addr} {c1 : Nat} (hp : PgAt w R T A0 c0 A1 c1) {a b c : Int} (h : rondeauref11_Check.f k R T = some (a, b, c)) : Calls Try.prog 18 #[.agg #[.slice A0 R.length c0, .slice A1 T.length c1]] w fun e w' => e = .returned (.bool (c == 0)) ∧ Kp no w w' := by
  have HP := As.mk hp
  have H := As.mk h
  clear hp h
  go_enter Try.func18, Try.ntmps18
  go_wp2_with fail
  have hK := (Kp.refl no w).alloc (.cells #[.slice A0 R.length c0, .slice A1 T.length c1] 25)
  have hp := HP.out.below hK.below
  refine (rondeauref11_Check.calls k A0 c0 R A1 c1 T a b c _ hp.r hp.l0 hp.t hp.l1 H.out).mono ?_
  rintro e w1 ⟨rfl, hb⟩
  replace hK := hK.trans (bk_b hb)
  clear hb hp
  go_wp2
  go_ret
  exact ⟨rfl, hK⟩
theorem info44 : (Try.prog.info? 44).map (fun i => (i.zero, i.size, i.bytes)) = some (some (.slice none 0 0), 1, 24) := by kernel_rfl
/-- Threads of one's own, with one that was given behind. -/
theorem app_C {w1 w2 : World} {base : Nat} {ok : Nat → Prop} {v v' : Value} {T : List (List S48)} {M : List S48} {AM : Option Addr} {cM : Nat} {inner : List Value} (hreps : Reps ((Kd.slice 48 k48).M w1 base (fun k => ok k ∧ some k ≠ v.ownBlock)) (Kd.slice 48 k48).sz T inner)
    (hkeep : ∀ k, k < w1.heap.size → ¬ v.ownBlock = some k → w2.heap[k]? = w1.heap[k]?) (own6 : w2.ownsRow base 44 1 v' (T.length + 1) (inner ++ [.slice AM M.length cM])) (hM : Kd.C k48 w2 AM M.length M) (hMc : M.length ≤ cM) :
    ∃ A c, v' = .slice A (T ++ [M]).length c ∧ (T ++ [M]).length ≤ c ∧ Kd.C (Kd.slice 48 k48) w2 A (T ++ [M]).length (T ++ [M]) := by
  have hl : (T ++ [M]).length = T.length + 1 := by simp
  have h1 : Reps ((Kd.slice 48 k48).K w2) (Kd.slice 48 k48).sz T inner := hreps.imp_ (fun p c hp => (Kd.slice 48 k48).K_of_M (Kd.M_step hp (fun k hk hlt => hkeep k hlt (fun e => hk.2 e.symm))))
  have h2 : Reps ((Kd.slice 48 k48).K w2) (Kd.slice 48 k48).sz (T ++ [M]) (inner ++ [.slice AM M.length cM]) := h1.snoc ⟨AM, cM, rfl, hMc, hM⟩ rfl
  obtain ⟨A, c, rfl, hR⟩ := own_reads_row own6 h2 hl
  refine ⟨A, c, by rw [hl], ?_, by rw [hl]; exact hR⟩
  rcases own6.2 with ⟨e, -⟩ | ⟨g, cap, cur, e, -, -, h3, h4, -⟩
  · injection e with _ e _; omega
  · injection e with _ _ e; subst e; rw [hl]; first | exact h4 | exact h3 | omega
theorem C55_frame {w1 w2 : World} {A : Option Addr} {n : Nat} {xs : List S55} (h : Kd.C k55 w1 A n xs) (hb : ∀ ad, A = some ad → w2.heap[ad.block]? = w1.heap[ad.block]?) : Kd.C k55 w2 A n xs :=
  ⟨h.1, h.2.1, fun hn => by
    obtain ⟨ad, e, hc⟩ := h.2.2 hn
    refine ⟨ad, e, fun j p hj => ?_⟩
    obtain ⟨c, hs, hk, hcell⟩ := hc j p hj
    refine ⟨c, hs, by rw [k55_open hk]; exact k55_mk w2 p, fun i u hu => ?_⟩
    have h2 := hcell i u hu
    rw [← h2]
    refine World.cell?_of_block ?_
    have e2 : (ad.add (j * k55.sz + i)).block = ad.block := by unfold Addr.add; split <;> rfl
    rw [e2]; exact hb ad e⟩
theorem one_C {W : World} {M : List S48} {AM : Option Addr} {cM : Nat} (hM : Kd.C k48 W AM M.length M) (hMc : M.length ≤ cM) : Kd.C (Kd.slice 48 k48) (W.alloc (.cells #[.slice AM M.length cM] 44)) (some ⟨W.heap.size, 0, none⟩) [M].length [M] := by
  refine ⟨rfl, by simp, fun _ => ⟨_, rfl, fun j p hj => ?_⟩⟩
  have hj0 : j = 0 := by
    have := (List.getElem?_eq_some_iff.1 hj).1
    simp at this; omega
  subst hj0
  injection hj with hj
  subst hj
  refine ⟨[.slice AM M.length cM], rfl, ⟨AM, cM, rfl, hMc, Kd.C_below hM ((Kp.refl no W).alloc _).below⟩, fun i u hu => ?_⟩
  have hi0 : i = 0 := by
    have := (List.getElem?_eq_some_iff.1 hu).1
    simp at this; omega
  subst hi0
  injection hu with hu
  subst hu
  rw [add_none]
  exact bk_cell (heap_alloc_new W _) 0
end Go.Proofs.Ythoejimgdhfmiaa.H
