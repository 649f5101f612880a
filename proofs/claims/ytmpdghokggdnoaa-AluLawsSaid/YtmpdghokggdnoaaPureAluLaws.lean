/- Layer 8, AluLaws, walked: sums and products go in any order; a product of a sum is the sum of the products; what is added is taken off; bit by bit, the rules of De Morgan hold. No condition. -/
import Derived.Test.YtmpdghokggdnoaaPAluOrdersx1
import Derived.Test.YtmpdghokggdnoaaPureAluOrders
import Derived.Laws.Bits64
import Derived.Laws.BitsAllLaws
namespace Go.Proofs.Ytmpdghokggdnoaa.Pure
open Go.RowKit Go.Proofs.Ytmpdghokggdnoaa.PAluOrders Go.Proofs.YtmpdghokggdnoaaW.PrintWords Go.Proofs.YtmpdghokggdnoaaW.PrintLast Go.Proofs.YtmpdghokggdnoaaW.PrintMore
set_option linter.unusedVariables false
set_option linter.unusedSimpArgs false

theorem l_awake : rondeaulaw08_awake.f 40 = some true := by decide +kernel
theorem l_do (op a b r : Int) (w : World) (h : alu_Do.f op a b = some (r, true)) : Calls Try.prog 20 #[.int .i64 op, .int .u64 a, .int .u64 b] w fun e w' => e = .returned (.int .u64 r) ∧ Drawn0 w w' :=
  rondeaulaw08_do.calls op a b r w (by unfold rondeaulaw08_do.f; rw [h]; rfl)
theorem l_add (a b : Int) : alu_Do.f 3 a b = some (IntKind.u64.wrap (a + b), true) := rfl
theorem l_sub (a b : Int) : alu_Do.f 4 a b = some (IntKind.u64.wrap (a - b), true) := rfl
theorem l_mul (a b : Int) : alu_Do.f 5 a b = some (IntKind.u64.wrap (a * b), true) := rfl
theorem l_and (a b : Int) : alu_Do.f 8 a b = some (Go.bits .and .u64 a b, true) := rfl
theorem l_or (a b : Int) : alu_Do.f 9 a b = some (Go.bits .or .u64 a b, true) := rfl
theorem l_xor (a b : Int) : alu_Do.f 10 a b = some (Go.bits .xor .u64 a b, true) := rfl
/-- not -/
theorem l_not (a : Int) (w : World) : Calls Try.prog 21 #[.int .u64 a] w fun e w' => e = .returned (.int .u64 (Go.bits .xor .u64 a 18446744073709551615)) ∧ Drawn0 w w' := by
  go_enter Try.func21, Try.ntmps21
  go_wp2_with fail
  refine (l_do 10 a 18446744073709551615 _ _ (l_xor _ _)).mono ?_
  rintro e w1 ⟨rfl, hd⟩
  go_wp2
  go_ret
  exact ⟨rfl, hd⟩
/- the laws, plainly -/
theorem wrap_e (n : Int) : IntKind.u64.wrap n = n % 18446744073709551616 := IntKind.wrap_u64 n
theorem law_mul (a b c : Int) : IntKind.u64.wrap (IntKind.u64.wrap (a + b) * c) = IntKind.u64.wrap (IntKind.u64.wrap (a * c) + IntKind.u64.wrap (b * c)) := by
  simp only [wrap_e]
  rw [Int.mul_emod, Int.emod_emod, ← Int.mul_emod, Int.add_mul, ← Int.add_emod]
theorem law_sub (a b : Int) (h0 : 0 ≤ a) (h1 : a < 18446744073709551616) : IntKind.u64.wrap (IntKind.u64.wrap (a + b) - b) = a := by
  simp only [wrap_e]
  rw [Int.sub_emod, Int.emod_emod, ← Int.sub_emod, Int.add_sub_cancel]
  exact Int.emod_eq_of_lt h0 h1
theorem bits_bv (op : BitVec 64 → BitVec 64 → BitVec 64) (x y : Int) : IntKind.u64.wrap ((op (BitVec.ofInt 64 x) (BitVec.ofInt 64 y)).toNat : Int) = ((op (BitVec.ofInt 64 x) (BitVec.ofInt 64 y)).toNat : Int) := by
  rw [wrap_e]; have := (op (BitVec.ofInt 64 x) (BitVec.ofInt 64 y)).isLt; omega
theorem bv_and (x y : Int) : Go.bits .and .u64 x y = ((BitVec.ofInt 64 x &&& BitVec.ofInt 64 y).toNat : Int) := bits_bv (· &&& ·) x y
theorem bv_or (x y : Int) : Go.bits .or .u64 x y = ((BitVec.ofInt 64 x ||| BitVec.ofInt 64 y).toNat : Int) := bits_bv (· ||| ·) x y
theorem bv_xor (x y : Int) : Go.bits .xor .u64 x y = ((BitVec.ofInt 64 x ^^^ BitVec.ofInt 64 y).toNat : Int) := bits_bv (· ^^^ ·) x y
theorem bv_back (x : BitVec 64) : BitVec.ofInt 64 ((x.toNat : Nat) : Int) = x := by
  apply BitVec.eq_of_toNat_eq; rw [BitVec.toNat_ofInt]; have := x.isLt; omega
theorem bv_int {a : Int} (h0 : 0 ≤ a) (h1 : a < 18446744073709551616) : ((BitVec.ofInt 64 a).toNat : Int) = a := by
  rw [BitVec.toNat_ofInt]; omega
theorem law_morgan (a b : Int) : Go.bits .or .u64 (Go.bits .xor .u64 a 18446744073709551615) (Go.bits .xor .u64 b 18446744073709551615) = Go.bits .xor .u64 (Go.bits .and .u64 a b) 18446744073709551615 := by
  rw [bv_or, bv_xor a, bv_xor b, bv_xor (Go.bits .and .u64 a b), bv_and, bv_back, bv_back, bv_back]
  congr 2
  have : BitVec.ofInt 64 18446744073709551615 = BitVec.allOnes 64 := by decide
  rw [this]
  ext i hi
  simp only [BitVec.getElem_xor, BitVec.getElem_or, BitVec.getElem_and, BitVec.getElem_allOnes]
  cases (BitVec.ofInt 64 a)[i] <;> cases (BitVec.ofInt 64 b)[i] <;> rfl
theorem law_xor (a b : Int) (h0 : 0 ≤ a) (h1 : a < 18446744073709551616) : Go.bits .xor .u64 (Go.bits .xor .u64 a b) b = a := by
  rw [bv_xor, bv_xor a b, bv_back, BitVec.xor_assoc, BitVec.xor_self, BitVec.xor_zero, bv_int h0 h1]
theorem l_notr (a r : Int) (w : World) (h : Go.bits .xor .u64 a 18446744073709551615 = r) : Calls Try.prog 21 #[.int .u64 a] w fun e w' => e = .returned (.int .u64 r) ∧ Drawn0 w w' := by
  subst h; exact l_not a w
theorem bl_drawn {n : Nat} {w w' : World} (h : Below n w w') (k : Nat) : Below n w (w'.drewN k) := ⟨h.os, h.tape, h.output, h.size, h.block⟩
theorem bl_of {w w' : World} (k : Nat) (h : Below (w.drewN k).heap.size (w.drewN k) w') : Below w.heap.size w w' := ⟨h.os, h.tape, h.output, h.size, h.block⟩
set_option maxRecDepth 100000 in
set_option maxHeartbeats 6400000 in
theorem AluLaws_main (a b c s m x y p n q u v z : Int) (w : World) (h1 : alu_Do.f 3 a b = some (s, true)) (h2 : alu_Do.f 3 b a = some (s, true)) (h3 : alu_Do.f 5 a b = some (m, true)) (h4 : alu_Do.f 5 b a = some (m, true))
    (h5 : alu_Do.f 5 s c = some (p, true)) (h6 : alu_Do.f 5 a c = some (x, true)) (h7 : alu_Do.f 5 b c = some (y, true)) (h8 : alu_Do.f 3 x y = some (p, true)) (h9 : alu_Do.f 4 s b = some (a, true))
    (h10 : alu_Do.f 8 a b = some (n, true)) (h11 : Go.bits .xor .u64 n 18446744073709551615 = q) (h12 : Go.bits .xor .u64 a 18446744073709551615 = u) (h13 : Go.bits .xor .u64 b 18446744073709551615 = v) (h14 : alu_Do.f 9 u v = some (q, true))
    (h15 : alu_Do.f 10 a b = some (z, true)) (h16 : alu_Do.f 10 z b = some (a, true)) :
    Calls Try.prog 4 #[.int .u64 a, .int .u64 b, .int .u64 c] w fun e w' => e = .returned (.bool true) ∧ Below w.heap.size w w' := by
  have H := Aside0.mk (And.intro h1 (And.intro h2 (And.intro h3 (And.intro h4 (And.intro h5 (And.intro h6 (And.intro h7 h8)))))))
  have G := Aside0.mk (And.intro h9 (And.intro h10 (And.intro h11 (And.intro h12 (And.intro h13 (And.intro h14 (And.intro h15 h16)))))))
  clear h1 h2 h3 h4 h5 h6 h7 h8 h9 h10 h11 h12 h13 h14 h15 h16
  go_enter Try.func4, Try.ntmps4
  go_wp2_with fail
  refine (l_do 3 a b s _ H.out.1).mono ?_
  rintro e w' ⟨rfl, ⟨nd, rfl⟩⟩
  go_wp2_with fail
  refine (rondeaulaw08_awake.calls 40 true _ l_awake).mono ?_
  rintro e w1 ⟨rfl, hb⟩
  have HB := Aside0.mk (bl_of _ hb)
  clear hb
  go_wp2_with fail
  refine (l_do 3 b a s _ H.out.2.1).mono ?_
  rintro e w' ⟨rfl, ⟨nd, rfl⟩⟩
  go_wp2_with fail
  refine (l_do 5 a b m _ H.out.2.2.1).mono ?_
  rintro e w' ⟨rfl, ⟨nd, rfl⟩⟩
  go_wp2_with fail
  refine (l_do 5 b a m _ H.out.2.2.2.1).mono ?_
  rintro e w' ⟨rfl, ⟨nd, rfl⟩⟩
  go_wp2_with fail
  refine (l_do 5 s c p _ H.out.2.2.2.2.1).mono ?_
  rintro e w' ⟨rfl, ⟨nd, rfl⟩⟩
  go_wp2_with fail
  refine (l_do 5 a c x _ H.out.2.2.2.2.2.1).mono ?_
  rintro e w' ⟨rfl, ⟨nd, rfl⟩⟩
  go_wp2_with fail
  refine (l_do 5 b c y _ H.out.2.2.2.2.2.2.1).mono ?_
  rintro e w' ⟨rfl, ⟨nd, rfl⟩⟩
  go_wp2_with fail
  refine (l_do 3 x y p _ H.out.2.2.2.2.2.2.2).mono ?_
  rintro e w' ⟨rfl, ⟨nd, rfl⟩⟩
  go_wp2_with fail
  refine (l_do 4 s b a _ G.out.1).mono ?_
  rintro e w' ⟨rfl, ⟨nd, rfl⟩⟩
  go_wp2_with fail
  refine (l_do 8 a b n _ G.out.2.1).mono ?_
  rintro e w' ⟨rfl, ⟨nd, rfl⟩⟩
  go_wp2_with fail
  refine (l_notr n q _ G.out.2.2.1).mono ?_
  rintro e w' ⟨rfl, ⟨nd, rfl⟩⟩
  go_wp2_with fail
  refine (l_notr a u _ G.out.2.2.2.1).mono ?_
  rintro e w' ⟨rfl, ⟨nd, rfl⟩⟩
  go_wp2_with fail
  refine (l_notr b v _ G.out.2.2.2.2.1).mono ?_
  rintro e w' ⟨rfl, ⟨nd, rfl⟩⟩
  go_wp2_with fail
  refine (l_do 9 u v q _ G.out.2.2.2.2.2.1).mono ?_
  rintro e w' ⟨rfl, ⟨nd, rfl⟩⟩
  go_wp2_with fail
  refine (l_do 10 a b z _ G.out.2.2.2.2.2.2.1).mono ?_
  rintro e w' ⟨rfl, ⟨nd, rfl⟩⟩
  go_wp2_with fail
  refine (l_do 10 z b a _ G.out.2.2.2.2.2.2.2).mono ?_
  rintro e w' ⟨rfl, ⟨nd, rfl⟩⟩
  go_wp2
  go_ret
  exact ⟨rfl, by repeat (first | exact HB.out | refine bl_drawn ?_ _)⟩
theorem AluLaws_walk (a b c : Int) (w : World) (wa : (Lit.int .u64 a).wf = true) (wb : (Lit.int .u64 b).wf = true) (wc : (Lit.int .u64 c).wf = true) :
    Calls Try.prog 4 #[.int .u64 a, .int .u64 b, .int .u64 c] w fun e w' => e = .returned (.bool true) ∧ Below w.heap.size w w' := by
  have ha : 0 ≤ a ∧ a < 18446744073709551616 := by simp [Lit.wf, IntKind.min, IntKind.max, IntKind.signed, IntKind.bits] at wa; omega
  exact AluLaws_main a b c _ _ _ _ _ _ _ _ _ _ w (l_add a b) ((l_add b a).trans (by rw [Int.add_comm])) (l_mul a b) ((l_mul b a).trans (by rw [Int.mul_comm])) (l_mul _ c) (l_mul a c) (l_mul b c)
    ((l_add _ _).trans (by rw [← law_mul])) ((l_sub _ b).trans (by rw [law_sub a b ha.1 ha.2])) (l_and a b) rfl rfl rfl ((l_or _ _).trans (by rw [law_morgan])) (l_xor a b) ((l_xor _ b).trans (by rw [law_xor a b ha.1 ha.2]))
end Go.Proofs.Ytmpdghokggdnoaa.Pure
