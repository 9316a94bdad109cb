/- MatMakes. -/
import Derived.Test.YthblmkailhdhlaaNB
import Derived.Test.YthblmkailhdhlaaOpen
import Derived.Test.YthblmkailhdhlaaQ2
namespace Go.Proofs.Ythblmkailhdhlaa.Mat
set_option linter.unusedVariables false
open Go.RowKit Go.Proofs.Ythblmkailhdhlaa.F Go.Proofs.Ythblmkailhdhlaa.R Go.Proofs.Ythblmkailhdhlaa.G Go.Proofs.Ythblmkailhdhlaa.P Go.Proofs.Ythblmkailhdhlaa.Q Go.Proofs.Ythblmkailhdhlaa.Given Go.Proofs.Ythblmkailhdhlaa.Gf Go.Proofs.YthblmkailhdhlaaW.PrintWords

theorem same_self (a : List (List Int)) (C : Nat) (h64 : a.length ≤ 64) (hC : C ≤ 4096) (hs : ∀ r ∈ a, r.length ≤ C) {k : Nat} (hk : 300000 ≤ k) : quartermasterref02_Same.f k a a = some true := by
  rw [same_f a a C (by omega) (by omega) hs (Nat.lt_of_le_of_lt (Nat.mul_le_mul h64 (show C + 2 ≤ 4098 by omega)) (by omega)), decide_eq_true rfl]
theorem grid_small (n c : Nat) (g : Nat → Nat → Nat) : ∀ r ∈ mints (grid n c g), r.length ≤ c := by
  intro r hr
  obtain ⟨r', h, rfl⟩ := List.mem_map.1 hr
  obtain ⟨i, _, rfl⟩ := List.mem_map.1 h
  rw [ints_len]; simp
theorem makes_l0 (l : List (List Int)) (hl : l.length ≤ 70) (a1 a2 : Int) : ∀ d i k, i + d = l.length → d + 400000 < k →
    quartermasterlaw02_MatMakes.l0 k l a1 a2 (i : Int) = some true := by
  intro d
  induction d with
  | zero =>
    intro i k h hk
    obtain ⟨k, rfl⟩ : ∃ m, k = m + 1 := ⟨k - 1, by omega⟩
    rw [quartermasterlaw02_MatMakes.l0]
    rw [if_neg (by omega), rone_f a1 (by omega), rcau_f a1 a2 (by omega), may_f l (by omega), rmay_f l (by omega)]
    have e1 : ∃ x y, mat_One.f a1 = some (x, y) ∧ quartermasterref02_Same.f k x x = some true := by
      unfold mat_One.f
      by_cases h : 1 ≤ a1 ∧ a1 ≤ 64
      · rw [if_pos h]
        exact ⟨_, _, rfl, same_self _ a1.toNat (by rw [mints_len, grid_len]; omega) (by omega) (grid_small _ _ _) (by omega)⟩
      · rw [if_neg h]
        exact ⟨_, _, rfl, same_self _ 0 (by simp) (by omega) (by simp) (by omega)⟩
    have e2 : ∃ x y, mat_Cauchy.f a1 a2 = some (x, y) ∧ quartermasterref02_Same.f k x x = some true := by
      unfold mat_Cauchy.f
      by_cases h : 1 ≤ a1 ∧ a1 ≤ 64 ∧ 1 ≤ a2 ∧ a2 ≤ 64
      · rw [if_pos h]
        exact ⟨_, _, rfl, same_self _ a2.toNat (by rw [mints_len, grid_len]; omega) (by omega) (grid_small _ _ _) (by omega)⟩
      · rw [if_neg h]
        exact ⟨_, _, rfl, same_self _ 0 (by simp) (by omega) (by simp) (by omega)⟩
    obtain ⟨x, y, h1, h2⟩ := e1
    obtain ⟨x', y', h1', h2'⟩ := e2
    simp only [h1, h1', Option.bind_some, h2, h2', if_pos, BEq.rfl]
  | succ d ih =>
    intro i k h hk
    obtain ⟨k, rfl⟩ : ∃ m, k = m + 1 := ⟨k - 1, by omega⟩
    rw [quartermasterlaw02_MatMakes.l0, if_pos (by omega), if_pos (by omega), w64 (by omega) (by omega), ← succ_cast, ih (i + 1) k (by omega) (by omega)]
    split <;> rfl
theorem makes_f (l : List (List Int)) (a1 a2 : Int) : quartermasterlaw02_MatMakes.f 500000 l a1 a2 = some true := by
  unfold quartermasterlaw02_MatMakes.f quartermasterlaw02_awake.f
  simp only [Option.bind_some]
  rw [if_pos trivial, show (500000 : Nat) = 499999 + 1 from rfl, quartermasterlaw02_MatMakes.j0]
  by_cases h : l.length ≤ 70
  · rw [decide_eq_false (by omega), if_neg (by decide)]
    exact makes_l0 l h a1 a2 l.length 0 499999 (by omega) (by omega)
  · rw [decide_eq_true (by omega), if_pos rfl]
theorem makes_walk (W : World) (A0 : Option Addr) (len0 c0 : Nat) (l0 : List (List Int)) (y0 : MatArg W A0 len0 c0 l0) (a1 : Int) (w1 : (Lit.int .i64 a1).wf = true) (a2 : Int) (w2 : (Lit.int .i64 a2).wf = true) :
    Calls Try.prog 10 #[.slice A0 len0 c0, .int .i64 a1, .int .i64 a2] W fun e w' => e = .returned (.bool true) ∧ Below W.heap.size W w' := by
  have := quartermasterlaw02_MatMakes.calls 500000 A0 c0 l0 a1 a2 true W y0.reads y0.room (makes_f l0 a1 a2)
  rw [y0.long] at this
  exact this
end Go.Proofs.Ythblmkailhdhlaa.Mat
