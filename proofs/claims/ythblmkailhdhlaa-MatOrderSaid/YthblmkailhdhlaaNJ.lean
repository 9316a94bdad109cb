/- MatOrder. -/
import Derived.Test.YthblmkailhdhlaaNI
import Derived.Test.YthblmkailhdhlaaQ4
namespace Go.Proofs.Ythblmkailhdhlaa.Mat
set_option linter.unusedVariables false
open Go.RowKit Go.Proofs.Ythblmkailhdhlaa.F Go.Proofs.Ythblmkailhdhlaa.R Go.Proofs.Ythblmkailhdhlaa.G Go.Proofs.Ythblmkailhdhlaa.P Go.Proofs.Ythblmkailhdhlaa.Q Go.Proofs.Ythblmkailhdhlaa.Given Go.Proofs.Ythblmkailhdhlaa.Gf Go.Proofs.YthblmkailhdhlaaW.PrintWords

theorem mul_cases (l0 l1 : List (List Int)) (h0 : okM l0) (h1 : okM l1) :
    (mat_Mul.f l0 l1 = some ([], 1)) ∨ (mayP l0 ∧ mayP l1 ∧ (l0.getD 0 []).length = l1.length ∧ mat_Mul.f l0 l1 = some (mints (mulM (mnats l0) (mnats l1)), 0)) := by
  unfold mat_Mul.f
  rw [if_pos ⟨h0, h1⟩]
  by_cases c : mayP l0 ∧ mayP l1 ∧ (l0.getD 0 []).length = l1.length
  · rw [if_pos c]; exact .inr ⟨c.1, c.2.1, c.2.2, rfl⟩
  · rw [if_neg c]; exact .inl rfl
theorem bne_zero : ((0 : Int) != 0) = false := by decide
theorem bne_one : ((1 : Int) != 0) = true := by decide

theorem order_j1 (A B C : List (List Nat)) {n m p q : Nat} (hA : Rect n m A) (hB : Rect m p B) (hC : Rect p q C) (hn : 1 ≤ n ∧ n ≤ 8) (hm : 1 ≤ m ∧ m ≤ 8) (hp : 1 ≤ p ∧ p ≤ 8) (hq : 1 ≤ q ∧ q ≤ 8) :
    quartermasterlaw02_MatOrder.j1 499998 (mints A) (mints C) (mints (mulM A B)) (mints (mulM B C)) false = some true := by
  have hAB := mulM_rect hA hB (by omega)
  have hBC := mulM_rect hB hC (by omega)
  rw [show (499998 : Nat) = 499997 + 1 from rfl, quartermasterlaw02_MatOrder.j1, if_neg (by decide)]
  rw [mul_rect hAB hC (by omega) (by omega) (by omega), mul_rect hA hBC (by omega) (by omega) (by omega), Option.bind_some, Option.bind_some, mints_len, hA.1, one_f (by omega), Option.bind_some]
  rw [show (mints (grid n n oneAt), (0 : Int)).1 = mints (grid n n oneAt) from rfl, mul_rect (one_rect n) hA (by omega) (by omega) (by omega), Option.bind_some, one_mul hA (by omega), mulM_assoc hA hB hC (by omega) (by omega)]
  rw [same_true (mulM_rect hA hBC (by omega)) (by omega) (by omega) (by omega), Option.bind_some, same_true hA (by omega) (by omega) (by omega), Option.bind_some]
  have hinv : mat_Inv.f (mints A) = some (invAns (mints A)) := by unfold mat_Inv.f; rw [if_pos (okM_mints hA.bytes)]
  rw [hinv, Option.bind_some]
  by_cases hs : mayP (mints A) ∧ ((mints A).getD 0 []).length = (mints A).length
  · have hnm : m = n := by
      have := hs.2
      rw [mints_head, ints_len, hA.head (by omega), mints_len, hA.1] at this
      exact this
    subst hnm
    have hsq : Square m A := hA
    rcases gauss_all hsq (by omega) with ⟨g, _⟩ | ⟨T, g, _, s, e1, e2⟩
    · have : invAns (mints A) = ([], 5) := by
        unfold invAns
        rw [if_pos hs, mints_len, hA.1, mnats_mints, g]
      rw [this]
      rfl
    · have : invAns (mints A) = (mints T.2, 0) := by
        unfold invAns
        rw [if_pos hs, mints_len, hA.1, mnats_mints, g]
      rw [this, if_pos rfl]
      obtain ⟨S, g2, e⟩ := gauss_back hsq s (by omega) e1 e2
      have hinv2 : mat_Inv.f (mints T.2) = some (mints A, 0) := by
        unfold mat_Inv.f
        rw [if_pos (okM_mints s.rect.bytes)]
        unfold invAns
        rw [if_pos ⟨rect_may s.rect (by omega) (by omega), by rw [mints_head, ints_len, s.rect.head (by omega), mints_len, s.1]⟩, mints_len, s.1, mnats_mints, g2, ← e]
      rw [show (mints T.2, (0 : Int)).1 = mints T.2 from rfl, hinv2, Option.bind_some, show (mints A, (0 : Int)).1 = mints A from rfl, same_true hA (by omega) (by omega) (by omega), Option.bind_some]
      rfl
  · have : invAns (mints A) = ([], 1) := by unfold invAns; rw [if_neg hs]
    rw [this]
    rfl
theorem order_f (l0 l1 l2 : List (List Int)) (h0 : okM l0) (h1 : okM l1) (h2 : okM l2) : quartermasterlaw02_MatOrder.f 500000 l0 l1 l2 = some true := by
  have f0 := few_f l0 8 (by omega) (show 101 ≤ 500000 by omega)
  have f1 := few_f l1 8 (by omega) (show 101 ≤ 500000 by omega)
  have f2 := few_f l2 8 (by omega) (show 101 ≤ 500000 by omega)
  rw [show ((8 : Nat) : Int) = 8 from rfl] at f0 f1 f2
  unfold quartermasterlaw02_MatOrder.f quartermasterlaw02_awake.f
  rw [f0, f1, f2, Option.bind_some, Option.bind_some, Option.bind_some, Option.bind_some, if_pos rfl, show (500000 : Nat) = 499999 + 1 from rfl]
  by_cases e0 : fewP l0 8
  · rw [decide_eq_true e0, if_pos rfl]
    by_cases e1 : fewP l1 8
    · rw [decide_eq_true e1, if_pos rfl]
      by_cases e2 : fewP l2 8
      · rw [decide_eq_true e2, quartermasterlaw02_MatOrder.j0, if_neg (by decide)]
        have j1t : ∀ a b c d, quartermasterlaw02_MatOrder.j1 499999 a b c d true = some true := fun a b c d => by
          rw [show (499999 : Nat) = 499998 + 1 from rfl, quartermasterlaw02_MatOrder.j1, if_pos rfl]
        rcases mul_cases l0 l1 h0 h1 with e | ⟨m0, m1, d1, e⟩
        · rcases mul_cases l1 l2 h1 h2 with e' | ⟨m1, m2, d2, e'⟩
          · rw [e, e', Option.bind_some, Option.bind_some, if_neg (by decide), j1t]
          · rw [e, e', Option.bind_some, Option.bind_some, if_neg (by decide), j1t]
        · rcases mul_cases l1 l2 h1 h2 with e' | ⟨_, m2, d2, e'⟩
          · rw [e, e', Option.bind_some, Option.bind_some, if_pos rfl, bne_one, j1t]
          · rw [e, e', Option.bind_some, Option.bind_some, if_pos rfl, bne_zero]
            have r0 := mayP_rect m0 h0
            have r1 := mayP_rect m1 h1
            have r2 := mayP_rect m2 h2
            rw [d1] at r0; rw [d2] at r1
            have := order_j1 (mnats l0) (mnats l1) (mnats l2) r0 r1 r2 ⟨m0.1, e0.1⟩ ⟨m1.1, e1.1⟩ ⟨m2.1, e2.1⟩ ⟨m2.2.2.1, few_head e2⟩
            rw [mints_mnats h0, mints_mnats h2] at this
            exact quartermasterlaw02_MatOrder.mono_l 499998 |>.2 _ _ _ _ _ _ this
      · rw [decide_eq_false e2, quartermasterlaw02_MatOrder.j0]; rfl
    · rw [decide_eq_false e1, if_neg (by decide), quartermasterlaw02_MatOrder.j0]; rfl
  · rw [decide_eq_false e0, if_neg (by decide), quartermasterlaw02_MatOrder.j0]; rfl
theorem order_walk (W : World) (A0 : Option Addr) (len0 c0 : Nat) (l0 : List (List Int)) (y0 : MatArg W A0 len0 c0 l0) (A1 : Option Addr) (len1 c1 : Nat) (l1 : List (List Int)) (y1 : MatArg W A1 len1 c1 l1) (A2 : Option Addr) (len2 c2 : Nat) (l2 : List (List Int)) (y2 : MatArg W A2 len2 c2 l2) :
    Calls Try.prog 14 #[.slice A0 len0 c0, .slice A1 len1 c1, .slice A2 len2 c2] W fun e w' => e = .returned (.bool true) ∧ Below W.heap.size W w' := by
  have := quartermasterlaw02_MatOrder.calls 500000 A0 c0 l0 A1 c1 l1 A2 c2 l2 true W y0.reads y0.room y1.reads y1.room y2.reads y2.room (order_f l0 l1 l2 y0.ok y1.ok y2.ok)
  rw [y0.long, y1.long, y2.long] at this
  exact this
end Go.Proofs.Ythblmkailhdhlaa.Mat
