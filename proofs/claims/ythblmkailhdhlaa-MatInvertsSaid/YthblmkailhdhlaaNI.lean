/- MatProducts, MatOrder, MatOne. -/
import Derived.Test.YthblmkailhdhlaaNG
import Derived.Test.YthblmkailhdhlaaOpen
import Derived.Test.YthblmkailhdhlaaQ3
namespace Go.Proofs.Ythblmkailhdhlaa.Mat
set_option linter.unusedVariables false
open Go.RowKit Go.Proofs.Ythblmkailhdhlaa.F Go.Proofs.Ythblmkailhdhlaa.R Go.Proofs.Ythblmkailhdhlaa.G Go.Proofs.Ythblmkailhdhlaa.P Go.Proofs.Ythblmkailhdhlaa.Q Go.Proofs.Ythblmkailhdhlaa.Given Go.Proofs.Ythblmkailhdhlaa.Gf Go.Proofs.YthblmkailhdhlaaW.PrintWords

theorem okM_mints {M : List (List Nat)} (h : Bytes M) : okM (mints M) := by
  intro r hr x hx
  obtain ⟨l, hl, rfl⟩ := List.mem_map.1 hr
  obtain ⟨y, hy, rfl⟩ := List.mem_map.1 hx
  have := h l hl y hy
  omega
theorem nats_ints (l : List Nat) : nats (ints l) = l := by
  unfold nats ints
  rw [List.map_map]
  conv => rhs; rw [← List.map_id l]
  exact List.map_congr_left fun x _ => Int.toNat_natCast x
theorem mnats_mints (M : List (List Nat)) : mnats (mints M) = M := by
  unfold mnats mints
  rw [List.map_map]
  conv => rhs; rw [← List.map_id M]
  exact List.map_congr_left fun l _ => nats_ints l
theorem rect_mayN {n c : Nat} {M : List (List Nat)} (h : Rect n c M) (hn : 1 ≤ n ∧ n ≤ 64) (hc : 1 ≤ c ∧ c ≤ 4096) : mayN M := by
  have hh := h.head (by omega)
  refine ⟨by rw [h.1]; omega, by rw [h.1]; omega, by omega, by omega, fun r hr => by rw [hh]; exact (h.2 r hr).1⟩
theorem rect_may {n c : Nat} {M : List (List Nat)} (h : Rect n c M) (hn : 1 ≤ n ∧ n ≤ 64) (hc : 1 ≤ c ∧ c ≤ 4096) : mayP (mints M) := (mayN_iff M).2 (rect_mayN h hn hc)
theorem mul_rect {n m c : Nat} {A B : List (List Nat)} (hA : Rect n m A) (hB : Rect m c B) (hn : 1 ≤ n ∧ n ≤ 64) (hm : 1 ≤ m ∧ m ≤ 64) (hc : 1 ≤ c ∧ c ≤ 4096) :
    mat_Mul.f (mints A) (mints B) = some (mints (mulM A B), 0) := by
  unfold mat_Mul.f
  rw [if_pos ⟨okM_mints hA.bytes, okM_mints hB.bytes⟩, if_pos ⟨rect_may hA hn (by omega), rect_may hB hm hc, by rw [mints_head, ints_len, hA.head (by omega), mints_len, hB.1]⟩, mnats_mints, mnats_mints]
theorem one_f {n : Nat} (hn : 1 ≤ n ∧ n ≤ 64) : mat_One.f (n : Int) = some (mints (grid n n oneAt), 0) := by
  unfold mat_One.f
  rw [if_pos (by omega), Int.toNat_natCast]
theorem same_mints {n c : Nat} {A B : List (List Nat)} (hA : Rect n c A) (hn : n ≤ 64) (hc : c ≤ 4096) {k : Nat} (hk : 300000 ≤ k) : quartermasterref02_Same.f k (mints A) (mints B) = some (decide (mints A = mints B)) := by
  have h1 := hA.1
  refine same_f _ _ c (by rw [mints_len]; omega) (by omega) (fun r hr => ?_) ?_
  · obtain ⟨l, hl, rfl⟩ := List.mem_map.1 hr
    rw [ints_len, (hA.2 l hl).1]; exact Nat.le_refl _
  · rw [mints_len, h1]
    exact Nat.lt_of_le_of_lt (Nat.mul_le_mul hn (show c + 2 ≤ 4098 by omega)) (by omega)
theorem same_true {n c : Nat} {A : List (List Nat)} (hA : Rect n c A) (hn : n ≤ 64) (hc : c ≤ 4096) {k : Nat} (hk : 300000 ≤ k) : quartermasterref02_Same.f k (mints A) (mints A) = some true := by
  rw [same_mints hA hn hc hk, decide_eq_true rfl]

theorem few_head {l : List (List Int)} {n : Nat} (h : fewP l n) : (l.getD 0 []).length ≤ n := by
  by_cases z : 0 < l.length
  · rw [getD_at z]; exact h.2 _ (List.getElem_mem z)
  · rw [getD_none z]; simp
/-! MatProducts -/
theorem products_f (l0 l1 : List (List Int)) (h0 : okM l0) (h1 : okM l1) : quartermasterlaw02_MatProducts.f 500000 l0 l1 = some true := by
  have f0 := few_f l0 10 (by omega) (show 101 ≤ 500000 by omega)
  have f1 := few_f l1 10 (by omega) (show 101 ≤ 500000 by omega)
  rw [show ((10 : Nat) : Int) = 10 from rfl] at f0 f1
  unfold quartermasterlaw02_MatProducts.f quartermasterlaw02_awake.f
  rw [f0, f1, Option.bind_some, Option.bind_some, Option.bind_some, if_pos rfl, show (500000 : Nat) = 499999 + 1 from rfl]
  by_cases e0 : fewP l0 10
  · rw [decide_eq_true e0, if_pos rfl]
    by_cases e1 : fewP l1 10
    · rw [decide_eq_true e1, quartermasterlaw02_MatProducts.j0, if_neg (by decide)]
      have hl : (l1.getD 0 []).length ≤ 10 := by
        by_cases z : 0 < l1.length
        · rw [getD_at z]; exact e1.2 _ (List.getElem_mem z)
        · rw [getD_none z]; simp
      rw [rmul_f l0 l1 h0 h1 10 (by omega) hl (show 1000 + 64 * (10 * 66 + 2) ≤ 499999 by omega)]
      have : ∃ x y, mat_Mul.f l0 l1 = some (x, y) ∧ quartermasterref02_Same.f 499999 x x = some true := by
        unfold mat_Mul.f
        rw [if_pos ⟨h0, h1⟩]
        by_cases c : mayP l0 ∧ mayP l1 ∧ (l0.getD 0 []).length = l1.length
        · rw [if_pos c]
          have r0 := mayP_rect c.1 h0
          have r1 := mayP_rect c.2.1 h1
          rw [c.2.2] at r0
          exact ⟨_, _, rfl, same_true (mulM_rect r0 r1 c.2.1.1) c.1.2.1 c.2.1.2.2.2.1 (by omega)⟩
        · rw [if_neg c]
          exact ⟨_, _, rfl, same_self _ 0 (by simp) (by omega) (by simp) (by omega)⟩
      obtain ⟨x, y, e, s⟩ := this
      rw [e, Option.bind_some, Option.bind_some, s, Option.bind_some, if_pos rfl]
      simp
    · rw [decide_eq_false e1, quartermasterlaw02_MatProducts.j0]; rfl
  · rw [decide_eq_false e0, if_neg (by decide), quartermasterlaw02_MatProducts.j0]; rfl
theorem products_walk (W : World) (A0 : Option Addr) (len0 c0 : Nat) (l0 : List (List Int)) (y0 : MatArg W A0 len0 c0 l0) (A1 : Option Addr) (len1 c1 : Nat) (l1 : List (List Int)) (y1 : MatArg W A1 len1 c1 l1) :
    Calls Try.prog 12 #[.slice A0 len0 c0, .slice A1 len1 c1] W fun e w' => e = .returned (.bool true) ∧ Below W.heap.size W w' := by
  have := quartermasterlaw02_MatProducts.calls 500000 A0 c0 l0 A1 c1 l1 true W y0.reads y0.room y1.reads y1.room (products_f l0 l1 y0.ok y1.ok)
  rw [y0.long, y1.long] at this
  exact this
end Go.Proofs.Ythblmkailhdhlaa.Mat
