/- Products of matrices, as lists of numbers. -/
import Derived.Test.YthblmkailhdhlaaNG
import Derived.Test.YthblmkailhdhlaaOpen
namespace Go.Proofs.Ythblmkailhdhlaa.Mat
set_option linter.unusedVariables false
open Go.RowKit Go.Proofs.Ythblmkailhdhlaa.F Go.Proofs.Ythblmkailhdhlaa.R Go.Proofs.Ythblmkailhdhlaa.G Go.Proofs.Ythblmkailhdhlaa.P Go.Proofs.Ythblmkailhdhlaa.Given Go.Proofs.Ythblmkailhdhlaa.Gf Go.Proofs.YthblmkailhdhlaaW.PrintWords

theorem okM_mints {M : List (List Nat)} (h : Bytes M) : okM (mints M) := by
  intro r hr x hx
  obtain ⟨l, hl, rfl⟩ := List.mem_map.1 hr
  obtain ⟨y, hy, rfl⟩ := List.mem_map.1 hx
  have := h l hl y hy
  omega
theorem nats_ints (l : List Nat) : nats (ints l) = l := by
  unfold nats ints
  rw [List.map_map]
  conv => rhs; rw [← List.map_id l]
  exact List.map_congr_left fun x _ => Int.toNat_natCast x
theorem mnats_mints (M : List (List Nat)) : mnats (mints M) = M := by
  unfold mnats mints
  rw [List.map_map]
  conv => rhs; rw [← List.map_id M]
  exact List.map_congr_left fun l _ => nats_ints l
theorem rect_mayN {n c : Nat} {M : List (List Nat)} (h : Rect n c M) (hn : 1 ≤ n ∧ n ≤ 64) (hc : 1 ≤ c ∧ c ≤ 4096) : mayN M := by
  have hh := h.head (by omega)
  refine ⟨by rw [h.1]; omega, by rw [h.1]; omega, by omega, by omega, fun r hr => by rw [hh]; exact (h.2 r hr).1⟩
theorem rect_may {n c : Nat} {M : List (List Nat)} (h : Rect n c M) (hn : 1 ≤ n ∧ n ≤ 64) (hc : 1 ≤ c ∧ c ≤ 4096) : mayP (mints M) := (mayN_iff M).2 (rect_mayN h hn hc)
theorem mul_rect {n m c : Nat} {A B : List (List Nat)} (hA : Rect n m A) (hB : Rect m c B) (hn : 1 ≤ n ∧ n ≤ 64) (hm : 1 ≤ m ∧ m ≤ 64) (hc : 1 ≤ c ∧ c ≤ 4096) :
    mat_Mul.f (mints A) (mints B) = some (mints (mulM A B), 0) := by
  unfold mat_Mul.f
  rw [if_pos ⟨okM_mints hA.bytes, okM_mints hB.bytes⟩, if_pos ⟨rect_may hA hn (by omega), rect_may hB hm hc, by rw [mints_head, ints_len, hA.head (by omega), mints_len, hB.1]⟩, mnats_mints, mnats_mints]
theorem one_f {n : Nat} (hn : 1 ≤ n ∧ n ≤ 64) : mat_One.f (n : Int) = some (mints (grid n n oneAt), 0) := by
  unfold mat_One.f
  rw [if_pos (by omega), Int.toNat_natCast]
theorem same_mints {n c : Nat} {A B : List (List Nat)} (hA : Rect n c A) (hn : n ≤ 64) (hc : c ≤ 4096) {k : Nat} (hk : 300000 ≤ k) : quartermasterref02_Same.f k (mints A) (mints B) = some (decide (mints A = mints B)) := by
  have h1 := hA.1
  refine same_f _ _ c (by rw [mints_len]; omega) (by omega) (fun r hr => ?_) ?_
  · obtain ⟨l, hl, rfl⟩ := List.mem_map.1 hr
    rw [ints_len, (hA.2 l hl).1]; exact Nat.le_refl _
  · rw [mints_len, h1]
    exact Nat.lt_of_le_of_lt (Nat.mul_le_mul hn (show c + 2 ≤ 4098 by omega)) (by omega)
theorem same_true {n c : Nat} {A : List (List Nat)} (hA : Rect n c A) (hn : n ≤ 64) (hc : c ≤ 4096) {k : Nat} (hk : 300000 ≤ k) : quartermasterref02_Same.f k (mints A) (mints A) = some true := by
  rw [same_mints hA hn hc hk, decide_eq_true rfl]

theorem few_head {l : List (List Int)} {n : Nat} (h : fewP l n) : (l.getD 0 []).length ≤ n := by
  by_cases z : 0 < l.length
  · rw [getD_at z]; exact h.2 _ (List.getElem_mem z)
  · rw [getD_none z]; simp
end Go.Proofs.Ythblmkailhdhlaa.Mat
