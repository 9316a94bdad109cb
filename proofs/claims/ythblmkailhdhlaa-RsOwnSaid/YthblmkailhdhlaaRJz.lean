/- What is left of the shares. -/
import Derived.Test.YthblmkailhdhlaaB5
import Derived.Test.YthblmkailhdhlaaRLb
namespace Go.Proofs.Ythblmkailhdhlaa.Mat
set_option linter.unusedVariables false
open Go.RowKit Go.Proofs.Ythblmkailhdhlaa.F Go.Proofs.Ythblmkailhdhlaa.R Go.Proofs.Ythblmkailhdhlaa.G Go.Proofs.Ythblmkailhdhlaa.P Go.Proofs.Ythblmkailhdhlaa.Given Go.Proofs.Ythblmkailhdhlaa.Gf Go.Proofs.YthblmkailhdhlaaW.PrintWords

theorem rdOf_nat (u : List Bool) (j : Nat) : rdOf false u (j : Int) = u.getD j false := by unfold rdOf; rw [Int.toNat_natCast]
/-- What is left of the rows. -/
def leftOf (A : List (List Int)) (lost : Nat → Bool) (n : Nat) : List (List Int) := (List.range n).map fun j => if lost j = true then [] else A.getD j []
theorem leftOf_len (A : List (List Int)) (lost : Nat → Bool) (n : Nat) : (leftOf A lost n).length = n := by simp [leftOf]
theorem leftOf_succ (A : List (List Int)) (lost : Nat → Bool) (n : Nat) : leftOf A lost (n + 1) = leftOf A lost n ++ [if lost n = true then [] else A.getD n []] := by
  unfold leftOf; rw [List.range_succ, List.map_append]; rfl
theorem leftOf_at (A : List (List Int)) (lost : Nat → Bool) {n i : Nat} (h : i < n) : (leftOf A lost n).getD i [] = if lost i = true then [] else A.getD i [] := by
  unfold leftOf
  rw [List.getD_eq_getElem?_getD, List.getElem?_map, List.getElem?_range h]; rfl
theorem mints_row {n c : Nat} {M : List (List Nat)} (h : Rect n c M) {i : Nat} (hi : i < n) : ((mints M).getD i []).length = c := by
  obtain ⟨l, e1, e2, e3, e4⟩ := h.row hi
  rw [mints_getD, e2, ints_len]; exact e3
/-- Decoding of what is left. -/
theorem dec_left {D : List (List Nat)} {k m c : Nat} (hD : Rect k c D) (hk : 1 ≤ k) (h : k + m ≤ 64) (hc : 1 ≤ c ∧ c ≤ 4096) (lost : Nat → Bool) :
    rs_Decode.f (leftOf (mints (D ++ shares m D)) lost (k + m)) k = if cnt (fun j => !lost j) (k + m) < k then some ([], 9) else some (mints (D ++ shares m D), 0) := by
  have hA := all_rect (m := m) hD hk
  have e : cnt (held (leftOf (mints (D ++ shares m D)) lost (k + m))) (k + m) = cnt (fun j => !lost j) (k + m) := by
    refine cnt_congr fun t ht => ?_
    unfold held
    rw [leftOf_at _ _ ht]
    have := mints_row hA ht
    cases lost t with
    | true => rfl
    | false =>
      rw [if_neg (by decide)]
      exact decide_eq_true (by omega)
  have := dec_back (q := 2000) (sh := leftOf (mints (D ++ shares m D)) lost (k + m)) hD hk h hc (leftOf_len _ _ _) (fun i hi => by rw [leftOf_at _ _ hi]; cases lost i <;> simp) (by omega)
  rw [e] at this
  exact this
def lostAt (u : List Bool) (j : Nat) : Bool := decide (j < u.length) && u.getD j false
end Go.Proofs.Ythblmkailhdhlaa.Mat
