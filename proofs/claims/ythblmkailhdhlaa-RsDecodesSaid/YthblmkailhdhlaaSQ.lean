/- What the document's Decode makes of k shares that are there. -/
import Derived.Test.YthblmkailhdhlaaD6
import Derived.Test.YthblmkailhdhlaaSP
import Derived.Test.YthblmkailhdhlaaXE2
namespace Go.Proofs.Ythblmkailhdhlaa.Mat
set_option linter.unusedVariables false
open Go.RowKit Go.Proofs.Ythblmkailhdhlaa.F Go.Proofs.Ythblmkailhdhlaa.R Go.Proofs.Ythblmkailhdhlaa.G Go.Proofs.Ythblmkailhdhlaa.P Go.Proofs.Ythblmkailhdhlaa.Given Go.Proofs.Ythblmkailhdhlaa.Gf Go.Proofs.YthblmkailhdhlaaW.PrintWords

theorem rd_L1_natXE (l : List (List Int)) (j : Nat) : XE.rd_L1 l (j : Int) = l.getD j [] := rd_L1_nat l j
theorem mints_cells {n c : Nat} {M : List (List Nat)} (h : Rect n c M) {i : Nat} (hi : i < n) : ((mints M).getD i []).length = c ∧ ∀ j, ((mints M).getD i []).getD j 0 = ((el M i j : Nat) : Int) := by
  obtain ⟨l, e1, e2, e3, e4⟩ := h.row hi
  refine ⟨by rw [mints_getD, e2, ints_len]; exact e3, fun j => by rw [mints_getD, ints_getD]; rfl⟩
/-- A column. -/
def colN (S : List (List Nat)) (j n : Nat) : List Nat := (List.range n).map fun i => el S i j
theorem colN_len (S : List (List Nat)) (j n : Nat) : (colN S j n).length = n := by simp [colN]
theorem colN_succ (S : List (List Nat)) (j n : Nat) : colN S j (n + 1) = colN S j n ++ [el S n j] := by
  unfold colN; rw [List.range_succ, List.map_append]; rfl
theorem ints_snoc (l : List Nat) (x : Nat) : ints (l ++ [x]) = ints l ++ [(x : Int)] := by unfold ints; rw [List.map_append]; rfl
theorem made_l1 {k c : Nat} {S : List (List Nat)} (hS : Rect k c S) (hk : k ≤ 64) (x9 x14 : List (List Int)) (x8 : Int) {j : Nat} (hj : j < c) (q : Nat) : ∀ d i, i + d = k →
    XE.quartermasterref03_Decode.l1 (d + 1 + q) (k : Int) x8 x9 (mints S) x14 (j : Int) (ints (colN S j i)) (i : Int) = (quartermasterref03_solved.f x9 (ints (colN S j k))).bind fun t => XE.quartermasterref03_Decode.l2 (q) (k : Int) x8 x9 (mints S) x14 (j : Int) t 0 := by
  intro d
  induction d with
  | zero =>
    intro i h
    obtain rfl : i = k := by omega
    rw [show 0 + 1 + q = q + 1 by omega, XE.quartermasterref03_Decode.l1, if_neg (by omega)]
  | succ d ih =>
    intro i h
    obtain ⟨r1, r2⟩ := mints_cells hS (show i < k by omega)
    rw [show d + 1 + 1 + q = (d + 1 + q) + 1 by omega, XE.quartermasterref03_Decode.l1, if_pos (by omega), if_pos (by omega), mints_len, hS.1, if_pos (by omega), if_pos (by omega), rd_L1_natXE, r1, if_pos (by omega), ints_len, colN_len, if_pos (by omega), rd_nat, r2, w64 (by omega) (by omega), ← succ_cast, ← ints_snoc, ← colN_succ]
    exact ih (i + 1) (by omega)
/-- Rows above i with one column more. -/
def mixM (X : Nat → Nat → Nat) (k j i : Nat) : List (List Int) := (List.range k).map fun r => ints ((List.range (if r < i then j + 1 else j)).map fun t => X r t)
theorem mixM_len (X : Nat → Nat → Nat) (k j i : Nat) : (mixM X k j i).length = k := by simp [mixM]
theorem mixM_at (X : Nat → Nat → Nat) {k j i r : Nat} (h : r < k) : (mixM X k j i).getD r [] = ints ((List.range (if r < i then j + 1 else j)).map fun t => X r t) := by
  unfold mixM
  rw [List.getD_eq_getElem?_getD, List.getElem?_map, List.getElem?_range h]; rfl
theorem mixM_zero (X : Nat → Nat → Nat) (k j : Nat) : mixM X k j 0 = mints (grid k j X) := by
  unfold mixM mints grid
  rw [List.map_map]
  refine List.map_congr_left fun r hr => ?_
  rw [if_neg (by omega)]; rfl
theorem mixM_all (X : Nat → Nat → Nat) (k j : Nat) : mixM X k j k = mints (grid k (j + 1) X) := by
  unfold mixM mints grid
  rw [List.map_map]
  refine List.map_congr_left fun r hr => ?_
  rw [if_pos (List.mem_range.1 hr)]; rfl
theorem mixM_succ (X : Nat → Nat → Nat) {k j i : Nat} (h : i < k) : (mixM X k j i).set i (ints ((List.range j).map fun t => X i t) ++ [((X i j : Nat) : Int)]) = mixM X k j (i + 1) := by
  apply List.ext_getElem?
  intro r
  rw [List.getElem?_set]
  by_cases hr : r < k
  · by_cases e : i = r
    · subst e
      rw [if_pos rfl, if_pos (by rw [mixM_len]; exact h)]
      unfold mixM
      rw [List.getElem?_map, List.getElem?_range hr]
      show _ = some (ints ((List.range (if i < i + 1 then j + 1 else j)).map fun t => X i t))
      rw [if_pos (by omega), List.range_succ, List.map_append, ← ints_snoc]; rfl
    · rw [if_neg e]
      unfold mixM
      rw [List.getElem?_map, List.getElem?_map, List.getElem?_range hr]
      show some (ints ((List.range (if r < i then j + 1 else j)).map fun t => X r t)) = some (ints ((List.range (if r < i + 1 then j + 1 else j)).map fun t => X r t))
      by_cases h1 : r < i
      · rw [if_pos h1, if_pos (by omega)]
      · rw [if_neg h1, if_neg (by omega)]
  · rw [if_neg (by omega), List.getElem?_eq_none (by rw [mixM_len]; omega), List.getElem?_eq_none (by rw [mixM_len]; omega)]
theorem made_l2 {k : Nat} (X : Nat → Nat → Nat) (hk : k ≤ 64) (x9 x10 : List (List Int)) (x8 : Int) {j : Nat} (hj : j ≤ 4096) (q : Nat) : ∀ d i, i + d = k →
    XE.quartermasterref03_Decode.l2 (d + 1 + q) (k : Int) x8 x9 x10 (mixM X k j i) (j : Int) (ints ((List.range k).map fun t => X t j)) (i : Int) = XE.quartermasterref03_Decode.l0 q (k : Int) x8 x9 x10 (mints (grid k (j + 1) X)) ((j + 1 : Nat) : Int) := by
  intro d
  induction d with
  | zero =>
    intro i h
    obtain rfl : i = k := by omega
    rw [show 0 + 1 + q = q + 1 by omega, XE.quartermasterref03_Decode.l2, if_neg (by omega), w64 (by omega) (by omega), ← succ_cast, mixM_all]
  | succ d ih =>
    intro i h
    have hi : i < k := by omega
    have e := mixM_at X (j := j) (i := i) hi
    rw [if_neg (Nat.lt_irrefl i)] at e
    have ex : ((List.range k).map fun t => X t j).getD i 0 = X i j := by
      rw [List.getD_eq_getElem?_getD, List.getElem?_map, List.getElem?_range hi]; rfl
    rw [show d + 1 + 1 + q = (d + 1 + q) + 1 by omega, XE.quartermasterref03_Decode.l2, if_pos (by omega), if_pos (by omega), mixM_len, if_pos (by omega), ints_len, List.length_map, List.length_range, if_pos (by omega), rd_L1_natXE, e, ints_len, List.length_map, List.length_range, if_pos (by omega), rd_nat, ints_getD, ex, Int.toNat_natCast, mixM_succ X hi, w64 (by omega) (by omega), ← succ_cast]
    exact ih (i + 1) (by omega)
theorem okB_ints {l : List Nat} (h : ∀ x ∈ l, x < 256) : okB (ints l) := fun x hx => by
  obtain ⟨y, hy, rfl⟩ := List.mem_map.1 hx
  have := h y hy; omega
/-- The document's solver on a square that has an inverse. -/
theorem solved_f {k : Nat} {B : List (List Nat)} (hB : Square k B) (hk : 1 ≤ k ∧ k ≤ 64) {y : List Nat} (hy : ∀ x ∈ y, x < 256) (hl : y.length = k) {x : Nat → Nat} (hx : ∀ t, x t < 256) (hker : ¬ Ker k (el B)) (he : ∀ i, i < k → sg (fun t => gm (el B i t) (x t)) k = y.getD i 0) :
    quartermasterref03_solved.f (mints B) (ints y) = some (ints ((List.range k).map x)) := by
  have hb : (mints B).length = k := by rw [mints_len]; exact hB.rect.1
  unfold quartermasterref03_solved.f
  rw [hb, if_pos ⟨okM_mints hB.rect.bytes, okB_ints hy, hk.1, hk.2, fun r hr => by
    obtain ⟨l, h1, rfl⟩ := List.mem_map.1 hr
    rw [ints_len]; exact (hB.2 l h1).1, by rw [ints_len]; exact hl⟩, mnats_mints, nats_ints, solved_is hk.1 hB hy hx hker he]
theorem made_l0 {k c : Nat} {B S : List (List Nat)} (hB : Square k B) (hS : Rect k c S) (hk : 1 ≤ k ∧ k ≤ 64) (hc : c ≤ 4096) {X : Nat → Nat → Nat} (hX : ∀ i j, X i j < 256) (hker : ¬ Ker k (el B)) (he : ∀ i j, i < k → j < c → sg (fun t => gm (el B i t) (X t j)) k = el S i j) : ∀ d j q, j + d = c → 200 * d < q →
    XE.quartermasterref03_Decode.l0 q (k : Int) (c : Int) (mints B) (mints S) (mints (grid k j X)) (j : Int) = some (mints (grid k c X)) := by
  intro d
  induction d with
  | zero =>
    intro j q h hq
    obtain ⟨q, rfl⟩ : ∃ p, q = p + 1 := ⟨q - 1, by omega⟩
    obtain rfl : j = c := by omega
    rw [XE.quartermasterref03_Decode.l0, if_neg (by omega)]
  | succ d ih =>
    intro j q h hq
    obtain ⟨q, rfl⟩ : ∃ p, q = (k + 1 + (k + 1 + p)) + 1 := ⟨q - (2 * k + 3), by omega⟩
    have hcol : ∀ x ∈ colN S j k, x < 256 := fun x hx => by
      obtain ⟨i, _, rfl⟩ := List.mem_map.1 hx
      exact el_lt hS.bytes _ _
    have hsol := solved_f hB hk hcol (colN_len S j k) (x := fun t => X t j) (fun t => hX t j) hker (fun i hi => by
      rw [he i j hi (by omega)]
      unfold colN
      rw [List.getD_eq_getElem?_getD, List.getElem?_map, List.getElem?_range hi]; rfl)
    have h1 := made_l1 hS hk.2 (mints B) (mints (grid k j X)) (c : Int) (show j < c by omega) (k + 1 + q) k 0 (by omega)
    rw [show ints (colN S j 0) = [] from rfl, hsol, Option.bind_some, ← mixM_zero] at h1
    have h2 := made_l2 X hk.2 (mints B) (mints S) (c : Int) (j := j) (by omega) q k 0 (by omega)
    rw [XE.quartermasterref03_Decode.l0, if_pos (by omega), ← mixM_zero]
    exact (h1.trans h2).trans (ih (j + 1) q (by omega) (by omega))
theorem made_f {k c : Nat} {B S : List (List Nat)} (hB : Square k B) (hS : Rect k c S) (hk : 1 ≤ k ∧ k ≤ 64) (hc : c ≤ 4096) {X : Nat → Nat → Nat} (hX : ∀ i j, X i j < 256) (hker : ¬ Ker k (el B)) (he : ∀ i j, i < k → j < c → sg (fun t => gm (el B i t) (X t j)) k = el S i j) {q : Nat} (hq : 200 * c < q) :
    XE.quartermasterref03_Decode.f q (mints B) (k : Int) (mints S) (c : Int) = some (mints (grid k c X)) := by
  unfold XE.quartermasterref03_Decode.f
  rw [if_pos (by omega), if_pos (by omega), Int.toNat_natCast, show List.replicate k ([] : List Int) = mints (grid k 0 X) from by
    unfold mints grid
    rw [List.map_map]
    apply List.ext_getElem?
    intro r
    by_cases hr : r < k
    · rw [List.getElem?_map, List.getElem?_range hr, List.getElem?_replicate, if_pos hr]; rfl
    · rw [List.getElem?_replicate, if_neg hr, List.getElem?_eq_none (by simp; omega)]]
  exact made_l0 hB hS hk hc hX hker he c 0 q (by omega) hq
end Go.Proofs.Ythblmkailhdhlaa.Mat
