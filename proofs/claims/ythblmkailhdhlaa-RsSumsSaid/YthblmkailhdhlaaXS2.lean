-- PRINTED by print.py (a twelfth state) out of the translation. Not trusted: Lean checks it.
import Derived.Test.YthblmkailhdhlaaXS0
namespace Go.Proofs.Ythblmkailhdhlaa.XS
open Go.Proofs.Ythblmkailhdhlaa.G Go.Proofs.Ythblmkailhdhlaa.P Go.Proofs.Ythblmkailhdhlaa.Given Go.Proofs.Ythblmkailhdhlaa.T Go.RowKit Go.Proofs.YthblmkailhdhlaaW.PrintWords Go.Proofs.YthblmkailhdhlaaW.PrintLast Go.Proofs.YthblmkailhdhlaaW.PrintMore
attribute [local go_sem] max2_int min2_int max_two min_two max_three min_three max_four min_four   -- for this text's walks alone
set_option linter.unusedVariables false
set_option linter.unusedSimpArgs false

/-! ### quartermasterlaw03_RsSums: function 22 -/
mutual
def quartermasterlaw03_RsSums.j0 : Nat → List (List Int) → List (List Int) → Int → Bool → Bool → Bool → Bool → Option (Bool)
  | 0, _, _, _, _, _, _, _ => none
  | k + 1, x0, x1, x2, x7, x8, x9, x10 => if x7 = true then (if x8 = true then (if x9 = true then (if x10 = true then (if (x0.length : Int) = (x1.length : Int) then (if 0 < (x0.length : Int) then (if 0 < (x1.length : Int) then (if ((rd_L1 x0 0).length : Int) = ((rd_L1 x1 0).length : Int) then (if (x0.length : Int) > 12 then (quartermasterlaw03_RsSums.j1 k x0 x1 x2 x7 true) else (if x2 < 0 then (quartermasterlaw03_RsSums.j1 k x0 x1 x2 x7 true) else (quartermasterlaw03_RsSums.j1 k x0 x1 x2 x7 (decide (x2 > 8))))) else (quartermasterlaw03_RsSums.j1 k x0 x1 x2 x7 true)) else (none)) else (none)) else (quartermasterlaw03_RsSums.j1 k x0 x1 x2 x7 true)) else (quartermasterlaw03_RsSums.j1 k x0 x1 x2 x7 true)) else (quartermasterlaw03_RsSums.j1 k x0 x1 x2 x7 true)) else (quartermasterlaw03_RsSums.j1 k x0 x1 x2 x7 true)) else (none)
def quartermasterlaw03_RsSums.j1 : Nat → List (List Int) → List (List Int) → Int → Bool → Bool → Option (Bool)
  | 0, _, _, _, _, _ => none
  | k + 1, x0, x1, x2, x7, x78 => if x78 = true then (some x7) else (quartermasterlaw03_RsSums.l0 k x0 x1 x2 ([] : List (List Int)) 0)
def quartermasterlaw03_RsSums.l0 : Nat → List (List Int) → List (List Int) → Int → List (List Int) → Int → Option (Bool)
  | 0, _, _, _, _, _ => none
  | k + 1, x0, x1, x2, x11, x12 => if x12 < (x0.length : Int) then (if 0 ≤ x12 then (if 0 ≤ ((rd_L1 x0 x12).length : Int) then (if (((rd_L1 x0 x12).length : Int) : Int).toNat ≤ 281474976710656 then (quartermasterlaw03_RsSums.l1 k x0 x1 x2 x11 x12 (List.replicate (((rd_L1 x0 x12).length : Int) : Int).toNat 0) 0) else (none)) else (none)) else (none)) else ((rs_Encode.f k x0 x2).bind fun bt121 => ((rs_Encode.f k x1 x2).bind fun bt125 => ((rs_Encode.f k x11 x2).bind fun bt129 => (if bt121.2 = 0 then (if bt125.2 = 0 then (if bt129.2 = 0 then (if (bt121.1.length : Int) = x2 then (if (bt125.1.length : Int) = x2 then (quartermasterlaw03_RsSums.j4 k x2 bt121.1 bt125.1 bt129.1 ((bt129.1.length : Int) != x2)) else (none)) else (none)) else (none)) else (none)) else (none)))))
def quartermasterlaw03_RsSums.l1 : Nat → List (List Int) → List (List Int) → Int → List (List Int) → Int → List Int → Int → Option (Bool)
  | 0, _, _, _, _, _, _, _ => none
  | k + 1, x0, x1, x2, x11, x12, x13, x14 => if x14 < (x13.length : Int) then (if 0 ≤ x12 then (if x12 < (x0.length : Int) then (if 0 ≤ x14 then (if x14 < ((rd_L1 x0 x12).length : Int) then (if x12 < (x1.length : Int) then (if x14 < ((rd_L1 x1 x12).length : Int) then ((quartermasterref01_Add.f k (rd (rd_L1 x0 x12) x14) (rd (rd_L1 x1 x12) x14)).bind fun t116 => (quartermasterlaw03_RsSums.l1 k x0 x1 x2 x11 x12 (x13.set (x14 : Int).toNat t116) (wrap64 (x14 + 1)))) else (none)) else (none)) else (none)) else (none)) else (none)) else (none)) else (if x11.length < 5864062014805 then (quartermasterlaw03_RsSums.l0 k x0 x1 x2 (x11 ++ [x13]) (wrap64 (x12 + 1))) else (none))
def quartermasterlaw03_RsSums.j4 : Nat → Int → List (List Int) → List (List Int) → List (List Int) → Bool → Option (Bool)
  | 0, _, _, _, _, _ => none
  | k + 1, x2, x15, x17, x19, x165 => if x165 = true then (none) else (quartermasterlaw03_RsSums.l2 k x2 x15 x17 x19 0)
def quartermasterlaw03_RsSums.l2 : Nat → Int → List (List Int) → List (List Int) → List (List Int) → Int → Option (Bool)
  | 0, _, _, _, _, _ => none
  | k + 1, x2, x15, x17, x19, x21 => if x21 < x2 then (quartermasterlaw03_RsSums.l3 k x2 x15 x17 x19 x21 0) else (some true)
def quartermasterlaw03_RsSums.l3 : Nat → Int → List (List Int) → List (List Int) → List (List Int) → Int → Int → Option (Bool)
  | 0, _, _, _, _, _, _ => none
  | k + 1, x2, x15, x17, x19, x21, x22 => if 0 ≤ x21 then (if x21 < (x19.length : Int) then (if x22 < ((rd_L1 x19 x21).length : Int) then (if x21 < (x15.length : Int) then (if x22 ≥ ((rd_L1 x15 x21).length : Int) then (none) else (if x21 < (x17.length : Int) then (if x22 ≥ ((rd_L1 x17 x21).length : Int) then (none) else (if 0 ≤ x22 then (if x22 < ((rd_L1 x15 x21).length : Int) then (if x22 < ((rd_L1 x17 x21).length : Int) then ((quartermasterref01_Add.f k (rd (rd_L1 x15 x21) x22) (rd (rd_L1 x17 x21) x22)).bind fun t142 => (if (rd (rd_L1 x19 x21) x22) = t142 then (quartermasterlaw03_RsSums.l3 k x2 x15 x17 x19 x21 (wrap64 (x22 + 1))) else (none))) else (none)) else (none)) else (none))) else (none))) else (none)) else (quartermasterlaw03_RsSums.l2 k x2 x15 x17 x19 (wrap64 (x21 + 1)))) else (none)) else (none)
end
def quartermasterlaw03_RsSums.f (k : Nat) (l0 : List (List Int)) (l1 : List (List Int)) (a2 : Int) : Option (Bool) := (quartermasterlaw03_awake.f).bind fun t101 => ((quartermasterlaw03_light.f k l0).bind fun t102 => ((quartermasterlaw03_light.f k l1).bind fun t103 => ((quartermasterref02_May.f k l0).bind fun t104 => (if t104 = true then ((quartermasterref02_May.f k l1).bind fun t105 => (quartermasterlaw03_RsSums.j0 k l0 l1 a2 t101 t102 t103 t105)) else (quartermasterlaw03_RsSums.j0 k l0 l1 a2 t101 t102 t103 false)))))
theorem quartermasterlaw03_RsSums.mono_l : ∀ k, (∀ y0 y1 y2 y3 y4 y5 y6, LeO (quartermasterlaw03_RsSums.j0 k y0 y1 y2 y3 y4 y5 y6) (quartermasterlaw03_RsSums.j0 (k + 1) y0 y1 y2 y3 y4 y5 y6)) ∧ (∀ y0 y1 y2 y3 y4, LeO (quartermasterlaw03_RsSums.j1 k y0 y1 y2 y3 y4) (quartermasterlaw03_RsSums.j1 (k + 1) y0 y1 y2 y3 y4)) ∧ (∀ y0 y1 y2 y3 y4, LeO (quartermasterlaw03_RsSums.l0 k y0 y1 y2 y3 y4) (quartermasterlaw03_RsSums.l0 (k + 1) y0 y1 y2 y3 y4)) ∧ (∀ y0 y1 y2 y3 y4 y5 y6, LeO (quartermasterlaw03_RsSums.l1 k y0 y1 y2 y3 y4 y5 y6) (quartermasterlaw03_RsSums.l1 (k + 1) y0 y1 y2 y3 y4 y5 y6)) ∧ (∀ y0 y1 y2 y3 y4, LeO (quartermasterlaw03_RsSums.j4 k y0 y1 y2 y3 y4) (quartermasterlaw03_RsSums.j4 (k + 1) y0 y1 y2 y3 y4)) ∧ (∀ y0 y1 y2 y3 y4, LeO (quartermasterlaw03_RsSums.l2 k y0 y1 y2 y3 y4) (quartermasterlaw03_RsSums.l2 (k + 1) y0 y1 y2 y3 y4)) ∧ (∀ y0 y1 y2 y3 y4 y5, LeO (quartermasterlaw03_RsSums.l3 k y0 y1 y2 y3 y4 y5) (quartermasterlaw03_RsSums.l3 (k + 1) y0 y1 y2 y3 y4 y5))
  | 0 => ⟨fun _ _ _ _ _ _ _ r h => by simp [quartermasterlaw03_RsSums.j0] at h, fun _ _ _ _ _ r h => by simp [quartermasterlaw03_RsSums.j1] at h, fun _ _ _ _ _ r h => by simp [quartermasterlaw03_RsSums.l0] at h, fun _ _ _ _ _ _ _ r h => by simp [quartermasterlaw03_RsSums.l1] at h, fun _ _ _ _ _ r h => by simp [quartermasterlaw03_RsSums.j4] at h, fun _ _ _ _ _ r h => by simp [quartermasterlaw03_RsSums.l2] at h, fun _ _ _ _ _ _ r h => by simp [quartermasterlaw03_RsSums.l3] at h⟩
  | k + 1 => by
    obtain ⟨ih0, ih1, ih2, ih3, ih4, ih5, ih6⟩ := quartermasterlaw03_RsSums.mono_l k
    refine ⟨?_, ?_, ?_, ?_, ?_, ?_, ?_⟩
    · intro y0 y1 y2 y3 y4 y5 y6
      unfold quartermasterlaw03_RsSums.j0
      repeat' first
      | (with_reducible exact ih0 _ _ _ _ _ _ _)
      | (with_reducible exact ih1 _ _ _ _ _)
      | (with_reducible exact ih2 _ _ _ _ _)
      | (with_reducible exact ih3 _ _ _ _ _ _ _)
      | (with_reducible exact ih4 _ _ _ _ _)
      | (with_reducible exact ih5 _ _ _ _ _)
      | (with_reducible exact ih6 _ _ _ _ _ _)
      | (with_reducible exact quartermasterlaw03_light.mono _ _)
      | (with_reducible exact quartermasterref01_Add.mono _ _ _)
      | (with_reducible exact quartermasterref02_May.mono _ _)
      | (with_reducible exact rs_Encode.mono _ _ _)
      | (with_reducible exact LeO.refl _)
      | (with_reducible exact LeO.none _)
      | (with_reducible refine LeO.ite ?_ ?_)
      | (with_reducible refine LeO.bind ?_ (fun _ => ?_))
      | exact ih0 _ _ _ _ _ _ _
      | exact ih1 _ _ _ _ _
      | exact ih2 _ _ _ _ _
      | exact ih3 _ _ _ _ _ _ _
      | exact ih4 _ _ _ _ _
      | exact ih5 _ _ _ _ _
      | exact ih6 _ _ _ _ _ _
      | exact quartermasterlaw03_light.mono _ _
      | exact quartermasterref01_Add.mono _ _ _
      | exact quartermasterref02_May.mono _ _
      | exact rs_Encode.mono _ _ _
      | exact LeO.none _
      | refine LeO.ite ?_ ?_
      | refine LeO.bind ?_ (fun _ => ?_)
    · intro y0 y1 y2 y3 y4
      unfold quartermasterlaw03_RsSums.j1
      repeat' first
      | (with_reducible exact ih0 _ _ _ _ _ _ _)
      | (with_reducible exact ih1 _ _ _ _ _)
      | (with_reducible exact ih2 _ _ _ _ _)
      | (with_reducible exact ih3 _ _ _ _ _ _ _)
      | (with_reducible exact ih4 _ _ _ _ _)
      | (with_reducible exact ih5 _ _ _ _ _)
      | (with_reducible exact ih6 _ _ _ _ _ _)
      | (with_reducible exact quartermasterlaw03_light.mono _ _)
      | (with_reducible exact quartermasterref01_Add.mono _ _ _)
      | (with_reducible exact quartermasterref02_May.mono _ _)
      | (with_reducible exact rs_Encode.mono _ _ _)
      | (with_reducible exact LeO.refl _)
      | (with_reducible exact LeO.none _)
      | (with_reducible refine LeO.ite ?_ ?_)
      | (with_reducible refine LeO.bind ?_ (fun _ => ?_))
      | exact ih0 _ _ _ _ _ _ _
      | exact ih1 _ _ _ _ _
      | exact ih2 _ _ _ _ _
      | exact ih3 _ _ _ _ _ _ _
      | exact ih4 _ _ _ _ _
      | exact ih5 _ _ _ _ _
      | exact ih6 _ _ _ _ _ _
      | exact quartermasterlaw03_light.mono _ _
      | exact quartermasterref01_Add.mono _ _ _
      | exact quartermasterref02_May.mono _ _
      | exact rs_Encode.mono _ _ _
      | exact LeO.none _
      | refine LeO.ite ?_ ?_
      | refine LeO.bind ?_ (fun _ => ?_)
    · intro y0 y1 y2 y3 y4
      unfold quartermasterlaw03_RsSums.l0
      repeat' first
      | (with_reducible exact ih0 _ _ _ _ _ _ _)
      | (with_reducible exact ih1 _ _ _ _ _)
      | (with_reducible exact ih2 _ _ _ _ _)
      | (with_reducible exact ih3 _ _ _ _ _ _ _)
      | (with_reducible exact ih4 _ _ _ _ _)
      | (with_reducible exact ih5 _ _ _ _ _)
      | (with_reducible exact ih6 _ _ _ _ _ _)
      | (with_reducible exact quartermasterlaw03_light.mono _ _)
      | (with_reducible exact quartermasterref01_Add.mono _ _ _)
      | (with_reducible exact quartermasterref02_May.mono _ _)
      | (with_reducible exact rs_Encode.mono _ _ _)
      | (with_reducible exact LeO.refl _)
      | (with_reducible exact LeO.none _)
      | (with_reducible refine LeO.ite ?_ ?_)
      | (with_reducible refine LeO.bind ?_ (fun _ => ?_))
      | exact ih0 _ _ _ _ _ _ _
      | exact ih1 _ _ _ _ _
      | exact ih2 _ _ _ _ _
      | exact ih3 _ _ _ _ _ _ _
      | exact ih4 _ _ _ _ _
      | exact ih5 _ _ _ _ _
      | exact ih6 _ _ _ _ _ _
      | exact quartermasterlaw03_light.mono _ _
      | exact quartermasterref01_Add.mono _ _ _
      | exact quartermasterref02_May.mono _ _
      | exact rs_Encode.mono _ _ _
      | exact LeO.none _
      | refine LeO.ite ?_ ?_
      | refine LeO.bind ?_ (fun _ => ?_)
    · intro y0 y1 y2 y3 y4 y5 y6
      unfold quartermasterlaw03_RsSums.l1
      repeat' first
      | (with_reducible exact ih0 _ _ _ _ _ _ _)
      | (with_reducible exact ih1 _ _ _ _ _)
      | (with_reducible exact ih2 _ _ _ _ _)
      | (with_reducible exact ih3 _ _ _ _ _ _ _)
      | (with_reducible exact ih4 _ _ _ _ _)
      | (with_reducible exact ih5 _ _ _ _ _)
      | (with_reducible exact ih6 _ _ _ _ _ _)
      | (with_reducible exact quartermasterlaw03_light.mono _ _)
      | (with_reducible exact quartermasterref01_Add.mono _ _ _)
      | (with_reducible exact quartermasterref02_May.mono _ _)
      | (with_reducible exact rs_Encode.mono _ _ _)
      | (with_reducible exact LeO.refl _)
      | (with_reducible exact LeO.none _)
      | (with_reducible refine LeO.ite ?_ ?_)
      | (with_reducible refine LeO.bind ?_ (fun _ => ?_))
      | exact ih0 _ _ _ _ _ _ _
      | exact ih1 _ _ _ _ _
      | exact ih2 _ _ _ _ _
      | exact ih3 _ _ _ _ _ _ _
      | exact ih4 _ _ _ _ _
      | exact ih5 _ _ _ _ _
      | exact ih6 _ _ _ _ _ _
      | exact quartermasterlaw03_light.mono _ _
      | exact quartermasterref01_Add.mono _ _ _
      | exact quartermasterref02_May.mono _ _
      | exact rs_Encode.mono _ _ _
      | exact LeO.none _
      | refine LeO.ite ?_ ?_
      | refine LeO.bind ?_ (fun _ => ?_)
    · intro y0 y1 y2 y3 y4
      unfold quartermasterlaw03_RsSums.j4
      repeat' first
      | (with_reducible exact ih0 _ _ _ _ _ _ _)
      | (with_reducible exact ih1 _ _ _ _ _)
      | (with_reducible exact ih2 _ _ _ _ _)
      | (with_reducible exact ih3 _ _ _ _ _ _ _)
      | (with_reducible exact ih4 _ _ _ _ _)
      | (with_reducible exact ih5 _ _ _ _ _)
      | (with_reducible exact ih6 _ _ _ _ _ _)
      | (with_reducible exact quartermasterlaw03_light.mono _ _)
      | (with_reducible exact quartermasterref01_Add.mono _ _ _)
      | (with_reducible exact quartermasterref02_May.mono _ _)
      | (with_reducible exact rs_Encode.mono _ _ _)
      | (with_reducible exact LeO.refl _)
      | (with_reducible exact LeO.none _)
      | (with_reducible refine LeO.ite ?_ ?_)
      | (with_reducible refine LeO.bind ?_ (fun _ => ?_))
      | exact ih0 _ _ _ _ _ _ _
      | exact ih1 _ _ _ _ _
      | exact ih2 _ _ _ _ _
      | exact ih3 _ _ _ _ _ _ _
      | exact ih4 _ _ _ _ _
      | exact ih5 _ _ _ _ _
      | exact ih6 _ _ _ _ _ _
      | exact quartermasterlaw03_light.mono _ _
      | exact quartermasterref01_Add.mono _ _ _
      | exact quartermasterref02_May.mono _ _
      | exact rs_Encode.mono _ _ _
      | exact LeO.none _
      | refine LeO.ite ?_ ?_
      | refine LeO.bind ?_ (fun _ => ?_)
    · intro y0 y1 y2 y3 y4
      unfold quartermasterlaw03_RsSums.l2
      repeat' first
      | (with_reducible exact ih0 _ _ _ _ _ _ _)
      | (with_reducible exact ih1 _ _ _ _ _)
      | (with_reducible exact ih2 _ _ _ _ _)
      | (with_reducible exact ih3 _ _ _ _ _ _ _)
      | (with_reducible exact ih4 _ _ _ _ _)
      | (with_reducible exact ih5 _ _ _ _ _)
      | (with_reducible exact ih6 _ _ _ _ _ _)
      | (with_reducible exact quartermasterlaw03_light.mono _ _)
      | (with_reducible exact quartermasterref01_Add.mono _ _ _)
      | (with_reducible exact quartermasterref02_May.mono _ _)
      | (with_reducible exact rs_Encode.mono _ _ _)
      | (with_reducible exact LeO.refl _)
      | (with_reducible exact LeO.none _)
      | (with_reducible refine LeO.ite ?_ ?_)
      | (with_reducible refine LeO.bind ?_ (fun _ => ?_))
      | exact ih0 _ _ _ _ _ _ _
      | exact ih1 _ _ _ _ _
      | exact ih2 _ _ _ _ _
      | exact ih3 _ _ _ _ _ _ _
      | exact ih4 _ _ _ _ _
      | exact ih5 _ _ _ _ _
      | exact ih6 _ _ _ _ _ _
      | exact quartermasterlaw03_light.mono _ _
      | exact quartermasterref01_Add.mono _ _ _
      | exact quartermasterref02_May.mono _ _
      | exact rs_Encode.mono _ _ _
      | exact LeO.none _
      | refine LeO.ite ?_ ?_
      | refine LeO.bind ?_ (fun _ => ?_)
    · intro y0 y1 y2 y3 y4 y5
      unfold quartermasterlaw03_RsSums.l3
      repeat' first
      | (with_reducible exact ih0 _ _ _ _ _ _ _)
      | (with_reducible exact ih1 _ _ _ _ _)
      | (with_reducible exact ih2 _ _ _ _ _)
      | (with_reducible exact ih3 _ _ _ _ _ _ _)
      | (with_reducible exact ih4 _ _ _ _ _)
      | (with_reducible exact ih5 _ _ _ _ _)
      | (with_reducible exact ih6 _ _ _ _ _ _)
      | (with_reducible exact quartermasterlaw03_light.mono _ _)
      | (with_reducible exact quartermasterref01_Add.mono _ _ _)
      | (with_reducible exact quartermasterref02_May.mono _ _)
      | (with_reducible exact rs_Encode.mono _ _ _)
      | (with_reducible exact LeO.refl _)
      | (with_reducible exact LeO.none _)
      | (with_reducible refine LeO.ite ?_ ?_)
      | (with_reducible refine LeO.bind ?_ (fun _ => ?_))
      | exact ih0 _ _ _ _ _ _ _
      | exact ih1 _ _ _ _ _
      | exact ih2 _ _ _ _ _
      | exact ih3 _ _ _ _ _ _ _
      | exact ih4 _ _ _ _ _
      | exact ih5 _ _ _ _ _
      | exact ih6 _ _ _ _ _ _
      | exact quartermasterlaw03_light.mono _ _
      | exact quartermasterref01_Add.mono _ _ _
      | exact quartermasterref02_May.mono _ _
      | exact rs_Encode.mono _ _ _
      | exact LeO.none _
      | refine LeO.ite ?_ ?_
      | refine LeO.bind ?_ (fun _ => ?_)
theorem quartermasterlaw03_RsSums.mono : ∀ a0 a1 a2 k, LeO (quartermasterlaw03_RsSums.f k a0 a1 a2) (quartermasterlaw03_RsSums.f (k + 1) a0 a1 a2) := by
  intro a0 a1 a2 k
  obtain ⟨ih0, ih1, ih2, ih3, ih4, ih5, ih6⟩ := quartermasterlaw03_RsSums.mono_l k
  unfold quartermasterlaw03_RsSums.f
  repeat' first
      | (with_reducible exact ih0 _ _ _ _ _ _ _)
      | (with_reducible exact ih1 _ _ _ _ _)
      | (with_reducible exact ih2 _ _ _ _ _)
      | (with_reducible exact ih3 _ _ _ _ _ _ _)
      | (with_reducible exact ih4 _ _ _ _ _)
      | (with_reducible exact ih5 _ _ _ _ _)
      | (with_reducible exact ih6 _ _ _ _ _ _)
      | (with_reducible exact quartermasterlaw03_light.mono _ _)
      | (with_reducible exact quartermasterref01_Add.mono _ _ _)
      | (with_reducible exact quartermasterref02_May.mono _ _)
      | (with_reducible exact rs_Encode.mono _ _ _)
      | (with_reducible exact LeO.refl _)
      | (with_reducible exact LeO.none _)
      | (with_reducible refine LeO.ite ?_ ?_)
      | (with_reducible refine LeO.bind ?_ (fun _ => ?_))
      | exact ih0 _ _ _ _ _ _ _
      | exact ih1 _ _ _ _ _
      | exact ih2 _ _ _ _ _
      | exact ih3 _ _ _ _ _ _ _
      | exact ih4 _ _ _ _ _
      | exact ih5 _ _ _ _ _
      | exact ih6 _ _ _ _ _ _
      | exact quartermasterlaw03_light.mono _ _
      | exact quartermasterref01_Add.mono _ _ _
      | exact quartermasterref02_May.mono _ _
      | exact rs_Encode.mono _ _ _
      | exact LeO.none _
      | refine LeO.ite ?_ ?_
      | refine LeO.bind ?_ (fun _ => ?_)
def quartermasterlaw03_RsSums.T5 : Bool × List (List Nat × List Nat) := (true, [([], []), ([0], [0]), ([1], [1]), ([2], [2]), ([3, 2], [2, 3]), ([2, 4], [2, 4]), ([5, 2], [5]), ([6], [6]), ([7, 6], [6, 7]), ([6, 8], [6, 8]), ([9, 6], [9]), ([10], [10]), ([11, 10], [10, 11]), ([10, 12], [10, 12]), ([13, 10], [13]), ([14], [14]), ([15, 14], [14, 15]), ([14], [14]), ([17, 14], [14, 17]), ([16, 18, 14], [14, 16, 18]), ([14, 19], [14, 19]), ([20, 14], [20]), ([21], [21]), ([22, 21], [21, 22]), ([23, 21], [21, 23]), ([24, 21], [21, 24]), ([21], [21]), ([26, 21], [21, 26]), ([27, 21], [21, 27]), ([28, 21], [21, 28]), ([25, 29, 21], [21, 25, 29]), ([21, 30], [21, 30]), ([31, 21], [31]), ([32], [32]), ([33, 32], [32, 33]), ([34, 32], [32, 34]), ([32, 35], [32, 35]), ([36, 32], [36]), ([37], [37]), ([38, 37], [37, 38]), ([37, 39], [37, 39]), ([40, 37], [40]), ([41], [41]), ([42, 41], [41, 42]), ([41, 43], [41, 43])])
def quartermasterlaw03_RsSums.B5 : List Nat := [0, 1, 3, 7, 15, 31, 63, 127, 255, 511, 1023, 2047, 4095, 8191, 16383, 32767, 65535, 32767, 163839, 524287, 1048575, 2097151, 4194303, 8388607, 16777215, 33554431, 4194303, 71303167, 205520895, 473956351, 1073741823, 2147483647, 4294967295, 8589934591, 17179869183, 34359738367, 68719476735, 137438953471, 274877906943, 549755813887, 1099511627775, 2199023255551, 4398046511103, 8796093022207, 17592186044415]
theorem quartermasterlaw03_RsSums.tab5 : rtab .any (opsOf Try.f22 5) = quartermasterlaw03_RsSums.T5 := by kernel_rfl
theorem quartermasterlaw03_RsSums.bits5 : waitsOk quartermasterlaw03_RsSums.T5.2 quartermasterlaw03_RsSums.B5 = true := by kernel_rfl
def quartermasterlaw03_RsSums.T15 : Bool × List (List Nat × List Nat) := (true, [([], []), ([], []), ([], []), ([], []), ([2, 3], [2, 3]), ([4], [4]), ([], []), ([5, 6], [5, 6]), ([7], [7]), ([], []), ([], []), ([9, 10], [9, 10]), ([11], [11]), ([], []), ([12, 13], [12, 13]), ([14], [14]), ([8, 15], [8, 15]), ([0, 1, 0, 1, 2, 3, 4, 5, 6, 7, 8, 9, 10, 11, 12, 13, 14, 15, 16], [0, 1]), ([17, 16, 16, 0, 1, 2, 3, 4, 5, 6, 7, 8, 9, 10, 11, 12, 13, 14, 15, 16], [16, 17])])
def quartermasterlaw03_RsSums.B15 : List Nat := [0, 0, 0, 0, 12, 28, 0, 124, 252, 0, 0, 1536, 3584, 0, 15872, 32256, 65532, 131071, 262143]
theorem quartermasterlaw03_RsSums.tab15 : rtab .any (opsOf Try.f22 15) = quartermasterlaw03_RsSums.T15 := by kernel_rfl
theorem quartermasterlaw03_RsSums.bits15 : waitsOk quartermasterlaw03_RsSums.T15.2 quartermasterlaw03_RsSums.B15 = true := by kernel_rfl
def quartermasterlaw03_RsSums.T28 : Bool × List (List Nat × List Nat) := (true, [([], []), ([], []), ([], []), ([1, 2], [1, 2]), ([3], [3]), ([4], [4]), ([0, 5], [0, 5]), ([6], [6]), ([7], [7]), ([7], [7]), ([7], [7]), ([9, 10, 7], [7, 9, 10]), ([11, 7], [7, 11]), ([12, 7], [7, 12]), ([8, 13, 7], [7, 8, 13]), ([7, 14], [7, 14]), ([15, 7], [15]), ([16], [16]), ([16], [16]), ([17, 18, 16], [16, 17, 18]), ([19, 16], [16, 19]), ([16], [16]), ([20, 21, 16], [16, 20, 21]), ([22, 16], [16, 22]), ([16], [16]), ([16], [16]), ([24, 25, 16], [16, 24, 25]), ([26, 16], [16, 26]), ([16], [16]), ([27, 28, 16], [16, 27, 28]), ([29, 16], [16, 29]), ([16], [16]), ([16], [16]), ([31, 32, 16], [16, 31, 32]), ([33, 16], [16, 33]), ([16], [16]), ([34, 35, 16], [16, 34, 35]), ([36, 16], [16, 36]), ([30, 37, 16, 16], [16, 30, 37]), ([23, 38, 16], [16, 23, 38]), ([16, 39], [16, 39])])
def quartermasterlaw03_RsSums.B28 : List Nat := [0, 0, 0, 6, 14, 30, 63, 127, 255, 255, 255, 1791, 3839, 7935, 16383, 32767, 65535, 131071, 131071, 524287, 1048575, 131071, 4194303, 8388607, 131071, 131071, 50462719, 117571583, 131071, 520224767, 1057095679, 131071, 131071, 6442582015, 15032516607, 131071, 66572124159, 135291600895, 274861260799, 549755813887, 1099511627775]
theorem quartermasterlaw03_RsSums.tab28 : rtab .any (opsOf Try.f22 28) = quartermasterlaw03_RsSums.T28 := by kernel_rfl
theorem quartermasterlaw03_RsSums.bits28 : waitsOk quartermasterlaw03_RsSums.T28.2 quartermasterlaw03_RsSums.B28 = true := by kernel_rfl
set_option maxHeartbeats 8000000 in
set_option maxRecDepth 100000 in
theorem quartermasterlaw03_RsSums.calls (k : Nat) (A0 : Option Addr) (c0 : Nat) (l0 : List (List Int)) (A1 : Option Addr) (c1 : Nat) (l1 : List (List Int)) (a2 : Int) (r : Bool) (w : World) (hr0 : Kd.C (Kd.slice 5 (Kd.int .u8)) w A0 l0.length l0) (hc0 : l0.length ≤ c0) (hr1 : Kd.C (Kd.slice 5 (Kd.int .u8)) w A1 l1.length l1) (hc1 : l1.length ≤ c1) (h : quartermasterlaw03_RsSums.f k l0 l1 a2 = some r) :
    Calls Try.prog 22 #[.slice A0 l0.length c0, .slice A1 l1.length c1, .int .i64 a2] w fun e w' => e = .returned (.bool r) ∧ Below w.heap.size w w' := by
  have HR0 := Aside0.mk hr0
  have HC0 := Aside0.mk hc0
  clear hr0 hc0
  have HR1 := Aside0.mk hr1
  have HC1 := Aside0.mk hc1
  clear hr1 hc1
  have HB := Aside0.mk (Below.refl w.heap.size w)
  have H : ((quartermasterlaw03_awake.f).bind fun t101 => ((quartermasterlaw03_light.f k l0).bind fun t102 => ((quartermasterlaw03_light.f k l1).bind fun t103 => ((quartermasterref02_May.f k l0).bind fun t104 => (if t104 = true then ((quartermasterref02_May.f k l1).bind fun t105 => (quartermasterlaw03_RsSums.j0 k l0 l1 a2 t101 t102 t103 t105)) else (quartermasterlaw03_RsSums.j0 k l0 l1 a2 t101 t102 t103 false)))))) = some r := h
  clear h
  replace H := Option.bind_eq_some_iff.mp H
  obtain ⟨t101, A40, H⟩ := H
  replace H : ((quartermasterlaw03_light.f k l0).bind fun t102 => ((quartermasterlaw03_light.f k l1).bind fun t103 => ((quartermasterref02_May.f k l0).bind fun t104 => (if t104 = true then ((quartermasterref02_May.f k l1).bind fun t105 => (quartermasterlaw03_RsSums.j0 k l0 l1 a2 t101 t102 t103 t105)) else (quartermasterlaw03_RsSums.j0 k l0 l1 a2 t101 t102 t103 false))))) = some r := H
  have A4 := Aside0.mk A40
  clear A40
  replace H := Option.bind_eq_some_iff.mp H
  obtain ⟨t102, A50, H⟩ := H
  replace H : ((quartermasterlaw03_light.f k l1).bind fun t103 => ((quartermasterref02_May.f k l0).bind fun t104 => (if t104 = true then ((quartermasterref02_May.f k l1).bind fun t105 => (quartermasterlaw03_RsSums.j0 k l0 l1 a2 t101 t102 t103 t105)) else (quartermasterlaw03_RsSums.j0 k l0 l1 a2 t101 t102 t103 false)))) = some r := H
  have A5 := Aside0.mk A50
  clear A50
  replace H := Option.bind_eq_some_iff.mp H
  obtain ⟨t103, A60, H⟩ := H
  replace H : ((quartermasterref02_May.f k l0).bind fun t104 => (if t104 = true then ((quartermasterref02_May.f k l1).bind fun t105 => (quartermasterlaw03_RsSums.j0 k l0 l1 a2 t101 t102 t103 t105)) else (quartermasterlaw03_RsSums.j0 k l0 l1 a2 t101 t102 t103 false))) = some r := H
  have A6 := Aside0.mk A60
  clear A60
  have HC7 := Aside0.mk H
  clear H
  go_enter Try.func22, Try.ntmps22
  go_upto_region 4 with (first | ((with_reducible refine gate_callee (f := 49) rfl ?_); refine goesL_ (some 23) rfl rfl Try.func49 (by kernel_rfl) rfl #[] rfl (by (try simp only [List.map_toArray, List.map_cons, List.map_nil]); first | done | rfl | (simp only [List.length_drop, List.length_take]; rfl)) ?_; (with_reducible refine (quartermasterlaw03_awake.calls  t101 _ A4.out).mono ?_); rintro e w8 ⟨rfl, hb⟩; refine ⟨_, rfl, ?_⟩; have n0_ := Aside0.mk (below_step (by repeat (first | (with_reducible first | exact HB.out | apply below_alloc | apply pw_below_drewN | apply below_drew1) | exact HB.out)) hb); clear HB; have HB := n0_; clear n0_; (try clear hb); (try clear hb2); (try clear hk); (try clear hi)) | ((with_reducible refine gate_callee (f := 50) rfl ?_); refine goesL_ (some 25) rfl rfl Try.func50 (by kernel_rfl) rfl #[.slice A0 l0.length c0] rfl (by (try simp only [List.map_toArray, List.map_cons, List.map_nil]); first | done | rfl | (simp only [List.length_drop, List.length_take]; rfl)) ?_; (with_reducible refine (quartermasterlaw03_light.calls k _ _ l0 t102 _ ?side1 ?side2 A5.out).mono ?_); (case side1 => repeat (first | exact (Kd.C_below HR0.out HB.out) | (with_reducible refine Kd.C_alloc ?_ _) | (with_reducible refine Kd.C_drewN ?_ _) | (with_reducible refine Kd.C_drew ?_))); (case side2 => exact HC0.out); rintro e w' ⟨rfl, ⟨nd, rfl⟩⟩; refine ⟨_, rfl, ?_⟩) | ((with_reducible refine gate_callee (f := 50) rfl ?_); refine goesL_ (some 27) rfl rfl Try.func50 (by kernel_rfl) rfl #[.slice A1 l1.length c1] rfl (by (try simp only [List.map_toArray, List.map_cons, List.map_nil]); first | done | rfl | (simp only [List.length_drop, List.length_take]; rfl)) ?_; (with_reducible refine (quartermasterlaw03_light.calls k _ _ l1 t103 _ ?side1 ?side2 A6.out).mono ?_); (case side1 => repeat (first | exact (Kd.C_below HR1.out (by repeat (first | (with_reducible first | exact HB.out | apply below_alloc | apply pw_below_drewN | apply below_drew1) | exact HB.out))) | (with_reducible refine Kd.C_alloc ?_ _) | (with_reducible refine Kd.C_drewN ?_ _) | (with_reducible refine Kd.C_drew ?_))); (case side2 => exact HC1.out); rintro e w' ⟨rfl, ⟨nd, rfl⟩⟩; refine ⟨_, rfl, ?_⟩))
  (try simp only [Act.put, List.setIfInBounds_toArray, List.set_cons_zero, List.set_cons_succ])
  go_cut [10] (fun v10 wc => ∃ (kq : Nat) (x10_6 : Bool), v10 = .bool x10_6 ∧ Aside0 (quartermasterlaw03_RsSums.j0 kq l0 l1 a2 t101 t102 t103 x10_6 = some r) ∧ Aside0 (kq ≤ k) ∧ Aside0 (Below w.heap.size w wc))
  case first =>
    have H := HC7.out
    clear HC7
    replace H := Option.bind_eq_some_iff.mp H
    obtain ⟨t104, A90, H⟩ := H
    replace H : (if t104 = true then ((quartermasterref02_May.f k l1).bind fun t105 => (quartermasterlaw03_RsSums.j0 k l0 l1 a2 t101 t102 t103 t105)) else (quartermasterlaw03_RsSums.j0 k l0 l1 a2 t101 t102 t103 false)) = some r := H
    have A9 := Aside0.mk A90
    clear A90
    by_cases c10 : t104 = true
    · subst c10
      have H1 : ((quartermasterref02_May.f k l1).bind fun t105 => (quartermasterlaw03_RsSums.j0 k l0 l1 a2 t101 t102 t103 t105)) = some r := by rw [if_pos rfl] at H; exact H
      clear H
      have H := H1
      clear H1
      replace H := Option.bind_eq_some_iff.mp H
      obtain ⟨t105, A110, H⟩ := H
      replace H : (quartermasterlaw03_RsSums.j0 k l0 l1 a2 t101 t102 t103 t105) = some r := H
      have A11 := Aside0.mk A110
      clear A110
      have H' := Aside0.mk H
      clear H
      go_wp2_with (first | ((with_reducible refine gate_callee (f := 43) rfl ?_); refine goesL_ (some 29) rfl rfl Try.func43 (by kernel_rfl) rfl #[.slice A0 l0.length c0] rfl (by (try simp only [List.map_toArray, List.map_cons, List.map_nil]); first | done | rfl | (simp only [List.length_drop, List.length_take]; rfl)) ?_; (with_reducible refine (quartermasterref02_May.calls k _ _ l0 true _ ?side1 ?side2 A9.out).mono ?_); (case side1 => repeat (first | exact (Kd.C_below HR0.out HB.out) | (with_reducible refine Kd.C_alloc ?_ _) | (with_reducible refine Kd.C_drewN ?_ _) | (with_reducible refine Kd.C_drew ?_))); (case side2 => exact HC0.out); rintro e w' ⟨rfl, ⟨nd, rfl⟩⟩; refine ⟨_, rfl, ?_⟩) | (go_at_call 43; (with_reducible refine (quartermasterref02_May.calls k _ _ l1 t105 _ ?side1 ?side2 A11.out).mono ?_); (case side1 => repeat (first | exact (Kd.C_below HR1.out (by repeat (first | (with_reducible first | exact HB.out | apply below_alloc | apply pw_below_drewN | apply below_drew1) | exact HB.out))) | (with_reducible refine Kd.C_alloc ?_ _) | (with_reducible refine Kd.C_drewN ?_ _) | (with_reducible refine Kd.C_drew ?_))); (case side2 => exact HC1.out); rintro e w' ⟨rfl, ⟨nd, rfl⟩⟩))
      go_meet
      case rel => exact ⟨_, (t105), (by first | rfl | (simp; done) | (simp [*]; done)), H', ⟨by first | omega | exact Nat.le_refl _⟩, ⟨by repeat (first | (with_reducible first | exact HB.out | apply below_alloc | apply pw_below_drewN | apply below_drew1) | exact HB.out)⟩⟩
    · replace c10 := Bool.eq_false_iff.mpr c10
      subst c10
      have H1 : (quartermasterlaw03_RsSums.j0 k l0 l1 a2 t101 t102 t103 false) = some r := by rw [if_neg (show ¬ (false = true) by decide)] at H; exact H
      clear H
      have H := H1
      clear H1
      have H' := Aside0.mk H
      clear H
      go_wp2_with (first | ((with_reducible refine gate_callee (f := 43) rfl ?_); refine goesL_ (some 29) rfl rfl Try.func43 (by kernel_rfl) rfl #[.slice A0 l0.length c0] rfl (by (try simp only [List.map_toArray, List.map_cons, List.map_nil]); first | done | rfl | (simp only [List.length_drop, List.length_take]; rfl)) ?_; (with_reducible refine (quartermasterref02_May.calls k _ _ l0 false _ ?side1 ?side2 A9.out).mono ?_); (case side1 => repeat (first | exact (Kd.C_below HR0.out HB.out) | (with_reducible refine Kd.C_alloc ?_ _) | (with_reducible refine Kd.C_drewN ?_ _) | (with_reducible refine Kd.C_drew ?_))); (case side2 => exact HC0.out); rintro e w' ⟨rfl, ⟨nd, rfl⟩⟩; refine ⟨_, rfl, ?_⟩))
      go_meet
      case rel => exact ⟨_, (false), (by first | rfl | (simp; done) | (simp [*]; done)), H', ⟨by first | omega | exact Nat.le_refl _⟩, ⟨by repeat (first | (with_reducible first | exact HB.out | apply below_alloc | apply pw_below_drewN | apply below_drew1) | exact HB.out)⟩⟩
  case rest =>
    as_aux_lemma =>
     clear HC7
     try clear c1
     try clear c2
     try clear p2
     try clear c4
     try clear c5
     try clear c10
     obtain ⟨kq, x10_6, rfl, HA, HJ6, HB⟩ := hcut
     cases kq with
     | zero => exact absurd HA.out (by simp [quartermasterlaw03_RsSums.j0])
     | succ kj6 =>
       have H := HA.out
       clear HA
       simp only [quartermasterlaw03_RsSums.j0] at H
       have HC12 := Aside0.mk H
       clear H
       go_upto_region 5 with (fail)
       go_cut [78] (fun v78 wc => ∃ (kq : Nat) (x78_11 : Bool), v78 = .bool x78_11 ∧ Aside0 (quartermasterlaw03_RsSums.j1 kq l0 l1 a2 t101 x78_11 = some r) ∧ Aside0 (kq ≤ kj6) ∧ Aside0 (Below w.heap.size w wc))
       case first =>
         have H := HC12.out
         clear HC12
         by_cases c13 : t101 = true
         · subst c13
           have H1 : (if t102 = true then (if t103 = true then (if x10_6 = true then (if (l0.length : Int) = (l1.length : Int) then (if 0 < (l0.length : Int) then (if 0 < (l1.length : Int) then (if ((rd_L1 l0 0).length : Int) = ((rd_L1 l1 0).length : Int) then (if (l0.length : Int) > 12 then (quartermasterlaw03_RsSums.j1 kj6 l0 l1 a2 true true) else (if a2 < 0 then (quartermasterlaw03_RsSums.j1 kj6 l0 l1 a2 true true) else (quartermasterlaw03_RsSums.j1 kj6 l0 l1 a2 true (decide (a2 > 8))))) else (quartermasterlaw03_RsSums.j1 kj6 l0 l1 a2 true true)) else (none)) else (none)) else (quartermasterlaw03_RsSums.j1 kj6 l0 l1 a2 true true)) else (quartermasterlaw03_RsSums.j1 kj6 l0 l1 a2 true true)) else (quartermasterlaw03_RsSums.j1 kj6 l0 l1 a2 true true)) else (quartermasterlaw03_RsSums.j1 kj6 l0 l1 a2 true true)) = some r := by rw [if_pos rfl] at H; exact H
           clear H
           have H := H1
           clear H1
           by_cases c14 : t102 = true
           · subst c14
             have H1 : (if t103 = true then (if x10_6 = true then (if (l0.length : Int) = (l1.length : Int) then (if 0 < (l0.length : Int) then (if 0 < (l1.length : Int) then (if ((rd_L1 l0 0).length : Int) = ((rd_L1 l1 0).length : Int) then (if (l0.length : Int) > 12 then (quartermasterlaw03_RsSums.j1 kj6 l0 l1 a2 true true) else (if a2 < 0 then (quartermasterlaw03_RsSums.j1 kj6 l0 l1 a2 true true) else (quartermasterlaw03_RsSums.j1 kj6 l0 l1 a2 true (decide (a2 > 8))))) else (quartermasterlaw03_RsSums.j1 kj6 l0 l1 a2 true true)) else (none)) else (none)) else (quartermasterlaw03_RsSums.j1 kj6 l0 l1 a2 true true)) else (quartermasterlaw03_RsSums.j1 kj6 l0 l1 a2 true true)) else (quartermasterlaw03_RsSums.j1 kj6 l0 l1 a2 true true)) = some r := by rw [if_pos rfl] at H; exact H
             clear H
             have H := H1
             clear H1
             by_cases c15 : t103 = true
             · subst c15
               have H1 : (if x10_6 = true then (if (l0.length : Int) = (l1.length : Int) then (if 0 < (l0.length : Int) then (if 0 < (l1.length : Int) then (if ((rd_L1 l0 0).length : Int) = ((rd_L1 l1 0).length : Int) then (if (l0.length : Int) > 12 then (quartermasterlaw03_RsSums.j1 kj6 l0 l1 a2 true true) else (if a2 < 0 then (quartermasterlaw03_RsSums.j1 kj6 l0 l1 a2 true true) else (quartermasterlaw03_RsSums.j1 kj6 l0 l1 a2 true (decide (a2 > 8))))) else (quartermasterlaw03_RsSums.j1 kj6 l0 l1 a2 true true)) else (none)) else (none)) else (quartermasterlaw03_RsSums.j1 kj6 l0 l1 a2 true true)) else (quartermasterlaw03_RsSums.j1 kj6 l0 l1 a2 true true)) = some r := by rw [if_pos rfl] at H; exact H
               clear H
               have H := H1
               clear H1
               by_cases c16 : x10_6 = true
               · subst c16
                 have H1 : (if (l0.length : Int) = (l1.length : Int) then (if 0 < (l0.length : Int) then (if 0 < (l1.length : Int) then (if ((rd_L1 l0 0).length : Int) = ((rd_L1 l1 0).length : Int) then (if (l0.length : Int) > 12 then (quartermasterlaw03_RsSums.j1 kj6 l0 l1 a2 true true) else (if a2 < 0 then (quartermasterlaw03_RsSums.j1 kj6 l0 l1 a2 true true) else (quartermasterlaw03_RsSums.j1 kj6 l0 l1 a2 true (decide (a2 > 8))))) else (quartermasterlaw03_RsSums.j1 kj6 l0 l1 a2 true true)) else (none)) else (none)) else (quartermasterlaw03_RsSums.j1 kj6 l0 l1 a2 true true)) = some r := by rw [if_pos rfl] at H; exact H
                 clear H
                 have H := H1
                 clear H1
                 by_cases c17 : (l0.length : Int) = (l1.length : Int)
                 · rw [if_pos c17] at H
                   have c17b0 : ((l0.length : Int) == (l1.length : Int)) = true := beq_iff_eq.mpr c17
                   have c17b1 : ((l0.length : Int) != (l1.length : Int)) = false := bne_eq_false_iff_eq.mpr c17
                   have c17b2 : (l0.length == l1.length) = true := by first | simpa using c17 | (simp at c17 ⊢; omega)
                   clear c17
                   (first | rw [c17b0] | (simp only [i64_w, i32_w]; rw [c17b0]) | skip)
                   by_cases c18 : 0 < (l0.length : Int)
                   · rw [if_pos c18] at H
                     have c18b0 : decide (0 < (l0.length : Int)) = true := decide_eq_true c18
                     have c18b1 : decide (0 < l0.length) = true := decide_eq_true (by omega)
                     clear c18
                     by_cases c19 : 0 < (l1.length : Int)
                     · rw [if_pos c19] at H
                       have c19b0 : decide (0 < (l1.length : Int)) = true := decide_eq_true c19
                       have c19b1 : decide (0 < l1.length) = true := decide_eq_true (by omega)
                       clear c19
                       by_cases c20 : ((rd_L1 l0 0).length : Int) = ((rd_L1 l1 0).length : Int)
                       · rw [if_pos c20] at H
                         have c20b0 : (((rd_L1 l0 0).length : Int) == ((rd_L1 l1 0).length : Int)) = true := beq_iff_eq.mpr c20
                         have c20b1 : (((rd_L1 l0 0).length : Int) != ((rd_L1 l1 0).length : Int)) = false := bne_eq_false_iff_eq.mpr c20
                         have c20b2 : ((rd_L1 l0 0).length == (rd_L1 l1 0).length) = true := by first | simpa using c20 | (simp at c20 ⊢; omega)
                         clear c20
                         by_cases c21 : (l0.length : Int) > 12
                         · rw [if_pos c21] at H
                           have c21b0 : decide (12 < (l0.length : Int)) = true := decide_eq_true c21
                           have c21b1 : decide (12 < l0.length) = true := decide_eq_true (by omega)
                           clear c21
                           have H' := Aside0.mk H
                           clear H
                           try go_wp2
                           have p106 : 0 ≤ (0 : Int) := (by omega)
                           have q106 : 0 < (l0.length : Int) := of_decide_eq_true (by first | (with_reducible assumption) | assumption)
                           obtain ⟨ad106, A106_0, c106_0, e106, hx106_0, hl106_0, hi106_0⟩ := at_L1 HR0.out 0 p106 q106
                           have hw106_0 := hx106_0
                           (try rw [show ((0 : Int)).toNat = 0 from rfl] at hw106_0)
                           (try rw [show 0 * 1 = 0 from rfl] at hw106_0)
                           (try rw [Addr.add_zero'] at hw106_0)
                           cases e106
                           have qi106 : (0 < l0.length) = True := eq_true (by omega)
                           (try rw [show ((0 : Int)).toNat = 0 from rfl] at hx106_0)
                           (try rw [Addr.add_zero'] at hx106_0)
                           replace hx106_0 := (HB.out.cell (World.block_lt_of_cell? w _ hx106_0)).trans hx106_0
                           have HR106_0 := Aside0.mk hi106_0
                           have HC106_0 := Aside0.mk hl106_0
                           clear hi106_0 hl106_0
                           replace p106 := eq_true p106
                           replace q106 := eq_true q106
                           have p107 : 0 ≤ (0 : Int) := (by omega)
                           have q107 : 0 < (l1.length : Int) := of_decide_eq_true (by first | (with_reducible assumption) | assumption)
                           obtain ⟨ad107, A107_0, c107_0, e107, hx107_0, hl107_0, hi107_0⟩ := at_L1 HR1.out 0 p107 q107
                           have hw107_0 := hx107_0
                           (try rw [show ((0 : Int)).toNat = 0 from rfl] at hw107_0)
                           (try rw [show 0 * 1 = 0 from rfl] at hw107_0)
                           (try rw [Addr.add_zero'] at hw107_0)
                           cases e107
                           have qi107 : (0 < l1.length) = True := eq_true (by omega)
                           (try rw [show ((0 : Int)).toNat = 0 from rfl] at hx107_0)
                           (try rw [Addr.add_zero'] at hx107_0)
                           replace hx107_0 := (HB.out.cell (World.block_lt_of_cell? w _ hx107_0)).trans hx107_0
                           have HR107_0 := Aside0.mk hi107_0
                           have HC107_0 := Aside0.mk hl107_0
                           clear hi107_0 hl107_0
                           replace p107 := eq_true p107
                           replace q107 := eq_true q107
                           as_aux_lemma =>
                            go_quiet (fail)
                            try go_wp2
                            go_meet
                            case rel => exact ⟨_, (true), (by first | rfl | (simp; done) | (simp [*]; done)), H', ⟨by have := HJ6.out; first | omega | exact Nat.le_refl _⟩, ⟨by repeat (first | (with_reducible first | exact HB.out | apply below_alloc | apply pw_below_drewN | apply below_drew1) | exact HB.out)⟩⟩
                         · rw [if_neg c21] at H
                           have c21b0 : decide (12 < (l0.length : Int)) = false := decide_eq_false c21
                           have c21b1 : decide (12 < l0.length) = false := decide_eq_false (by omega)
                           clear c21
                           by_cases c23 : a2 < 0
                           · rw [if_pos c23] at H
                             have c23b0 : decide (a2 < 0) = true := decide_eq_true c23
                             clear c23
                             have H' := Aside0.mk H
                             clear H
                             try go_wp2
                             have p106 : 0 ≤ (0 : Int) := (by omega)
                             have q106 : 0 < (l0.length : Int) := of_decide_eq_true (by first | (with_reducible assumption) | assumption)
                             obtain ⟨ad106, A106_0, c106_0, e106, hx106_0, hl106_0, hi106_0⟩ := at_L1 HR0.out 0 p106 q106
                             have hw106_0 := hx106_0
                             (try rw [show ((0 : Int)).toNat = 0 from rfl] at hw106_0)
                             (try rw [show 0 * 1 = 0 from rfl] at hw106_0)
                             (try rw [Addr.add_zero'] at hw106_0)
                             cases e106
                             have qi106 : (0 < l0.length) = True := eq_true (by omega)
                             (try rw [show ((0 : Int)).toNat = 0 from rfl] at hx106_0)
                             (try rw [Addr.add_zero'] at hx106_0)
                             replace hx106_0 := (HB.out.cell (World.block_lt_of_cell? w _ hx106_0)).trans hx106_0
                             have HR106_0 := Aside0.mk hi106_0
                             have HC106_0 := Aside0.mk hl106_0
                             clear hi106_0 hl106_0
                             replace p106 := eq_true p106
                             replace q106 := eq_true q106
                             have p107 : 0 ≤ (0 : Int) := (by omega)
                             have q107 : 0 < (l1.length : Int) := of_decide_eq_true (by first | (with_reducible assumption) | assumption)
                             obtain ⟨ad107, A107_0, c107_0, e107, hx107_0, hl107_0, hi107_0⟩ := at_L1 HR1.out 0 p107 q107
                             have hw107_0 := hx107_0
                             (try rw [show ((0 : Int)).toNat = 0 from rfl] at hw107_0)
                             (try rw [show 0 * 1 = 0 from rfl] at hw107_0)
                             (try rw [Addr.add_zero'] at hw107_0)
                             cases e107
                             have qi107 : (0 < l1.length) = True := eq_true (by omega)
                             (try rw [show ((0 : Int)).toNat = 0 from rfl] at hx107_0)
                             (try rw [Addr.add_zero'] at hx107_0)
                             replace hx107_0 := (HB.out.cell (World.block_lt_of_cell? w _ hx107_0)).trans hx107_0
                             have HR107_0 := Aside0.mk hi107_0
                             have HC107_0 := Aside0.mk hl107_0
                             clear hi107_0 hl107_0
                             replace p107 := eq_true p107
                             replace q107 := eq_true q107
                             as_aux_lemma =>
                              go_quiet (fail)
                              try go_wp2
                              go_meet
                              case rel => exact ⟨_, (true), (by first | rfl | (simp; done) | (simp [*]; done)), H', ⟨by have := HJ6.out; first | omega | exact Nat.le_refl _⟩, ⟨by repeat (first | (with_reducible first | exact HB.out | apply below_alloc | apply pw_below_drewN | apply below_drew1) | exact HB.out)⟩⟩
                           · rw [if_neg c23] at H
                             have c23b0 : decide (a2 < 0) = false := decide_eq_false c23
                             clear c23
                             have H' := Aside0.mk H
                             clear H
                             try go_wp2
                             have p106 : 0 ≤ (0 : Int) := (by omega)
                             have q106 : 0 < (l0.length : Int) := of_decide_eq_true (by first | (with_reducible assumption) | assumption)
                             obtain ⟨ad106, A106_0, c106_0, e106, hx106_0, hl106_0, hi106_0⟩ := at_L1 HR0.out 0 p106 q106
                             have hw106_0 := hx106_0
                             (try rw [show ((0 : Int)).toNat = 0 from rfl] at hw106_0)
                             (try rw [show 0 * 1 = 0 from rfl] at hw106_0)
                             (try rw [Addr.add_zero'] at hw106_0)
                             cases e106
                             have qi106 : (0 < l0.length) = True := eq_true (by omega)
                             (try rw [show ((0 : Int)).toNat = 0 from rfl] at hx106_0)
                             (try rw [Addr.add_zero'] at hx106_0)
                             replace hx106_0 := (HB.out.cell (World.block_lt_of_cell? w _ hx106_0)).trans hx106_0
                             have HR106_0 := Aside0.mk hi106_0
                             have HC106_0 := Aside0.mk hl106_0
                             clear hi106_0 hl106_0
                             replace p106 := eq_true p106
                             replace q106 := eq_true q106
                             have p107 : 0 ≤ (0 : Int) := (by omega)
                             have q107 : 0 < (l1.length : Int) := of_decide_eq_true (by first | (with_reducible assumption) | assumption)
                             obtain ⟨ad107, A107_0, c107_0, e107, hx107_0, hl107_0, hi107_0⟩ := at_L1 HR1.out 0 p107 q107
                             have hw107_0 := hx107_0
                             (try rw [show ((0 : Int)).toNat = 0 from rfl] at hw107_0)
                             (try rw [show 0 * 1 = 0 from rfl] at hw107_0)
                             (try rw [Addr.add_zero'] at hw107_0)
                             cases e107
                             have qi107 : (0 < l1.length) = True := eq_true (by omega)
                             (try rw [show ((0 : Int)).toNat = 0 from rfl] at hx107_0)
                             (try rw [Addr.add_zero'] at hx107_0)
                             replace hx107_0 := (HB.out.cell (World.block_lt_of_cell? w _ hx107_0)).trans hx107_0
                             have HR107_0 := Aside0.mk hi107_0
                             have HC107_0 := Aside0.mk hl107_0
                             clear hi107_0 hl107_0
                             replace p107 := eq_true p107
                             replace q107 := eq_true q107
                             as_aux_lemma =>
                              go_quiet (fail)
                              try go_wp2
                              go_meet
                              case rel => exact ⟨_, (decide (a2 > 8)), (by first | rfl | (simp; done) | (simp [*]; done)), H', ⟨by have := HJ6.out; first | omega | exact Nat.le_refl _⟩, ⟨by repeat (first | (with_reducible first | exact HB.out | apply below_alloc | apply pw_below_drewN | apply below_drew1) | exact HB.out)⟩⟩
                       · rw [if_neg c20] at H
                         have c20b0 : (((rd_L1 l0 0).length : Int) == ((rd_L1 l1 0).length : Int)) = false := beq_eq_false_iff_ne.mpr c20
                         have c20b1 : (((rd_L1 l0 0).length : Int) != ((rd_L1 l1 0).length : Int)) = true := bne_iff_ne.mpr c20
                         have c20b2 : ((rd_L1 l0 0).length == (rd_L1 l1 0).length) = false := by first | simpa using c20 | (simp at c20 ⊢; omega)
                         have H' := Aside0.mk H
                         clear H
                         try go_wp2
                         have p106 : 0 ≤ (0 : Int) := (by omega)
                         have q106 : 0 < (l0.length : Int) := of_decide_eq_true (by first | (with_reducible assumption) | assumption)
                         obtain ⟨ad106, A106_0, c106_0, e106, hx106_0, hl106_0, hi106_0⟩ := at_L1 HR0.out 0 p106 q106
                         have hw106_0 := hx106_0
                         (try rw [show ((0 : Int)).toNat = 0 from rfl] at hw106_0)
                         (try rw [show 0 * 1 = 0 from rfl] at hw106_0)
                         (try rw [Addr.add_zero'] at hw106_0)
                         cases e106
                         have qi106 : (0 < l0.length) = True := eq_true (by omega)
                         (try rw [show ((0 : Int)).toNat = 0 from rfl] at hx106_0)
                         (try rw [Addr.add_zero'] at hx106_0)
                         replace hx106_0 := (HB.out.cell (World.block_lt_of_cell? w _ hx106_0)).trans hx106_0
                         have HR106_0 := Aside0.mk hi106_0
                         have HC106_0 := Aside0.mk hl106_0
                         clear hi106_0 hl106_0
                         replace p106 := eq_true p106
                         replace q106 := eq_true q106
                         have p107 : 0 ≤ (0 : Int) := (by omega)
                         have q107 : 0 < (l1.length : Int) := of_decide_eq_true (by first | (with_reducible assumption) | assumption)
                         obtain ⟨ad107, A107_0, c107_0, e107, hx107_0, hl107_0, hi107_0⟩ := at_L1 HR1.out 0 p107 q107
                         have hw107_0 := hx107_0
                         (try rw [show ((0 : Int)).toNat = 0 from rfl] at hw107_0)
                         (try rw [show 0 * 1 = 0 from rfl] at hw107_0)
                         (try rw [Addr.add_zero'] at hw107_0)
                         cases e107
                         have qi107 : (0 < l1.length) = True := eq_true (by omega)
                         (try rw [show ((0 : Int)).toNat = 0 from rfl] at hx107_0)
                         (try rw [Addr.add_zero'] at hx107_0)
                         replace hx107_0 := (HB.out.cell (World.block_lt_of_cell? w _ hx107_0)).trans hx107_0
                         have HR107_0 := Aside0.mk hi107_0
                         have HC107_0 := Aside0.mk hl107_0
                         clear hi107_0 hl107_0
                         replace p107 := eq_true p107
                         replace q107 := eq_true q107
                         as_aux_lemma =>
                          go_quiet (fail)
                          try go_wp2
                          go_meet
                          case rel => exact ⟨_, (true), (by first | rfl | (simp; done) | (simp [*]; done)), H', ⟨by have := HJ6.out; first | omega | exact Nat.le_refl _⟩, ⟨by repeat (first | (with_reducible first | exact HB.out | apply below_alloc | apply pw_below_drewN | apply below_drew1) | exact HB.out)⟩⟩
                     · rw [if_neg c19] at H
                       exact absurd H (by simp)
                   · rw [if_neg c18] at H
                     exact absurd H (by simp)
                 · rw [if_neg c17] at H
                   have c17b0 : ((l0.length : Int) == (l1.length : Int)) = false := beq_eq_false_iff_ne.mpr c17
                   have c17b1 : ((l0.length : Int) != (l1.length : Int)) = true := bne_iff_ne.mpr c17
                   have c17b2 : (l0.length == l1.length) = false := by first | simpa using c17 | (simp at c17 ⊢; omega)
                   (first | rw [c17b0] | (simp only [i64_w, i32_w]; rw [c17b0]) | skip)
                   have H' := Aside0.mk H
                   clear H
                   try go_wp2
                   as_aux_lemma =>
                    go_quiet (fail)
                    try go_wp2
                    go_meet
                    case rel => exact ⟨_, (true), (by first | rfl | (simp; done) | (simp [*]; done)), H', ⟨by have := HJ6.out; first | omega | exact Nat.le_refl _⟩, ⟨by repeat (first | (with_reducible first | exact HB.out | apply below_alloc | apply pw_below_drewN | apply below_drew1) | exact HB.out)⟩⟩
               · replace c16 := Bool.eq_false_iff.mpr c16
                 subst c16
                 have H1 : (quartermasterlaw03_RsSums.j1 kj6 l0 l1 a2 true true) = some r := by rw [if_neg (show ¬ (false = true) by decide)] at H; exact H
                 clear H
                 have H := H1
                 clear H1
                 have H' := Aside0.mk H
                 clear H
                 try go_wp2
                 as_aux_lemma =>
                  go_quiet (fail)
                  try go_wp2
                  go_meet
                  case rel => exact ⟨_, (true), (by first | rfl | (simp; done) | (simp [*]; done)), H', ⟨by have := HJ6.out; first | omega | exact Nat.le_refl _⟩, ⟨by repeat (first | (with_reducible first | exact HB.out | apply below_alloc | apply pw_below_drewN | apply below_drew1) | exact HB.out)⟩⟩
             · replace c15 := Bool.eq_false_iff.mpr c15
               subst c15
               have H1 : (quartermasterlaw03_RsSums.j1 kj6 l0 l1 a2 true true) = some r := by rw [if_neg (show ¬ (false = true) by decide)] at H; exact H
               clear H
               have H := H1
               clear H1
               have H' := Aside0.mk H
               clear H
               try go_wp2
               as_aux_lemma =>
                go_quiet (fail)
                try go_wp2
                go_meet
                case rel => exact ⟨_, (true), (by first | rfl | (simp; done) | (simp [*]; done)), H', ⟨by have := HJ6.out; first | omega | exact Nat.le_refl _⟩, ⟨by repeat (first | (with_reducible first | exact HB.out | apply below_alloc | apply pw_below_drewN | apply below_drew1) | exact HB.out)⟩⟩
           · replace c14 := Bool.eq_false_iff.mpr c14
             subst c14
             have H1 : (quartermasterlaw03_RsSums.j1 kj6 l0 l1 a2 true true) = some r := by rw [if_neg (show ¬ (false = true) by decide)] at H; exact H
             clear H
             have H := H1
             clear H1
             have H' := Aside0.mk H
             clear H
             try go_wp2
             as_aux_lemma =>
              go_quiet (fail)
              try go_wp2
              go_meet
              case rel => exact ⟨_, (true), (by first | rfl | (simp; done) | (simp [*]; done)), H', ⟨by have := HJ6.out; first | omega | exact Nat.le_refl _⟩, ⟨by repeat (first | (with_reducible first | exact HB.out | apply below_alloc | apply pw_below_drewN | apply below_drew1) | exact HB.out)⟩⟩
         · replace c13 := Bool.eq_false_iff.mpr c13
           subst c13
           have H1 : (none) = some r := by rw [if_neg (show ¬ (false = true) by decide)] at H; exact H
           exact absurd H1 (by simp)
       case rest =>
         as_aux_lemma =>
          clear HC12
          try clear c1
          try clear p2
          try clear c13
          try clear c14
          obtain ⟨kq, x78_11, rfl, HA, HJ11, HB⟩ := hcut
          cases kq with
          | zero => exact absurd HA.out (by simp [quartermasterlaw03_RsSums.j1])
          | succ kj11 =>
            have H := HA.out
            clear HA
            simp only [quartermasterlaw03_RsSums.j1] at H
            by_cases c32 : x78_11 = true
            · subst c32
              have H1 : (some t101) = some r := by rw [if_pos rfl] at H; exact H
              clear H
              have H := H1
              clear H1
              obtain rfl := Option.some.inj H
              go_wp2
              go_ret
              exact ⟨by first | rfl | (simp [errW_none, errW_some] <;> rfl) | (simp [*, errW_none, errW_some] <;> rfl), by repeat (first | (with_reducible first | exact HB.out | apply below_alloc | apply pw_below_drewN | apply below_drew1) | exact HB.out)⟩
            · replace c32 := Bool.eq_false_iff.mpr c32
              subst c32
              have H1 : (quartermasterlaw03_RsSums.l0 kj11 l0 l1 a2 ([] : List (List Int)) 0) = some r := by rw [if_neg (show ¬ (false = true) by decide)] at H; exact H
              clear H
              have H := H1
              clear H1
              have H' := Aside0.mk H
              clear H
              go_wp2
              go_loopg [11, 12] kj11 (fun kq v11 v12 w' => ∃ (x11_3 : List (List Int)) (x12_3 : Int), v12 = .int .i64 x12_3 ∧ Aside0 (quartermasterlaw03_RsSums.l0 kq l0 l1 a2 x11_3 x12_3 = some r) ∧ Aside0 (kq ≤ kj11) ∧ Aside0 (Kd.S (Kd.slice 5 (Kd.int .u8)) 43 w' w.heap.size (fun _ => True) v11 x11_3) ∧ Aside0 (Below w.heap.size w w'))
              case atStart => exact ⟨(([] : List (List Int))), (0), (by first | rfl | (simp; done) | (simp [*]; done)), H', ⟨Nat.le_refl _⟩, ⟨by first | exact Kd.S_nil _ _ _ _ _ | exact Kd.N_nil _ _ _ _ _ | exact Kd.V_nil _ _ _ _ _ | exact Kd.Q_nil _ _ _ _ _ | exact Kd.R_nil _ _ _ _ _⟩, ⟨by repeat (first | (with_reducible first | exact HB.out | apply below_alloc | apply pw_below_drewN | apply below_drew1) | exact HB.out)⟩⟩
              case round =>
                as_aux_lemma =>
                 clear H'
                 try clear c1
                 try clear p2
                 try clear c3
                 try clear c13
                 try clear c14
                 try clear c32
                 try clear p2
                 obtain ⟨x11_3, x12_3, rfl, HA, HK3, HO_11, HB⟩ := hrel
                 cases gk with
                 | zero => exact absurd HA.out (by simp [quartermasterlaw03_RsSums.l0])
                 | succ k3 =>
                   have H := HA.out
                   clear HA
                   simp only [quartermasterlaw03_RsSums.l0] at H
                   by_cases c33 : x12_3 < (l0.length : Int)
                   · rw [if_pos c33] at H
                     have c33b0 : decide (x12_3 < (l0.length : Int)) = true := decide_eq_true c33
                     clear c33
                     by_cases c34 : 0 ≤ x12_3
                     · rw [if_pos c34] at H
                       have c34b0 : decide (0 ≤ x12_3) = true := decide_eq_true c34
                       clear c34
                       by_cases c35 : 0 ≤ ((rd_L1 l0 x12_3).length : Int)
                       · rw [if_pos c35] at H
                         have c35b0 := eq_true c35
                         have c35b1 : decide (0 ≤ ((rd_L1 l0 x12_3).length : Int)) = true := decide_eq_true c35
                         clear c35
                         by_cases c36 : (((rd_L1 l0 x12_3).length : Int) : Int).toNat ≤ 281474976710656
                         · rw [if_pos c36] at H
                           have c36b0 := eq_true c36
                           have c36b1 : decide ((((rd_L1 l0 x12_3).length : Int) : Int).toNat ≤ 281474976710656) = true := decide_eq_true c36
                           clear c36
                           obtain ⟨y109, hy109⟩ : ∃ y_ : List Int, y_ = (List.replicate (((rd_L1 l0 x12_3).length : Int) : Int).toNat 0) := ⟨_, rfl⟩
                           replace H : (quartermasterlaw03_RsSums.l1 k3 l0 l1 a2 x11_3 x12_3 y109 0) = some r := by first | (rw [hy109]; with_reducible exact H) | (have H2_ := (Option.bind_some _ _).symm.trans H; rw [hy109]; with_reducible exact H2_) | (have H2_ := (Option.bind_some _ _).symm.trans H; with_reducible exact H2_) | with_reducible exact H | (rw [hy109]; exact H) | exact H
                           have Ny109 := Aside0.mk hy109
                           clear hy109
                           have H' := Aside0.mk H
                           clear H
                           have p108 : 0 ≤ (x12_3 : Int) := of_decide_eq_true (by first | (with_reducible assumption) | assumption)
                           have q108 : x12_3 < (l0.length : Int) := of_decide_eq_true (by first | (with_reducible assumption) | assumption)
                           obtain ⟨ad108, A108_0, c108_0, e108, hx108_0, hl108_0, hi108_0⟩ := at_L1 HR0.out x12_3 p108 q108
                           cases e108
                           replace hx108_0 := (HB.out.cell (World.block_lt_of_cell? w _ hx108_0)).trans hx108_0
                           have HR108_0 := Aside0.mk hi108_0
                           have HC108_0 := Aside0.mk hl108_0
                           clear hi108_0 hl108_0
                           replace p108 := eq_true p108
                           replace q108 := eq_true q108
                           go_wp2_with (first | ((with_reducible refine gate_dst (N := 91) rfl ?_); (try (refine gate_guard (by rfl) ?_; dsimp only)); refine Kd.R_make (Kd.int .u8) _ 5 rfl (N := 91) rfl 43 _ _ rfl ((rd_L1 l0 x12_3).length : Int) rfl rfl Try.underlying43 (.int .u8 0) 1 info5 rfl (by decide) (by omega) 0 (ok := fun _ => True) (okp := fun _ => True) rfl (fun _ hk => hk) trivial (of_decide_eq_true (by first | (with_reducible assumption) | assumption)) (Nat.le_trans (Nat.mul_le_mul_right _ (of_decide_eq_true (by first | (with_reducible assumption) | assumption) : ((rd_L1 l0 x12_3).length : Int).toNat ≤ 281474976710656)) (by omega)) (Below.refl _ _) (Nat.le_refl _) ?_; intro v110 w37 ho38 hb hg_ hnew_; clear hg_ hnew_; (first | rw [← Ny109.out] at ho38 | (simp only [Int.reduceToNat] at ho38; rw [← Ny109.out] at ho38)); have n0_ := Aside0.mk (Kd.S_elder' (by (with_reducible repeat (first | apply Kd.S_alloc | apply Kd.S_drewN | apply Kd.S_drew)); exact HO_11.out) (Kd.R_base ho38) hb); have n1_ := Aside0.mk (Kd.R_lower ho38 (below_size (by repeat (first | (with_reducible first | exact HB.out | apply below_alloc | apply pw_below_drewN | apply below_drew1) | exact HB.out)))); have n2_ := Aside0.mk (below_step (by repeat (first | (with_reducible first | exact HB.out | apply below_alloc | apply pw_below_drewN | apply below_drew1) | exact HB.out)) hb); clear HO_11; clear HB; have HO_11 := n0_; have HO111 := n1_; have HB := n2_; clear n0_ n1_ n2_; clear hb ho38))
                           go_loopg [14] k3 (fun kq v14 w' => ∃ (x13_4 : List Int) (x14_4 : Int), v14 = .int .i64 x14_4 ∧ Aside0 (quartermasterlaw03_RsSums.l1 kq l0 l1 a2 x11_3 x12_3 x13_4 x14_4 = some r) ∧ Aside0 (kq ≤ k3) ∧ Aside0 (Kd.S (Kd.slice 5 (Kd.int .u8)) 43 w' w.heap.size (fun k_ => some k_ ≠ (v110 : Value).ownBlock) u11 x11_3) ∧ Aside0 (Kd.R (Kd.int .u8) 5 w' w.heap.size (fun _ => True) v110 x13_4) ∧ Aside0 (Below w.heap.size w w'))
                           case atStart => exact ⟨(y109), (0), (by first | rfl | (simp; done) | (simp [*]; done)), H', ⟨Nat.le_refl _⟩, ⟨by (with_reducible repeat (first | apply Kd.S_alloc | apply Kd.S_drewN | apply Kd.S_drew)); exact Kd.S_mono HO_11.out (fun _ hk => hk.2)⟩, ⟨by (with_reducible repeat (first | apply Kd.R_alloc | apply Kd.R_drewN | apply Kd.R_drew)); exact HO111.out⟩, ⟨by repeat (first | (with_reducible first | exact HB.out | apply below_alloc | apply pw_below_drewN | apply below_drew1) | exact HB.out)⟩⟩
                           case round =>
                             as_aux_lemma =>
                              clear H'
                              try clear c1
                              try clear p1
                              try clear q1
                              try clear hx1
                              try clear p2
                              try clear c3
                              try clear c10
                              try clear p10
                              try clear q10
                              try clear hx10
                              try clear c13
                              try clear c14
                              try clear c32
                              try clear c33
                              try clear c33b0
                              try clear c34
                              try clear c34b0
                              try clear c35
                              try clear c35b0
                              try clear c35b1
                              try clear c36
                              try clear c36b0
                              try clear c36b1
                              try clear hx108_0
                              try clear p108
                              try clear p2
                              try clear q108
                              obtain ⟨x13_4, x14_4, rfl, HA, HK4, HO_11, HO_13, HB⟩ := hrel
                              cases gk with
                              | zero => exact absurd HA.out (by simp [quartermasterlaw03_RsSums.l1])
                              | succ k4 =>
                                have H := HA.out
                                clear HA
                                simp only [quartermasterlaw03_RsSums.l1] at H
                                by_cases c39 : x14_4 < (x13_4.length : Int)
                                · rw [if_pos c39] at H
                                  have c39b0 : decide (x14_4 < (x13_4.length : Int)) = true := decide_eq_true c39
                                  clear c39
                                  by_cases c40 : 0 ≤ x12_3
                                  · rw [if_pos c40] at H
                                    have c40b0 : decide (0 ≤ x12_3) = true := decide_eq_true c40
                                    clear c40
                                    by_cases c41 : x12_3 < (l0.length : Int)
                                    · rw [if_pos c41] at H
                                      have c41b0 : decide (x12_3 < (l0.length : Int)) = true := decide_eq_true c41
                                      clear c41
                                      by_cases c42 : 0 ≤ x14_4
                                      · rw [if_pos c42] at H
                                        have c42b0 : decide (0 ≤ x14_4) = true := decide_eq_true c42
                                        clear c42
                                        by_cases c43 : x14_4 < ((rd_L1 l0 x12_3).length : Int)
                                        · rw [if_pos c43] at H
                                          have c43b0 : decide (x14_4 < ((rd_L1 l0 x12_3).length : Int)) = true := decide_eq_true c43
                                          clear c43
                                          by_cases c44 : x12_3 < (l1.length : Int)
                                          · rw [if_pos c44] at H
                                            have c44b0 : decide (x12_3 < (l1.length : Int)) = true := decide_eq_true c44
                                            clear c44
                                            by_cases c45 : x14_4 < ((rd_L1 l1 x12_3).length : Int)
                                            · rw [if_pos c45] at H
                                              have c45b0 : decide (x14_4 < ((rd_L1 l1 x12_3).length : Int)) = true := decide_eq_true c45
                                              clear c45
                                              replace H := Option.bind_eq_some_iff.mp H
                                              obtain ⟨t116, A460, H⟩ := H
                                              replace H : (quartermasterlaw03_RsSums.l1 k4 l0 l1 a2 x11_3 x12_3 (x13_4.set (x14_4 : Int).toNat t116) (wrap64 (x14_4 + 1))) = some r := H
                                              have A46 := Aside0.mk A460
                                              clear A460
                                              obtain ⟨y117, hy117⟩ : ∃ y_ : List Int, y_ = (x13_4.set (x14_4 : Int).toNat t116) := ⟨_, rfl⟩
                                              replace H : (quartermasterlaw03_RsSums.l1 k4 l0 l1 a2 x11_3 x12_3 y117 (wrap64 (x14_4 + 1))) = some r := by first | (rw [hy117]; with_reducible exact H) | (have H2_ := (Option.bind_some _ _).symm.trans H; rw [hy117]; with_reducible exact H2_) | (have H2_ := (Option.bind_some _ _).symm.trans H; with_reducible exact H2_) | with_reducible exact H | (rw [hy117]; exact H) | exact H
                                              have Ny117 := Aside0.mk hy117
                                              clear hy117
                                              have H' := Aside0.mk H
                                              clear H
                                              obtain ⟨Ao48, co48, eo48⟩ := Kd.R_slice HO_13.out
                                              subst eo48
                                              try go_wp2
                                              have n0_ := Aside0.mk (Kd.S_drew HO_11.out)
                                              have n1_ := Aside0.mk (Kd.R_drew HO_13.out)
                                              have n2_ := Aside0.mk (below_drew1 HB.out)
                                              clear HO_11
                                              clear HO_13
                                              clear HB
                                              have HO_11 := n0_
                                              have HO_13 := n1_
                                              have HB := n2_
                                              clear n0_ n1_ n2_
                                              have p112 : 0 ≤ (x12_3 : Int) := of_decide_eq_true (by first | (with_reducible assumption) | assumption)
                                              have q112 : x12_3 < (l0.length : Int) := of_decide_eq_true (by first | (with_reducible assumption) | assumption)
                                              obtain ⟨ad112, A112_0, c112_0, e112, hx112_0, hl112_0, hi112_0⟩ := at_L1 HR0.out x12_3 p112 q112
                                              have hw112_0 := hx112_0
                                              obtain rfl : ad108 = ad112 := (by injection e112)
                                              replace hx112_0 := (HB.out.cell (World.block_lt_of_cell? w _ hx112_0)).trans hx112_0
                                              have HR112_0 := Aside0.mk hi112_0
                                              have HC112_0 := Aside0.mk hl112_0
                                              clear hi112_0 hl112_0
                                              replace p112 := eq_true p112
                                              replace q112 := eq_true q112
                                              have p113 : 0 ≤ (x14_4 : Int) := of_decide_eq_true (by first | (with_reducible assumption) | assumption)
                                              have q113 : x14_4 < ((rd_L1 l0 x12_3).length : Int) := of_decide_eq_true (by first | (with_reducible assumption) | assumption)
                                              obtain ⟨ad113, e113, hx113_0⟩ := Kd.at_int HR112_0.out x14_4 p113 q113
                                              have hw113_0 := hx113_0
                                              cases e113
                                              replace hx113_0 := (HB.out.cell (World.block_lt_of_cell? w _ hx113_0)).trans hx113_0
                                              replace p113 := eq_true p113
                                              replace q113 := eq_true q113
                                              have p114 : 0 ≤ (x12_3 : Int) := of_decide_eq_true (by first | (with_reducible assumption) | assumption)
                                              have q114 : x12_3 < (l1.length : Int) := of_decide_eq_true (by first | (with_reducible assumption) | assumption)
                                              obtain ⟨ad114, A114_0, c114_0, e114, hx114_0, hl114_0, hi114_0⟩ := at_L1 HR1.out x12_3 p114 q114
                                              have hw114_0 := hx114_0
                                              cases e114
                                              replace hx114_0 := (HB.out.cell (World.block_lt_of_cell? w _ hx114_0)).trans hx114_0
                                              have HR114_0 := Aside0.mk hi114_0
                                              have HC114_0 := Aside0.mk hl114_0
                                              clear hi114_0 hl114_0
                                              replace p114 := eq_true p114
                                              replace q114 := eq_true q114
                                              have p115 : 0 ≤ (x14_4 : Int) := of_decide_eq_true (by first | (with_reducible assumption) | assumption)
                                              have q115 : x14_4 < ((rd_L1 l1 x12_3).length : Int) := of_decide_eq_true (by first | (with_reducible assumption) | assumption)
                                              obtain ⟨ad115, e115, hx115_0⟩ := Kd.at_int HR114_0.out x14_4 p115 q115
                                              have hw115_0 := hx115_0
                                              cases e115
                                              replace hx115_0 := (HB.out.cell (World.block_lt_of_cell? w _ hx115_0)).trans hx115_0
                                              replace p115 := eq_true p115
                                              replace q115 := eq_true q115
                                              refine start_ (n := 19) (S := fun w' => w'.cell? (ad108.add (x12_3).toNat) = some (.slice (some ad113) (rd_L1 l0 x12_3).length c112_0) ∧ w'.cell? (ad113.add (x14_4).toNat) = some (.int .u8 (rd (rd_L1 l0 x12_3) x14_4)) ∧ w'.cell? (ad114.add (x12_3).toNat) = some (.slice (some ad115) (rd_L1 l1 x12_3).length c114_0) ∧ w'.cell? (ad115.add (x14_4).toNat) = some (.int .u8 (rd (rd_L1 l1 x12_3) x14_4))) (ds := [18]) #[false, false, false, false, false, false, false, false, false, false, false, false, false, false, false, false, false, false, false] (by kernel_rfl) rfl rfl ⟨((HB.out.cell (World.block_lt_of_cell? w _ hw112_0)).trans hw112_0), ((HB.out.cell (World.block_lt_of_cell? w _ hw113_0)).trans hw113_0), ((HB.out.cell (World.block_lt_of_cell? w _ hw114_0)).trans hw114_0), ((HB.out.cell (World.block_lt_of_cell? w _ hw115_0)).trans hw115_0)⟩ (fun hHeld => ?_); refine with_tabW quartermasterlaw03_RsSums.tab15 quartermasterlaw03_RsSums.bits15 (fun HT_ HW_ => ?_)
                                              generalize wr.drew = w49 at HO_11 HO_13 HB HR112_0 HR114_0 hx112_0 hx113_0 hx114_0 hx115_0 hHeld ⊢
                                              refine pure_ (i := 0) (N := some 98) (v := ?_) (a' := ?_) #[true, false, false, false, false, false, false, false, false, false, false, false, false, false, false, false, false, false, false] rfl rfl (any_of HT_.out (by kernel_rfl)) (fun _ _ _ h => h) (Or.inl ⟨by rfl, ?_⟩) ?_ ?_
                                              rotate_left
                                              · intro w'
                                                go_simp
                                                with_reducible rfl
                                              rotate_left
                                              · simp only [Act.put, List.setIfInBounds_toArray, List.set_cons_zero, List.set_cons_succ, i64_w, i32_w]
                                                rfl
                                              refine pure_ (i := 1) (N := some 99) (v := ?_) (a' := ?_) #[true, true, false, false, false, false, false, false, false, false, false, false, false, false, false, false, false, false, false] rfl rfl (any_of HT_.out (by kernel_rfl)) (fun _ _ _ h => h) (Or.inl ⟨by rfl, ?_⟩) ?_ ?_
                                              rotate_left
                                              · intro w'
                                                go_simp
                                                with_reducible rfl
                                              rotate_left
                                              · simp only [Act.put, List.setIfInBounds_toArray, List.set_cons_zero, List.set_cons_succ, i64_w, i32_w]
                                                rfl
                                              refine pure_ (i := 2) (N := some 100) (v := ?_) (a' := ?_) #[true, true, true, false, false, false, false, false, false, false, false, false, false, false, false, false, false, false, false] rfl rfl (any_of HT_.out (by kernel_rfl)) (fun _ _ _ h => h) (Or.inl ⟨by rfl, ?_⟩) ?_ ?_
                                              rotate_left
                                              · intro w'
                                                go_simp
                                                with_reducible rfl
                                              rotate_left
                                              · simp only [Act.put, List.setIfInBounds_toArray, List.set_cons_zero, List.set_cons_succ, i64_w, i32_w]
                                                rfl
                                              refine pure_ (i := 3) (N := some 101) (v := ?_) (a' := ?_) #[true, true, true, true, false, false, false, false, false, false, false, false, false, false, false, false, false, false, false] rfl rfl (any_of HT_.out (by kernel_rfl)) (fun _ _ _ h => h) (Or.inl ⟨by rfl, ?_⟩) ?_ ?_
                                              rotate_left
                                              · intro w'
                                                go_simp
                                                with_reducible rfl
                                              rotate_left
                                              · simp only [Act.put, List.setIfInBounds_toArray, List.set_cons_zero, List.set_cons_succ, i64_w, i32_w]
                                                rfl
                                              refine pure_ (i := 4) (N := some 102) (v := ?_) (a' := ?_) #[true, true, true, true, true, false, false, false, false, false, false, false, false, false, false, false, false, false, false] rfl rfl (any_of HT_.out (by kernel_rfl)) (fun _ _ _ h => h) (Or.inl ⟨by rfl, ?_⟩) ?_ ?_
                                              rotate_left
                                              · intro w'
                                                go_simp
                                                with_reducible rfl
                                              rotate_left
                                              · simp only [Act.put, List.setIfInBounds_toArray, List.set_cons_zero, List.set_cons_succ, i64_w, i32_w]
                                                rfl
                                              refine pure_ (i := 6) (N := some 104) (v := ?_) (a' := ?_) #[true, true, true, true, true, false, true, false, false, false, false, false, false, false, false, false, false, false, false] rfl rfl (any_of HT_.out (by kernel_rfl)) (fun _ _ _ h => h) (Or.inl ⟨by rfl, ?_⟩) ?_ ?_
                                              rotate_left
                                              · intro w'
                                                go_simp
                                                with_reducible rfl
                                              rotate_left
                                              · simp only [Act.put, List.setIfInBounds_toArray, List.set_cons_zero, List.set_cons_succ, i64_w, i32_w]
                                                rfl
                                              refine pure_ (i := 9) (N := some 107) (v := ?_) (a' := ?_) #[true, true, true, true, true, false, true, false, false, true, false, false, false, false, false, false, false, false, false] rfl rfl (any_of HT_.out (by kernel_rfl)) (fun _ _ _ h => h) (Or.inl ⟨by rfl, ?_⟩) ?_ ?_
                                              rotate_left
                                              · intro w'
                                                go_simp
                                                with_reducible rfl
                                              rotate_left
                                              · simp only [Act.put, List.setIfInBounds_toArray, List.set_cons_zero, List.set_cons_succ, i64_w, i32_w]
                                                rfl
                                              refine pure_ (i := 10) (N := some 108) (v := ?_) (a' := ?_) #[true, true, true, true, true, false, true, false, false, true, true, false, false, false, false, false, false, false, false] rfl rfl (any_of HT_.out (by kernel_rfl)) (fun _ _ _ h => h) (Or.inl ⟨by rfl, ?_⟩) ?_ ?_
                                              rotate_left
                                              · intro w'
                                                go_simp
                                                with_reducible rfl
                                              rotate_left
                                              · simp only [Act.put, List.setIfInBounds_toArray, List.set_cons_zero, List.set_cons_succ, i64_w, i32_w]
                                                rfl
                                              refine pure_ (i := 11) (N := some 109) (v := ?_) (a' := ?_) #[true, true, true, true, true, false, true, false, false, true, true, true, false, false, false, false, false, false, false] rfl rfl (any_of HT_.out (by kernel_rfl)) (fun _ _ _ h => h) (Or.inl ⟨by rfl, ?_⟩) ?_ ?_
                                              rotate_left
                                              · intro w'
                                                go_simp
                                                with_reducible rfl
                                              rotate_left
                                              · simp only [Act.put, List.setIfInBounds_toArray, List.set_cons_zero, List.set_cons_succ, i64_w, i32_w]
                                                rfl
                                              refine pure_ (i := 13) (N := some 111) (v := ?_) (a' := ?_) #[true, true, true, true, true, false, true, false, false, true, true, true, false, true, false, false, false, false, false] rfl rfl (any_of HT_.out (by kernel_rfl)) (fun _ _ _ h => h) (Or.inl ⟨by rfl, ?_⟩) ?_ ?_
                                              rotate_left
                                              · intro w'
                                                go_simp
                                                with_reducible rfl
                                              rotate_left
                                              · simp only [Act.put, List.setIfInBounds_toArray, List.set_cons_zero, List.set_cons_succ, i64_w, i32_w]
                                                rfl
                                              refine take_ (i := 5) (N := some 103) (v := ?_) (a' := ?_) #[true, true, true, true, true, true, true, false, false, true, true, true, false, true, false, false, false, false, false] rfl rfl (take_ofW HT_.out HW_.out (by kernel_rfl)) (fun _ _ _ h => h) (Or.inl ⟨by rfl, ?_⟩) hHeld ?_ ?_
                                              rotate_left
                                              · rintro w' ⟨s0, s1, s2, s3⟩
                                                go_simp
                                                with_reducible rfl
                                              rotate_left
                                              · simp only [Act.put, List.setIfInBounds_toArray, List.set_cons_zero, List.set_cons_succ, i64_w, i32_w]
                                                rfl
                                              refine pure_ (i := 7) (N := some 105) (v := ?_) (a' := ?_) #[true, true, true, true, true, true, true, true, false, true, true, true, false, true, false, false, false, false, false] rfl rfl (any_of HT_.out (by kernel_rfl)) (fun _ _ _ h => h) (Or.inl ⟨by rfl, ?_⟩) ?_ ?_
                                              rotate_left
                                              · intro w'
                                                go_simp
                                                with_reducible rfl
                                              rotate_left
                                              · simp only [Act.put, List.setIfInBounds_toArray, List.set_cons_zero, List.set_cons_succ, i64_w, i32_w]
                                                rfl
                                              refine take_ (i := 8) (N := some 106) (v := ?_) (a' := ?_) #[true, true, true, true, true, true, true, true, true, true, true, true, false, true, false, false, false, false, false] rfl rfl (take_ofW HT_.out HW_.out (by kernel_rfl)) (fun _ _ _ h => h) (Or.inl ⟨by rfl, ?_⟩) hHeld ?_ ?_
                                              rotate_left
                                              · rintro w' ⟨s0, s1, s2, s3⟩
                                                go_simp
                                                with_reducible rfl
                                              rotate_left
                                              · simp only [Act.put, List.setIfInBounds_toArray, List.set_cons_zero, List.set_cons_succ, i64_w, i32_w]
                                                rfl
                                              refine take_ (i := 12) (N := some 110) (v := ?_) (a' := ?_) #[true, true, true, true, true, true, true, true, true, true, true, true, true, true, false, false, false, false, false] rfl rfl (take_ofW HT_.out HW_.out (by kernel_rfl)) (fun _ _ _ h => h) (Or.inl ⟨by rfl, ?_⟩) hHeld ?_ ?_
                                              rotate_left
                                              · rintro w' ⟨s0, s1, s2, s3⟩
                                                go_simp
                                                with_reducible rfl
                                              rotate_left
                                              · simp only [Act.put, List.setIfInBounds_toArray, List.set_cons_zero, List.set_cons_succ, i64_w, i32_w]
                                                rfl
                                              refine pure_ (i := 14) (N := some 112) (v := ?_) (a' := ?_) #[true, true, true, true, true, true, true, true, true, true, true, true, true, true, true, false, false, false, false] rfl rfl (any_of HT_.out (by kernel_rfl)) (fun _ _ _ h => h) (Or.inl ⟨by rfl, ?_⟩) ?_ ?_
                                              rotate_left
                                              · intro w'
                                                go_simp
                                                with_reducible rfl
                                              rotate_left
                                              · simp only [Act.put, List.setIfInBounds_toArray, List.set_cons_zero, List.set_cons_succ, i64_w, i32_w]
                                                rfl
                                              refine take_ (i := 15) (N := some 113) (v := ?_) (a' := ?_) #[true, true, true, true, true, true, true, true, true, true, true, true, true, true, true, true, false, false, false] rfl rfl (take_ofW HT_.out HW_.out (by kernel_rfl)) (fun _ _ _ h => h) (Or.inl ⟨by rfl, ?_⟩) hHeld ?_ ?_
                                              rotate_left
                                              · rintro w' ⟨s0, s1, s2, s3⟩
                                                go_simp
                                                with_reducible rfl
                                              rotate_left
                                              · simp only [Act.put, List.setIfInBounds_toArray, List.set_cons_zero, List.set_cons_succ, i64_w, i32_w]
                                                rfl
                                              refine one_ (i := 16) (N := some 114) #[true, true, true, true, true, true, true, true, true, true, true, true, true, true, true, true, true, false, false] rfl rfl (one_of HT_.out (by kernel_rfl)) (by decide) (fun K hK => ?_)
                                              refine goes_ Try.func35 (by kernel_rfl) rfl #[.int .u8 (rd (rd_L1 l0 x12_3) x14_4), .int .u8 (rd (rd_L1 l1 x12_3) x14_4)] (by rfl) rfl rfl (by (try simp only [List.map_toArray, List.map_cons, List.map_nil]); first | done | rfl | (simp only [List.length_drop, List.length_take]; rfl)) ?_
                                              with_reducible refine (quartermasterref01_Add.calls k4 (rd (rd_L1 l0 x12_3) x14_4) (rd (rd_L1 l1 x12_3) x14_4) t116 _ A46.out).mono ?_
                                              rintro e w' ⟨rfl, ⟨nd, rfl⟩⟩
                                              refine ⟨_, rfl, ?_⟩
                                              have p47 : 0 ≤ (x14_4 : Int) := of_decide_eq_true (by first | (with_reducible assumption) | assumption)
                                              have q47 : (x14_4 : Int) < ((x13_4.length : Int) : Int) := of_decide_eq_true (by first | (with_reducible assumption) | assumption)
                                              obtain ⟨go47, co47, eo47, gb47, gl47, cl47, HG47⟩ := Kd.R_form HO_13.out (by omega)
                                              (first | cases eo47 | (injection eo47 with ea_ en_ ec_; (first | subst ea_ | (injection ea_ with ea_; subst ea_)); subst ec_; clear en_))
                                              have GB47 := Aside0.mk gb47
                                              have GG47 := Aside0.mk HG47
                                              clear gb47 gl47 HG47
                                              obtain ⟨hx47_0, hf47_0⟩ := Kd.R_celln 0 HO_13.out (x14_4 : Int) p47 q47
                                              replace p47 := eq_true p47
                                              replace q47 := eq_true q47
                                              have HP50 := Kd.R_putn HO_13.out (x14_4 : Int) t116
                                              rw [← Ny117.out] at HP50
                                              have HQ50 := Aside0.mk HP50
                                              clear HP50
                                              refine hK.out _ _ ⟨((HB.out.cell (World.block_lt_of_cell? w _ hw112_0)).trans hw112_0), ((HB.out.cell (World.block_lt_of_cell? w _ hw113_0)).trans hw113_0), ((HB.out.cell (World.block_lt_of_cell? w _ hw114_0)).trans hw114_0), ((HB.out.cell (World.block_lt_of_cell? w _ hw115_0)).trans hw115_0)⟩ (fun hHeld => ?_)
                                              clear hK K
                                              refine norm_ (a' := ?_) ?_ ?_
                                              rotate_left
                                              · show Act.put _ (some 114) _ = _
                                                simp only [Act.put, List.setIfInBounds_toArray, List.set_cons_zero, List.set_cons_succ, i64_w, i32_w]
                                                rfl
                                              refine pure_ (i := 17) (N := some 115) (v := ?_) (a' := ?_) #[true, true, true, true, true, true, true, true, true, true, true, true, true, true, true, true, true, true, false] rfl rfl (any_of HT_.out (by kernel_rfl)) (fun _ _ _ h => h) (Or.inl ⟨by rfl, ?_⟩) ?_ ?_
                                              rotate_left
                                              · intro w'
                                                go_simp
                                                with_reducible rfl
                                              rotate_left
                                              · simp only [Act.put, List.setIfInBounds_toArray, List.set_cons_zero, List.set_cons_succ, i64_w, i32_w]
                                                rfl
                                              refine last_ (i := 18) (N := none) #[true, true, true, true, true, true, true, true, true, true, true, true, true, true, true, true, true, true, true] rfl rfl (one_of HT_.out (by kernel_rfl)) (by decide) (fun K hK => ?_)
                                              refine skip_ (w1 := ?_) (by rfl) rfl ?_ ?_
                                              rotate_left
                                              · go_simp
                                                rfl
                                              refine hK.out _ _ ?_
                                              clear hK K
                                              refine done_ (done_of HT_.out (by kernel_rfl)) ?_
                                              try go_wp2
                                              go_roundg k4
                                              case measure => have := HJ6.out; have := HJ11.out; have := HK3.out; have := HK4.out; omega
                                              case rel => exact ⟨(y117), (wrap64 (x14_4 + 1)), (by first | rfl | (simp; done) | (simp [*]; done)), H', ⟨by have := HJ6.out; have := HJ11.out; have := HK3.out; have := HK4.out; omega⟩, ⟨by (with_reducible repeat (first | apply Kd.S_alloc | apply Kd.S_drewN | apply Kd.S_drew)); exact Kd.S_mono (Kd.S_far (p := ⟨go47, (x14_4 : Int).toNat, none⟩) (Kd.S_mono HO_11.out (fun k_ hk => (⟨hk, fun e_ => hk (by rw [e_]; rfl)⟩ : _ ∧ k_ ≠ go47))) (fun _ hk => hk.2) (.int .u8 t116)) (fun _ hk => hk.1)⟩, ⟨by (with_reducible repeat (first | apply Kd.R_alloc | apply Kd.R_drewN | apply Kd.R_drew)); exact HQ50.out⟩, ⟨by repeat (first | (with_reducible first | exact HB.out | apply below_alloc | apply pw_below_drewN | apply below_drew1 | refine below_set ?_ GB47.out) | exact HB.out)⟩⟩
                                            · rw [if_neg c45] at H
                                              exact absurd H (by simp)
                                          · rw [if_neg c44] at H
                                            exact absurd H (by simp)
                                        · rw [if_neg c43] at H
                                          exact absurd H (by simp)
                                      · rw [if_neg c42] at H
                                        exact absurd H (by simp)
                                    · rw [if_neg c41] at H
                                      exact absurd H (by simp)
                                  · rw [if_neg c40] at H
                                    exact absurd H (by simp)
                                · rw [if_neg c39] at H
                                  have c39b0 : decide (x14_4 < (x13_4.length : Int)) = false := decide_eq_false c39
                                  clear c39
                                  by_cases c51 : x11_3.length < 5864062014805
                                  · rw [if_pos c51] at H
                                    have LMc51 := Aside0.mk c51
                                    clear c51
                                    obtain ⟨y118, hy118⟩ : ∃ y_ : List (List Int), y_ = (x11_3 ++ [x13_4]) := ⟨_, rfl⟩
                                    replace H : (quartermasterlaw03_RsSums.l0 k4 l0 l1 a2 y118 (wrap64 (x12_3 + 1))) = some r := by first | (rw [hy118]; with_reducible exact H) | (have H2_ := (Option.bind_some _ _).symm.trans H; rw [hy118]; with_reducible exact H2_) | (have H2_ := (Option.bind_some _ _).symm.trans H; with_reducible exact H2_) | with_reducible exact H | (rw [hy118]; exact H) | exact H
                                    have Ny118 := Aside0.mk hy118
                                    clear hy118
                                    have H' := Aside0.mk H
                                    clear H
                                    obtain ⟨Ao52, co52, eo52⟩ := Kd.R_slice HO_13.out
                                    subst eo52
                                    go_wp2_with (first | ((with_reducible refine gate_builtin (b := .append) (xs := #[.tmp 116, .tmp 118]) rfl ?_); (try (refine gate_guard (by rfl) ?_; dsimp only)); at_builtin; refine Kd.S_append (Kd.slice 5 (Kd.int .u8)) (w0 := w) w.heap.size rfl (.tmp 116) (.tmp 118) 42 43 (.slice none 0 0) 24 rfl Try.underlying42 info43 rfl (by decide) (by omega) u11 x11_3 x13_4 [.slice Ao52 x13_4.length co52] (fun _ => True) (fun k_ => some k_ = (.slice Ao52 x13_4.length co52 : Value).ownBlock) rfl rfl ?aP (fun k_ hk_ => ((Kd.R_mono (ok' := fun k_ => ((fun _ => True)) k_ ∧ some k_ ≠ (u11 : Value).ownBlock) (Kd.R_apart' (HO_13.out) (Kd.S_typed HO_11.out) (by decide)) (fun k_ hk => ⟨trivial, hk.2⟩))).1 k_ hk_.symm) ?aF ?aO ?aB ?aS ?aL ?_; (case aP => exact Kd.M_row (Kd.R_mono (Kd.R_tight rfl (Kd.R_mono (ok' := fun k_ => ((fun _ => True)) k_ ∧ some k_ ≠ (u11 : Value).ownBlock) (Kd.R_apart' (HO_13.out) (Kd.S_typed HO_11.out) (by decide)) (fun k_ hk => ⟨trivial, hk.2⟩))) (fun _ h_ => h_))); (case aB => exact (by repeat (first | (with_reducible first | exact HB.out | apply below_alloc | apply pw_below_drewN | apply below_drew1) | exact HB.out))); (case aF => exact (fun _ _ => trivial)); (case aO => exact (by (with_reducible repeat (first | apply Kd.S_alloc | apply Kd.S_drewN | apply Kd.S_drew)); exact Kd.S_mono HO_11.out (fun k_ hk => ⟨trivial, fun e_ => hk e_⟩))); (case aS => exact (below_size (by repeat (first | (with_reducible first | exact HB.out | apply below_alloc | apply pw_below_drewN | apply below_drew1) | exact HB.out)))); (case aL => have := LMc51.out; omega); intro v119 w53 ho hb hg hat; rw [← Ny118.out] at ho; have n0_ := Aside0.mk (hb); have n1_ := Aside0.mk (ho); clear HB; clear HO_11; clear HO_13; have HB := n0_; have HO120 := n1_; clear n0_ n1_; clear ho hb hg hat))
                                    go_roundg k4
                                    case measure => have := HJ6.out; have := HJ11.out; have := HK3.out; have := HK4.out; omega
                                    case rel => exact ⟨(y118), (wrap64 (x12_3 + 1)), (by first | rfl | (simp; done) | (simp [*]; done)), H', ⟨by have := HJ6.out; have := HJ11.out; have := HK3.out; have := HK4.out; omega⟩, ⟨by (with_reducible repeat (first | apply Kd.S_alloc | apply Kd.S_drewN | apply Kd.S_drew)); exact HO120.out⟩, ⟨by repeat (first | (with_reducible first | exact HB.out | apply below_alloc | apply pw_below_drewN | apply below_drew1) | exact HB.out)⟩⟩
                                  · rw [if_neg c51] at H
                                    exact absurd H (by simp)
                         · rw [if_neg c36] at H
                           exact absurd H (by simp)
                       · rw [if_neg c35] at H
                         exact absurd H (by simp)
                     · rw [if_neg c34] at H
                       exact absurd H (by simp)
                   · rw [if_neg c33] at H
                     have c33b0 : decide (x12_3 < (l0.length : Int)) = false := decide_eq_false c33
                     clear c33
                     replace H := Option.bind_eq_some_iff.mp H
                     obtain ⟨⟨t121, t122⟩, A540, H⟩ := H
                     replace H : ((rs_Encode.f k3 l1 a2).bind fun bt125 => ((rs_Encode.f k3 x11_3 a2).bind fun bt129 => (if t122 = 0 then (if bt125.2 = 0 then (if bt129.2 = 0 then (if (t121.length : Int) = a2 then (if (bt125.1.length : Int) = a2 then (quartermasterlaw03_RsSums.j4 k3 a2 t121 bt125.1 bt129.1 ((bt129.1.length : Int) != a2)) else (none)) else (none)) else (none)) else (none)) else (none)))) = some r := H
                     have A54 := Aside0.mk A540
                     clear A540
                     replace H := Option.bind_eq_some_iff.mp H
                     obtain ⟨⟨t125, t126⟩, A550, H⟩ := H
                     replace H : ((rs_Encode.f k3 x11_3 a2).bind fun bt129 => (if t122 = 0 then (if t126 = 0 then (if bt129.2 = 0 then (if (t121.length : Int) = a2 then (if (t125.length : Int) = a2 then (quartermasterlaw03_RsSums.j4 k3 a2 t121 t125 bt129.1 ((bt129.1.length : Int) != a2)) else (none)) else (none)) else (none)) else (none)) else (none))) = some r := H
                     have A55 := Aside0.mk A550
                     clear A550
                     replace H := Option.bind_eq_some_iff.mp H
                     obtain ⟨⟨t129, t130⟩, A560, H⟩ := H
                     replace H : (if t122 = 0 then (if t126 = 0 then (if t130 = 0 then (if (t121.length : Int) = a2 then (if (t125.length : Int) = a2 then (quartermasterlaw03_RsSums.j4 k3 a2 t121 t125 t129 ((t129.length : Int) != a2)) else (none)) else (none)) else (none)) else (none)) else (none)) = some r := H
                     have A56 := Aside0.mk A560
                     clear A560
                     have HC57 := Aside0.mk H
                     clear H
                     go_upto_region 20 with (first | ((with_reducible refine gate_callee (f := 51) rfl ?_); refine goesL_ (some 123) rfl rfl Try.func51 (by kernel_rfl) rfl #[.slice A0 l0.length c0, .int .i64 a2] rfl (by (try simp only [List.map_toArray, List.map_cons, List.map_nil]); first | done | rfl | (simp only [List.length_drop, List.length_take]; rfl)) ?_; (with_reducible refine (rs_Encode.calls k3 _ _ l0 a2 t121 t122 _ ?side1 ?side2 A54.out).mono ?_); (case side1 => repeat (first | exact (Kd.C_below HR0.out HB.out) | (with_reducible refine Kd.C_alloc ?_ _) | (with_reducible refine Kd.C_drewN ?_ _) | (with_reducible refine Kd.C_drew ?_))); (case side2 => exact HC0.out); rintro e w58 ⟨v123, rfl, ho0, hb⟩; refine ⟨_, rfl, ?_⟩; have n0_ := Aside0.mk (Kd.S_elder' (by (with_reducible repeat (first | apply Kd.S_alloc | apply Kd.S_drewN | apply Kd.S_drew)); exact HO_11.out) (Kd.S_base ho0) hb); have n1_ := Aside0.mk (Kd.S_lower (Kd.S_new' ho0 (Kd.S_lt (by (with_reducible repeat (first | apply Kd.S_alloc | apply Kd.S_drewN | apply Kd.S_drew)); exact HO_11.out))) (below_size (by repeat (first | (with_reducible first | exact HB.out | apply below_alloc | apply pw_below_drewN | apply below_drew1) | exact HB.out)))); have n2_ := Aside0.mk (below_step (by repeat (first | (with_reducible first | exact HB.out | apply below_alloc | apply pw_below_drewN | apply below_drew1) | exact HB.out)) hb); clear HO_11; clear HB; have HO_11 := n0_; have HO124 := n1_; have HB := n2_; clear n0_ n1_ n2_; (try clear hb); (try clear hb2); (try clear hk); (try clear hi); (try clear ho0)) | ((with_reducible refine gate_callee (f := 51) rfl ?_); refine goesL_ (some 129) rfl rfl Try.func51 (by kernel_rfl) rfl #[.slice A1 l1.length c1, .int .i64 a2] rfl (by (try simp only [List.map_toArray, List.map_cons, List.map_nil]); first | done | rfl | (simp only [List.length_drop, List.length_take]; rfl)) ?_; (with_reducible refine (rs_Encode.calls k3 _ _ l1 a2 t125 t126 _ ?side1 ?side2 A55.out).mono ?_); (case side1 => repeat (first | exact (Kd.C_below HR1.out HB.out) | (with_reducible refine Kd.C_alloc ?_ _) | (with_reducible refine Kd.C_drewN ?_ _) | (with_reducible refine Kd.C_drew ?_))); (case side2 => exact HC1.out); rintro e w59 ⟨v127, rfl, ho0, hb⟩; refine ⟨_, rfl, ?_⟩; have n0_ := Aside0.mk (Kd.S_elder' (by (with_reducible repeat (first | apply Kd.S_alloc | apply Kd.S_drewN | apply Kd.S_drew)); exact HO_11.out) (Kd.S_base ho0) hb); have n1_ := Aside0.mk (Kd.S_elder' (by (with_reducible repeat (first | apply Kd.S_alloc | apply Kd.S_drewN | apply Kd.S_drew)); exact HO124.out) (Kd.S_base ho0) hb); have n2_ := Aside0.mk (Kd.S_lower (Kd.S_new' (Kd.S_new' ho0 (Kd.S_lt (by (with_reducible repeat (first | apply Kd.S_alloc | apply Kd.S_drewN | apply Kd.S_drew)); exact HO_11.out))) (Kd.S_lt (by (with_reducible repeat (first | apply Kd.S_alloc | apply Kd.S_drewN | apply Kd.S_drew)); exact HO124.out))) (below_size (by repeat (first | (with_reducible first | exact HB.out | apply below_alloc | apply pw_below_drewN | apply below_drew1) | exact HB.out)))); have n3_ := Aside0.mk (below_step (by repeat (first | (with_reducible first | exact HB.out | apply below_alloc | apply pw_below_drewN | apply below_drew1) | exact HB.out)) hb); clear HO_11; clear HO124; clear HB; have HO_11 := n0_; have HO124 := n1_; have HO128 := n2_; have HB := n3_; clear n0_ n1_ n2_ n3_; (try clear hb); (try clear hb2); (try clear hk); (try clear hi); (try clear ho0); obtain ⟨Ao60, co60, eo60⟩ := Kd.S_slice HO_11.out; subst eo60) | ((with_reducible refine gate_callee (f := 51) rfl ?_); refine goesL_ (some 135) rfl rfl Try.func51 (by kernel_rfl) rfl #[.slice Ao60 x11_3.length co60, .int .i64 a2] rfl (by (try simp only [List.map_toArray, List.map_cons, List.map_nil]); first | done | rfl | (simp only [List.length_drop, List.length_take]; rfl)) ?_; (with_reducible refine (rs_Encode.calls k3 _ _ x11_3 a2 t129 t130 _ ?side1 ?side2 A56.out).mono ?_); (case side1 => repeat (first | exact (Kd.S_reads' HO_11.out).2.2 | (with_reducible refine Kd.C_alloc ?_ _) | (with_reducible refine Kd.C_drewN ?_ _) | (with_reducible refine Kd.C_drew ?_))); (case side2 => exact (Kd.S_reads' HO_11.out).2.1); rintro e w61 ⟨v131, rfl, ho0, hb⟩; refine ⟨_, rfl, ?_⟩; have n0_ := Aside0.mk (Kd.S_elder' (by (with_reducible repeat (first | apply Kd.S_alloc | apply Kd.S_drewN | apply Kd.S_drew)); exact HO_11.out) (Kd.S_base ho0) hb); have n1_ := Aside0.mk (Kd.S_elder' (by (with_reducible repeat (first | apply Kd.S_alloc | apply Kd.S_drewN | apply Kd.S_drew)); exact HO124.out) (Kd.S_base ho0) hb); have n2_ := Aside0.mk (Kd.S_elder' (by (with_reducible repeat (first | apply Kd.S_alloc | apply Kd.S_drewN | apply Kd.S_drew)); exact HO128.out) (Kd.S_base ho0) hb); have n3_ := Aside0.mk (Kd.S_lower (Kd.S_new' (Kd.S_new' (Kd.S_new' ho0 (Kd.S_lt (by (with_reducible repeat (first | apply Kd.S_alloc | apply Kd.S_drewN | apply Kd.S_drew)); exact HO_11.out))) (Kd.S_lt (by (with_reducible repeat (first | apply Kd.S_alloc | apply Kd.S_drewN | apply Kd.S_drew)); exact HO124.out))) (Kd.S_lt (by (with_reducible repeat (first | apply Kd.S_alloc | apply Kd.S_drewN | apply Kd.S_drew)); exact HO128.out))) (below_size (by repeat (first | (with_reducible first | exact HB.out | apply below_alloc | apply pw_below_drewN | apply below_drew1) | exact HB.out)))); have n4_ := Aside0.mk (below_step (by repeat (first | (with_reducible first | exact HB.out | apply below_alloc | apply pw_below_drewN | apply below_drew1) | exact HB.out)) hb); clear HO_11; clear HO124; clear HO128; clear HB; have HO_11 := n0_; have HO124 := n1_; have HO128 := n2_; have HO132 := n3_; have HB := n4_; clear n0_ n1_ n2_ n3_ n4_; (try clear hb); (try clear hb2); (try clear hk); (try clear hi); (try clear ho0)))
                     (try simp only [Act.put, List.setIfInBounds_toArray, List.set_cons_zero, List.set_cons_succ])
                     go_cut [165] (fun v165 wc => ∃ (kq : Nat) (x165_56 : Bool), v165 = .bool x165_56 ∧ Aside0 (quartermasterlaw03_RsSums.j4 kq a2 t121 t125 t129 x165_56 = some r) ∧ Aside0 (kq ≤ k3) ∧ Aside0 (Kd.S (Kd.slice 5 (Kd.int .u8)) 43 wc w.heap.size (fun k_ => some k_ ≠ (v127 : Value).ownBlock ∧ some k_ ≠ (v131 : Value).ownBlock) v123 t121) ∧ Aside0 (Kd.S (Kd.slice 5 (Kd.int .u8)) 43 wc w.heap.size (fun k_ => some k_ ≠ (v123 : Value).ownBlock ∧ some k_ ≠ (v131 : Value).ownBlock) v127 t125) ∧ Aside0 (Kd.S (Kd.slice 5 (Kd.int .u8)) 43 wc w.heap.size (fun k_ => some k_ ≠ (v123 : Value).ownBlock ∧ some k_ ≠ (v127 : Value).ownBlock) v131 t129) ∧ Aside0 (Below w.heap.size w wc))
                     case first =>
                       have H := HC57.out
                       clear HC57
                       by_cases c62 : t122 = 0
                       · rw [if_pos c62] at H
                         have c62b0 : (t122 == 0) = true := beq_iff_eq.mpr c62
                         have c62b1 : (t122 != 0) = false := bne_eq_false_iff_eq.mpr c62
                         clear c62
                         (first | rw [c62b0] | (simp only [i64_w, i32_w]; rw [c62b0]) | skip)
                         by_cases c63 : t126 = 0
                         · rw [if_pos c63] at H
                           have c63b0 : (t126 == 0) = true := beq_iff_eq.mpr c63
                           have c63b1 : (t126 != 0) = false := bne_eq_false_iff_eq.mpr c63
                           clear c63
                           by_cases c64 : t130 = 0
                           · rw [if_pos c64] at H
                             have c64b0 : (t130 == 0) = true := beq_iff_eq.mpr c64
                             have c64b1 : (t130 != 0) = false := bne_eq_false_iff_eq.mpr c64
                             clear c64
                             by_cases c65 : (t121.length : Int) = a2
                             · rw [if_pos c65] at H
                               have c65b0 : ((t121.length : Int) == a2) = true := beq_iff_eq.mpr c65
                               have c65b1 : ((t121.length : Int) != a2) = false := bne_eq_false_iff_eq.mpr c65
                               clear c65
                               by_cases c66 : (t125.length : Int) = a2
                               · rw [if_pos c66] at H
                                 have c66b0 : ((t125.length : Int) == a2) = true := beq_iff_eq.mpr c66
                                 have c66b1 : ((t125.length : Int) != a2) = false := bne_eq_false_iff_eq.mpr c66
                                 clear c66
                                 have H' := Aside0.mk H
                                 clear H
                                 obtain ⟨Ao67, co67, eo67⟩ := Kd.S_slice HO124.out
                                 subst eo67
                                 obtain ⟨Ao68, co68, eo68⟩ := Kd.S_slice HO128.out
                                 subst eo68
                                 obtain ⟨Ao69, co69, eo69⟩ := Kd.S_slice HO132.out
                                 subst eo69
                                 go_wp2
                                 go_meet
                                 case rel => exact ⟨_, (((t129.length : Int) != a2)), (by first | rfl | (simp; done) | (simp [*]; done)), H', ⟨by have := HJ6.out; have := HJ11.out; have := HK3.out; first | omega | exact Nat.le_refl _⟩, ⟨by (with_reducible repeat (first | apply Kd.S_alloc | apply Kd.S_drewN | apply Kd.S_drew)); exact Kd.S_mono HO124.out (fun _ hk => ⟨hk.1.2, hk.2⟩)⟩, ⟨by (with_reducible repeat (first | apply Kd.S_alloc | apply Kd.S_drewN | apply Kd.S_drew)); exact Kd.S_mono HO128.out (fun _ hk => ⟨hk.1.2, hk.2⟩)⟩, ⟨by (with_reducible repeat (first | apply Kd.S_alloc | apply Kd.S_drewN | apply Kd.S_drew)); exact Kd.S_mono HO132.out (fun _ hk => ⟨hk.1.2, hk.2⟩)⟩, ⟨by repeat (first | (with_reducible first | exact HB.out | apply below_alloc | apply pw_below_drewN | apply below_drew1) | exact HB.out)⟩⟩
                               · rw [if_neg c66] at H
                                 exact absurd H (by simp)
                             · rw [if_neg c65] at H
                               exact absurd H (by simp)
                           · rw [if_neg c64] at H
                             exact absurd H (by simp)
                         · rw [if_neg c63] at H
                           exact absurd H (by simp)
                       · rw [if_neg c62] at H
                         exact absurd H (by simp)
                     case rest =>
                       as_aux_lemma =>
                        clear HC57
                        try clear c1
                        try clear p1
                        try clear q1
                        try clear hx1
                        try clear p2
                        try clear c3
                        try clear c4
                        try clear p4
                        try clear q4
                        try clear hx4
                        try clear hf4
                        try clear c5
                        try clear c6
                        try clear p6
                        try clear c10
                        try clear p10
                        try clear q10
                        try clear hx10
                        try clear c11
                        try clear p11
                        try clear q11
                        try clear hx11
                        try clear c13
                        try clear c14
                        try clear c32
                        try clear c33
                        try clear c33b0
                        try clear c34
                        try clear c34b0
                        try clear c35
                        try clear c35b0
                        try clear c35b1
                        try clear c36
                        try clear c36b0
                        try clear c36b1
                        try clear c39
                        try clear c39b0
                        try clear c40
                        try clear c40b0
                        try clear c41
                        try clear c41b0
                        try clear c42
                        try clear c42b0
                        try clear c43
                        try clear c43b0
                        try clear c44
                        try clear c44b0
                        try clear c45
                        try clear c45b0
                        try clear p47
                        try clear q47
                        try clear hx47
                        try clear hf47
                        try clear c51
                        try clear c62
                        try clear c62b0
                        try clear c62b1
                        try clear c63
                        try clear c63b0
                        try clear c63b1
                        try clear c64
                        try clear c64b0
                        try clear c64b1
                        try clear p64
                        try clear c65
                        try clear c65b0
                        try clear c65b1
                        try clear c66
                        try clear c66b0
                        try clear c66b1
                        try clear hx108_0
                        try clear hx112_0
                        try clear hx113_0
                        try clear hx114_0
                        try clear hx115_0
                        try clear hx47_0
                        try clear p1
                        try clear p10
                        try clear p108
                        try clear p112
                        try clear p113
                        try clear p114
                        try clear p115
                        try clear p2
                        try clear p47
                        try clear q1
                        try clear q10
                        try clear q108
                        try clear q112
                        try clear q113
                        try clear q114
                        try clear q115
                        try clear q47
                        obtain ⟨kq, x165_56, rfl, HA, HJ56, HO_15, HO_17, HO_19, HB⟩ := hcut
                        cases kq with
                        | zero => exact absurd HA.out (by simp [quartermasterlaw03_RsSums.j4])
                        | succ kj56 =>
                          have H := HA.out
                          clear HA
                          simp only [quartermasterlaw03_RsSums.j4] at H
                          by_cases c73 : x165_56 = true
                          · subst c73
                            have H1 : (none) = some r := by rw [if_pos rfl] at H; exact H
                            exact absurd H1 (by simp)
                          · replace c73 := Bool.eq_false_iff.mpr c73
                            subst c73
                            have H1 : (quartermasterlaw03_RsSums.l2 kj56 a2 t121 t125 t129 0) = some r := by rw [if_neg (show ¬ (false = true) by decide)] at H; exact H
                            clear H
                            have H := H1
                            clear H1
                            have H' := Aside0.mk H
                            clear H
                            go_wp2
                            go_loopg [21] kj56 (fun kq v21 w' => ∃ (x21_5 : Int), v21 = .int .i64 x21_5 ∧ Aside0 (quartermasterlaw03_RsSums.l2 kq a2 t121 t125 t129 x21_5 = some r) ∧ Aside0 (kq ≤ kj56) ∧ Aside0 (Kd.S (Kd.slice 5 (Kd.int .u8)) 43 w' w.heap.size (fun k_ => some k_ ≠ (v127 : Value).ownBlock ∧ some k_ ≠ (v131 : Value).ownBlock) v123 t121) ∧ Aside0 (Kd.S (Kd.slice 5 (Kd.int .u8)) 43 w' w.heap.size (fun k_ => some k_ ≠ (v123 : Value).ownBlock ∧ some k_ ≠ (v131 : Value).ownBlock) v127 t125) ∧ Aside0 (Kd.S (Kd.slice 5 (Kd.int .u8)) 43 w' w.heap.size (fun k_ => some k_ ≠ (v123 : Value).ownBlock ∧ some k_ ≠ (v127 : Value).ownBlock) v131 t129) ∧ Aside0 (Below w.heap.size w w'))
                            case atStart => exact ⟨(0), (by first | rfl | (simp; done) | (simp [*]; done)), H', ⟨Nat.le_refl _⟩, ⟨by (with_reducible repeat (first | apply Kd.S_alloc | apply Kd.S_drewN | apply Kd.S_drew)); exact HO_15.out⟩, ⟨by (with_reducible repeat (first | apply Kd.S_alloc | apply Kd.S_drewN | apply Kd.S_drew)); exact HO_17.out⟩, ⟨by (with_reducible repeat (first | apply Kd.S_alloc | apply Kd.S_drewN | apply Kd.S_drew)); exact HO_19.out⟩, ⟨by repeat (first | (with_reducible first | exact HB.out | apply below_alloc | apply pw_below_drewN | apply below_drew1) | exact HB.out)⟩⟩
                            case round =>
                              as_aux_lemma =>
                               clear H'
                               try clear c1
                               try clear p1
                               try clear q1
                               try clear hx1
                               try clear p2
                               try clear c3
                               try clear c4
                               try clear p4
                               try clear q4
                               try clear hx4
                               try clear hf4
                               try clear c5
                               try clear c6
                               try clear p6
                               try clear c7
                               try clear c10
                               try clear p10
                               try clear q10
                               try clear hx10
                               try clear c11
                               try clear p11
                               try clear q11
                               try clear hx11
                               try clear c13
                               try clear c14
                               try clear c32
                               try clear c33
                               try clear c33b0
                               try clear c34
                               try clear c34b0
                               try clear c35
                               try clear c35b0
                               try clear c35b1
                               try clear c36
                               try clear c36b0
                               try clear c36b1
                               try clear c39
                               try clear c39b0
                               try clear c40
                               try clear c40b0
                               try clear c41
                               try clear c41b0
                               try clear c42
                               try clear c42b0
                               try clear c43
                               try clear c43b0
                               try clear c44
                               try clear c44b0
                               try clear c45
                               try clear c45b0
                               try clear p47
                               try clear q47
                               try clear hx47
                               try clear hf47
                               try clear c51
                               try clear c62
                               try clear c62b0
                               try clear c62b1
                               try clear c63
                               try clear c63b0
                               try clear c63b1
                               try clear c64
                               try clear c64b0
                               try clear c64b1
                               try clear p64
                               try clear c65
                               try clear c65b0
                               try clear c65b1
                               try clear c66
                               try clear c66b0
                               try clear c66b1
                               try clear c73
                               try clear hx108_0
                               try clear hx112_0
                               try clear hx113_0
                               try clear hx114_0
                               try clear hx115_0
                               try clear hx47_0
                               try clear p1
                               try clear p10
                               try clear p108
                               try clear p11
                               try clear p112
                               try clear p113
                               try clear p114
                               try clear p115
                               try clear p2
                               try clear p4
                               try clear p47
                               try clear p6
                               try clear p64
                               try clear q1
                               try clear q10
                               try clear q108
                               try clear q11
                               try clear q112
                               try clear q113
                               try clear q114
                               try clear q115
                               try clear q4
                               try clear q47
                               obtain ⟨x21_5, rfl, HA, HK5, HO_15, HO_17, HO_19, HB⟩ := hrel
                               cases gk with
                               | zero => exact absurd HA.out (by simp [quartermasterlaw03_RsSums.l2])
                               | succ k5 =>
                                 have H := HA.out
                                 clear HA
                                 simp only [quartermasterlaw03_RsSums.l2] at H
                                 by_cases c74 : x21_5 < a2
                                 · rw [if_pos c74] at H
                                   have c74b0 : decide (x21_5 < a2) = true := decide_eq_true c74
                                   clear c74
                                   have H' := Aside0.mk H
                                   clear H
                                   go_wp2
                                   go_loopg [22] k5 (fun kq v22 w' => ∃ (x22_6 : Int), v22 = .int .i64 x22_6 ∧ Aside0 (quartermasterlaw03_RsSums.l3 kq a2 t121 t125 t129 x21_5 x22_6 = some r) ∧ Aside0 (kq ≤ k5) ∧ Aside0 (Kd.S (Kd.slice 5 (Kd.int .u8)) 43 w' w.heap.size (fun k_ => some k_ ≠ (v127 : Value).ownBlock ∧ some k_ ≠ (v131 : Value).ownBlock) v123 t121) ∧ Aside0 (Kd.S (Kd.slice 5 (Kd.int .u8)) 43 w' w.heap.size (fun k_ => some k_ ≠ (v123 : Value).ownBlock ∧ some k_ ≠ (v131 : Value).ownBlock) v127 t125) ∧ Aside0 (Kd.S (Kd.slice 5 (Kd.int .u8)) 43 w' w.heap.size (fun k_ => some k_ ≠ (v123 : Value).ownBlock ∧ some k_ ≠ (v127 : Value).ownBlock) v131 t129) ∧ Aside0 (Below w.heap.size w w'))
                                   case atStart => exact ⟨(0), (by first | rfl | (simp; done) | (simp [*]; done)), H', ⟨Nat.le_refl _⟩, ⟨by (with_reducible repeat (first | apply Kd.S_alloc | apply Kd.S_drewN | apply Kd.S_drew)); exact HO_15.out⟩, ⟨by (with_reducible repeat (first | apply Kd.S_alloc | apply Kd.S_drewN | apply Kd.S_drew)); exact HO_17.out⟩, ⟨by (with_reducible repeat (first | apply Kd.S_alloc | apply Kd.S_drewN | apply Kd.S_drew)); exact HO_19.out⟩, ⟨by repeat (first | (with_reducible first | exact HB.out | apply below_alloc | apply pw_below_drewN | apply below_drew1) | exact HB.out)⟩⟩
                                   case round =>
                                     as_aux_lemma =>
                                      clear H'
                                      try clear c1
                                      try clear p1
                                      try clear q1
                                      try clear hx1
                                      try clear p2
                                      try clear c3
                                      try clear c4
                                      try clear p4
                                      try clear q4
                                      try clear hx4
                                      try clear hf4
                                      try clear c5
                                      try clear c6
                                      try clear p6
                                      try clear c7
                                      try clear c10
                                      try clear p10
                                      try clear q10
                                      try clear hx10
                                      try clear c11
                                      try clear p11
                                      try clear q11
                                      try clear hx11
                                      try clear c13
                                      try clear c14
                                      try clear c32
                                      try clear c33
                                      try clear c33b0
                                      try clear c34
                                      try clear c34b0
                                      try clear c35
                                      try clear c35b0
                                      try clear c35b1
                                      try clear c36
                                      try clear c36b0
                                      try clear c36b1
                                      try clear c39
                                      try clear c39b0
                                      try clear c40
                                      try clear c40b0
                                      try clear c41
                                      try clear c41b0
                                      try clear c42
                                      try clear c42b0
                                      try clear c43
                                      try clear c43b0
                                      try clear c44
                                      try clear c44b0
                                      try clear c45
                                      try clear c45b0
                                      try clear p47
                                      try clear q47
                                      try clear hx47
                                      try clear hf47
                                      try clear c51
                                      try clear c62
                                      try clear c62b0
                                      try clear c62b1
                                      try clear c63
                                      try clear c63b0
                                      try clear c63b1
                                      try clear c64
                                      try clear c64b0
                                      try clear c64b1
                                      try clear p64
                                      try clear c65
                                      try clear c65b0
                                      try clear c65b1
                                      try clear c66
                                      try clear c66b0
                                      try clear c66b1
                                      try clear c73
                                      try clear c74
                                      try clear c74b0
                                      try clear hx108_0
                                      try clear hx112_0
                                      try clear hx113_0
                                      try clear hx114_0
                                      try clear hx115_0
                                      try clear hx47_0
                                      try clear p1
                                      try clear p10
                                      try clear p108
                                      try clear p11
                                      try clear p112
                                      try clear p113
                                      try clear p114
                                      try clear p115
                                      try clear p2
                                      try clear p4
                                      try clear p47
                                      try clear p6
                                      try clear p64
                                      try clear q1
                                      try clear q10
                                      try clear q108
                                      try clear q11
                                      try clear q112
                                      try clear q113
                                      try clear q114
                                      try clear q115
                                      try clear q4
                                      try clear q47
                                      obtain ⟨x22_6, rfl, HA, HK6, HO_15, HO_17, HO_19, HB⟩ := hrel
                                      cases gk with
                                      | zero => exact absurd HA.out (by simp [quartermasterlaw03_RsSums.l3])
                                      | succ k6 =>
                                        have H := HA.out
                                        clear HA
                                        simp only [quartermasterlaw03_RsSums.l3] at H
                                        by_cases c75 : 0 ≤ x21_5
                                        · rw [if_pos c75] at H
                                          have c75b0 : decide (0 ≤ x21_5) = true := decide_eq_true c75
                                          clear c75
                                          by_cases c76 : x21_5 < (t129.length : Int)
                                          · rw [if_pos c76] at H
                                            have c76b0 : decide (x21_5 < (t129.length : Int)) = true := decide_eq_true c76
                                            clear c76
                                            by_cases c77 : x22_6 < ((rd_L1 t129 x21_5).length : Int)
                                            · rw [if_pos c77] at H
                                              have c77b0 : decide (x22_6 < ((rd_L1 t129 x21_5).length : Int)) = true := decide_eq_true c77
                                              clear c77
                                              by_cases c78 : x21_5 < (t121.length : Int)
                                              · rw [if_pos c78] at H
                                                have c78b0 : decide (x21_5 < (t121.length : Int)) = true := decide_eq_true c78
                                                clear c78
                                                by_cases c79 : x22_6 ≥ ((rd_L1 t121 x21_5).length : Int)
                                                · rw [if_pos c79] at H
                                                  exact absurd H (by simp)
                                                · rw [if_neg c79] at H
                                                  have c79b0 : decide (((rd_L1 t121 x21_5).length : Int) ≤ x22_6) = false := decide_eq_false c79
                                                  clear c79
                                                  by_cases c83 : x21_5 < (t125.length : Int)
                                                  · rw [if_pos c83] at H
                                                    have c83b0 : decide (x21_5 < (t125.length : Int)) = true := decide_eq_true c83
                                                    clear c83
                                                    by_cases c84 : x22_6 ≥ ((rd_L1 t125 x21_5).length : Int)
                                                    · rw [if_pos c84] at H
                                                      exact absurd H (by simp)
                                                    · rw [if_neg c84] at H
                                                      have c84b0 : decide (((rd_L1 t125 x21_5).length : Int) ≤ x22_6) = false := decide_eq_false c84
                                                      clear c84
                                                      by_cases c89 : 0 ≤ x22_6
                                                      · rw [if_pos c89] at H
                                                        have c89b0 : decide (0 ≤ x22_6) = true := decide_eq_true c89
                                                        clear c89
                                                        by_cases c90 : x22_6 < ((rd_L1 t121 x21_5).length : Int)
                                                        · rw [if_pos c90] at H
                                                          have c90b0 : decide (x22_6 < ((rd_L1 t121 x21_5).length : Int)) = true := decide_eq_true c90
                                                          clear c90
                                                          by_cases c91 : x22_6 < ((rd_L1 t125 x21_5).length : Int)
                                                          · rw [if_pos c91] at H
                                                            have c91b0 : decide (x22_6 < ((rd_L1 t125 x21_5).length : Int)) = true := decide_eq_true c91
                                                            clear c91
                                                            replace H := Option.bind_eq_some_iff.mp H
                                                            obtain ⟨t142, A920, H⟩ := H
                                                            replace H : (if (rd (rd_L1 t129 x21_5) x22_6) = t142 then (quartermasterlaw03_RsSums.l3 k6 a2 t121 t125 t129 x21_5 (wrap64 (x22_6 + 1))) else (none)) = some r := H
                                                            have A92 := Aside0.mk A920
                                                            clear A920
                                                            by_cases c93 : (rd (rd_L1 t129 x21_5) x22_6) = t142
                                                            · rw [if_pos c93] at H
                                                              have c93b0 : ((rd (rd_L1 t129 x21_5) x22_6) == t142) = true := beq_iff_eq.mpr c93
                                                              have c93b1 : ((rd (rd_L1 t129 x21_5) x22_6) != t142) = false := bne_eq_false_iff_eq.mpr c93
                                                              clear c93
                                                              have H' := Aside0.mk H
                                                              clear H
                                                              obtain ⟨Ao94, co94, eo94⟩ := Kd.S_slice HO_19.out
                                                              subst eo94
                                                              have p133 : 0 ≤ (x21_5 : Int) := of_decide_eq_true (by first | (with_reducible assumption) | assumption)
                                                              have q133 : x21_5 < (t129.length : Int) := of_decide_eq_true (by first | (with_reducible assumption) | assumption)
                                                              obtain ⟨ad133, A133_0, c133_0, e133, hx133_0, hl133_0, hi133_0⟩ := at_L1 (Kd.S_reads' HO_19.out).2.2 x21_5 p133 q133
                                                              cases e133
                                                              obtain ⟨ce133, hce133, hMe133, hcc133⟩ := Kd.S_get HO_19.out [] x21_5 p133 (by first | exact q133 | exact of_decide_eq_true (by first | (with_reducible assumption) | assumption) | (have e_ := (Kd.S_reads' HO_19.out).1; omega))
                                                              obtain ⟨ve133_0, rfl, ge133_0⟩ := hMe133
                                                              have hv133_0 := hcc133 0 _ rfl
                                                              rw [Nat.add_zero, show ((Kd.slice 5 (Kd.int .u8))).sz = 1 from rfl, Nat.mul_one] at hv133_0
                                                              replace hv133_0 := Option.some.inj (hv133_0.symm.trans hx133_0)
                                                              rw [hv133_0] at ge133_0
                                                              have HL133_0 := Aside0.mk (show Kd.R (Kd.int .u8) 5 _ _ _ _ (rd_L1 t129 x21_5) from ge133_0)
                                                              clear hv133_0 ge133_0
                                                              clear hcc133 hce133
                                                              have HR133_0 := Aside0.mk hi133_0
                                                              have HC133_0 := Aside0.mk hl133_0
                                                              clear hi133_0 hl133_0
                                                              replace p133 := eq_true p133
                                                              replace q133 := eq_true q133
                                                              try go_wp2
                                                              have n0_ := Aside0.mk (Kd.S_drew HO_15.out)
                                                              have n1_ := Aside0.mk (Kd.S_drew HO_17.out)
                                                              have n2_ := Aside0.mk (Kd.S_drew HO_19.out)
                                                              have n3_ := Aside0.mk (Kd.R_drew HL133_0.out)
                                                              have n4_ := Aside0.mk (Kd.C_drew HR133_0.out)
                                                              have n5_ := Aside0.mk (below_drew1 HB.out)
                                                              clear HO_15
                                                              clear HO_17
                                                              clear HO_19
                                                              clear HL133_0
                                                              clear HR133_0
                                                              clear HB
                                                              have HO_15 := n0_
                                                              have HO_17 := n1_
                                                              have HO_19 := n2_
                                                              have HL133_0 := n3_
                                                              have HR133_0 := n4_
                                                              have HB := n5_
                                                              clear n0_ n1_ n2_ n3_ n4_ n5_
                                                              obtain ⟨Ao96, co96, eo96⟩ := Kd.S_slice HO_15.out
                                                              (first | subst eo96 | (injection eo96 with f1_ f2_ f3_; have f4_ := f1_.symm; have f5_ := f3_.symm; clear f1_ f2_ f3_; subst f4_; subst f5_))
                                                              have p134 : 0 ≤ (x21_5 : Int) := of_decide_eq_true (by first | (with_reducible assumption) | assumption)
                                                              have q134 : x21_5 < (t121.length : Int) := of_decide_eq_true (by first | (with_reducible assumption) | assumption)
                                                              obtain ⟨ad134, A134_0, c134_0, e134, hx134_0, hl134_0, hi134_0⟩ := at_L1 (Kd.S_reads' HO_15.out).2.2 x21_5 p134 q134
                                                              cases e134
                                                              obtain ⟨ce134, hce134, hMe134, hcc134⟩ := Kd.S_get HO_15.out [] x21_5 p134 (by first | exact q134 | exact of_decide_eq_true (by first | (with_reducible assumption) | assumption) | (have e_ := (Kd.S_reads' HO_15.out).1; omega))
                                                              obtain ⟨ve134_0, rfl, ge134_0⟩ := hMe134
                                                              have hv134_0 := hcc134 0 _ rfl
                                                              rw [Nat.add_zero, show ((Kd.slice 5 (Kd.int .u8))).sz = 1 from rfl, Nat.mul_one] at hv134_0
                                                              replace hv134_0 := Option.some.inj (hv134_0.symm.trans hx134_0)
                                                              rw [hv134_0] at ge134_0
                                                              have HL134_0 := Aside0.mk (show Kd.R (Kd.int .u8) 5 _ _ _ _ (rd_L1 t121 x21_5) from ge134_0)
                                                              clear hv134_0 ge134_0
                                                              clear hcc134 hce134
                                                              have HR134_0 := Aside0.mk hi134_0
                                                              have HC134_0 := Aside0.mk hl134_0
                                                              clear hi134_0 hl134_0
                                                              replace p134 := eq_true p134
                                                              replace q134 := eq_true q134
                                                              obtain ⟨Ao97, co97, eo97⟩ := Kd.S_slice HO_17.out
                                                              (first | subst eo97 | (injection eo97 with f1_ f2_ f3_; have f4_ := f1_.symm; have f5_ := f3_.symm; clear f1_ f2_ f3_; subst f4_; subst f5_))
                                                              have p135 : 0 ≤ (x21_5 : Int) := of_decide_eq_true (by first | (with_reducible assumption) | assumption)
                                                              have q135 : x21_5 < (t125.length : Int) := of_decide_eq_true (by first | (with_reducible assumption) | assumption)
                                                              obtain ⟨ad135, A135_0, c135_0, e135, hx135_0, hl135_0, hi135_0⟩ := at_L1 (Kd.S_reads' HO_17.out).2.2 x21_5 p135 q135
                                                              cases e135
                                                              obtain ⟨ce135, hce135, hMe135, hcc135⟩ := Kd.S_get HO_17.out [] x21_5 p135 (by first | exact q135 | exact of_decide_eq_true (by first | (with_reducible assumption) | assumption) | (have e_ := (Kd.S_reads' HO_17.out).1; omega))
                                                              obtain ⟨ve135_0, rfl, ge135_0⟩ := hMe135
                                                              have hv135_0 := hcc135 0 _ rfl
                                                              rw [Nat.add_zero, show ((Kd.slice 5 (Kd.int .u8))).sz = 1 from rfl, Nat.mul_one] at hv135_0
                                                              replace hv135_0 := Option.some.inj (hv135_0.symm.trans hx135_0)
                                                              rw [hv135_0] at ge135_0
                                                              have HL135_0 := Aside0.mk (show Kd.R (Kd.int .u8) 5 _ _ _ _ (rd_L1 t125 x21_5) from ge135_0)
                                                              clear hv135_0 ge135_0
                                                              clear hcc135 hce135
                                                              have HR135_0 := Aside0.mk hi135_0
                                                              have HC135_0 := Aside0.mk hl135_0
                                                              clear hi135_0 hl135_0
                                                              replace p135 := eq_true p135
                                                              replace q135 := eq_true q135
                                                              have p136 : 0 ≤ (x21_5 : Int) := of_decide_eq_true (by first | (with_reducible assumption) | assumption)
                                                              have q136 : x21_5 < (t129.length : Int) := of_decide_eq_true (by first | (with_reducible assumption) | assumption)
                                                              obtain ⟨ad136, A136_0, c136_0, e136, hx136_0, hl136_0, hi136_0⟩ := at_L1 (Kd.S_reads' HO_19.out).2.2 x21_5 p136 q136
                                                              obtain rfl : ad133 = ad136 := (by injection e136)
                                                              obtain ⟨ce136, hce136, hMe136, hcc136⟩ := Kd.S_get HO_19.out [] x21_5 p136 (by first | exact q136 | exact of_decide_eq_true (by first | (with_reducible assumption) | assumption) | (have e_ := (Kd.S_reads' HO_19.out).1; omega))
                                                              obtain ⟨ve136_0, rfl, ge136_0⟩ := hMe136
                                                              have hv136_0 := hcc136 0 _ rfl
                                                              rw [Nat.add_zero, show ((Kd.slice 5 (Kd.int .u8))).sz = 1 from rfl, Nat.mul_one] at hv136_0
                                                              replace hv136_0 := Option.some.inj (hv136_0.symm.trans hx136_0)
                                                              rw [hv136_0] at ge136_0
                                                              have HL136_0 := Aside0.mk (show Kd.R (Kd.int .u8) 5 _ _ _ _ (rd_L1 t129 x21_5) from ge136_0)
                                                              clear hv136_0 ge136_0
                                                              clear hcc136 hce136
                                                              have HR136_0 := Aside0.mk hi136_0
                                                              have HC136_0 := Aside0.mk hl136_0
                                                              clear hi136_0 hl136_0
                                                              replace p136 := eq_true p136
                                                              replace q136 := eq_true q136
                                                              have p137 : 0 ≤ (x22_6 : Int) := of_decide_eq_true (by first | (with_reducible assumption) | assumption)
                                                              have q137 : x22_6 < ((rd_L1 t129 x21_5).length : Int) := of_decide_eq_true (by first | (with_reducible assumption) | assumption)
                                                              obtain ⟨ad137, e137, hx137_0⟩ := Kd.at_int (by repeat (first | (with_reducible exact HR136_0.out) | (with_reducible refine Kd.C_alloc ?_ _) | (with_reducible refine Kd.C_drewN ?_ _) | (with_reducible refine Kd.C_drew ?_) | exact HR136_0.out)) x22_6 p137 q137
                                                              cases e137
                                                              replace p137 := eq_true p137
                                                              replace q137 := eq_true q137
                                                              have p138 : 0 ≤ (x21_5 : Int) := of_decide_eq_true (by first | (with_reducible assumption) | assumption)
                                                              have q138 : x21_5 < (t121.length : Int) := of_decide_eq_true (by first | (with_reducible assumption) | assumption)
                                                              obtain ⟨ad138, A138_0, c138_0, e138, hx138_0, hl138_0, hi138_0⟩ := at_L1 (Kd.S_reads' HO_15.out).2.2 x21_5 p138 q138
                                                              obtain rfl : ad134 = ad138 := (by injection e138)
                                                              obtain ⟨ce138, hce138, hMe138, hcc138⟩ := Kd.S_get HO_15.out [] x21_5 p138 (by first | exact q138 | exact of_decide_eq_true (by first | (with_reducible assumption) | assumption) | (have e_ := (Kd.S_reads' HO_15.out).1; omega))
                                                              obtain ⟨ve138_0, rfl, ge138_0⟩ := hMe138
                                                              have hv138_0 := hcc138 0 _ rfl
                                                              rw [Nat.add_zero, show ((Kd.slice 5 (Kd.int .u8))).sz = 1 from rfl, Nat.mul_one] at hv138_0
                                                              replace hv138_0 := Option.some.inj (hv138_0.symm.trans hx138_0)
                                                              rw [hv138_0] at ge138_0
                                                              have HL138_0 := Aside0.mk (show Kd.R (Kd.int .u8) 5 _ _ _ _ (rd_L1 t121 x21_5) from ge138_0)
                                                              clear hv138_0 ge138_0
                                                              clear hcc138 hce138
                                                              have HR138_0 := Aside0.mk hi138_0
                                                              have HC138_0 := Aside0.mk hl138_0
                                                              clear hi138_0 hl138_0
                                                              replace p138 := eq_true p138
                                                              replace q138 := eq_true q138
                                                              have ea_ := Option.some.inj (hx134_0.symm.trans hx138_0)
                                                              injection ea_ with ea_ en_ ec_
                                                              subst ea_
                                                              subst ec_
                                                              clear en_
                                                              have p139 : 0 ≤ (x22_6 : Int) := of_decide_eq_true (by first | (with_reducible assumption) | assumption)
                                                              have q139 : x22_6 < ((rd_L1 t121 x21_5).length : Int) := of_decide_eq_true (by first | (with_reducible assumption) | assumption)
                                                              obtain ⟨ad139, e139, hx139_0⟩ := Kd.at_int (by repeat (first | (with_reducible exact HR138_0.out) | (with_reducible refine Kd.C_alloc ?_ _) | (with_reducible refine Kd.C_drewN ?_ _) | (with_reducible refine Kd.C_drew ?_) | exact HR138_0.out)) x22_6 p139 q139
                                                              cases e139
                                                              replace p139 := eq_true p139
                                                              replace q139 := eq_true q139
                                                              have p140 : 0 ≤ (x21_5 : Int) := of_decide_eq_true (by first | (with_reducible assumption) | assumption)
                                                              have q140 : x21_5 < (t125.length : Int) := of_decide_eq_true (by first | (with_reducible assumption) | assumption)
                                                              obtain ⟨ad140, A140_0, c140_0, e140, hx140_0, hl140_0, hi140_0⟩ := at_L1 (Kd.S_reads' HO_17.out).2.2 x21_5 p140 q140
                                                              obtain rfl : ad135 = ad140 := (by injection e140)
                                                              obtain ⟨ce140, hce140, hMe140, hcc140⟩ := Kd.S_get HO_17.out [] x21_5 p140 (by first | exact q140 | exact of_decide_eq_true (by first | (with_reducible assumption) | assumption) | (have e_ := (Kd.S_reads' HO_17.out).1; omega))
                                                              obtain ⟨ve140_0, rfl, ge140_0⟩ := hMe140
                                                              have hv140_0 := hcc140 0 _ rfl
                                                              rw [Nat.add_zero, show ((Kd.slice 5 (Kd.int .u8))).sz = 1 from rfl, Nat.mul_one] at hv140_0
                                                              replace hv140_0 := Option.some.inj (hv140_0.symm.trans hx140_0)
                                                              rw [hv140_0] at ge140_0
                                                              have HL140_0 := Aside0.mk (show Kd.R (Kd.int .u8) 5 _ _ _ _ (rd_L1 t125 x21_5) from ge140_0)
                                                              clear hv140_0 ge140_0
                                                              clear hcc140 hce140
                                                              have HR140_0 := Aside0.mk hi140_0
                                                              have HC140_0 := Aside0.mk hl140_0
                                                              clear hi140_0 hl140_0
                                                              replace p140 := eq_true p140
                                                              replace q140 := eq_true q140
                                                              have ea_ := Option.some.inj (hx135_0.symm.trans hx140_0)
                                                              injection ea_ with ea_ en_ ec_
                                                              subst ea_
                                                              subst ec_
                                                              clear en_
                                                              have p141 : 0 ≤ (x22_6 : Int) := of_decide_eq_true (by first | (with_reducible assumption) | assumption)
                                                              have q141 : x22_6 < ((rd_L1 t125 x21_5).length : Int) := of_decide_eq_true (by first | (with_reducible assumption) | assumption)
                                                              obtain ⟨ad141, e141, hx141_0⟩ := Kd.at_int (by repeat (first | (with_reducible exact HR140_0.out) | (with_reducible refine Kd.C_alloc ?_ _) | (with_reducible refine Kd.C_drewN ?_ _) | (with_reducible refine Kd.C_drew ?_) | exact HR140_0.out)) x22_6 p141 q141
                                                              cases e141
                                                              replace p141 := eq_true p141
                                                              replace q141 := eq_true q141
                                                              refine start_ (n := 41) (S := fun w' => w'.cell? (ad134.add (x21_5).toNat) = some (.slice (some ad139) (rd_L1 t121 x21_5).length c134_0) ∧ w'.cell? (ad135.add (x21_5).toNat) = some (.slice (some ad141) (rd_L1 t125 x21_5).length c135_0) ∧ w'.cell? (ad133.add (x21_5).toNat) = some (.slice (some ad137) (rd_L1 t129 x21_5).length c136_0) ∧ w'.cell? (ad137.add (x22_6).toNat) = some (.int .u8 (rd (rd_L1 t129 x21_5) x22_6)) ∧ w'.cell? (ad134.add (x21_5).toNat) = some (.slice (some ad139) (rd_L1 t121 x21_5).length c134_0) ∧ w'.cell? (ad139.add (x22_6).toNat) = some (.int .u8 (rd (rd_L1 t121 x21_5) x22_6)) ∧ w'.cell? (ad135.add (x21_5).toNat) = some (.slice (some ad141) (rd_L1 t125 x21_5).length c135_0) ∧ w'.cell? (ad141.add (x22_6).toNat) = some (.int .u8 (rd (rd_L1 t125 x21_5) x22_6))) (ds := []) #[false, false, false, false, false, false, false, false, false, false, false, false, false, false, false, false, false, false, false, false, false, false, false, false, false, false, false, false, false, false, false, false, false, false, false, false, false, false, false, false, false] (by kernel_rfl) rfl rfl ⟨hx134_0, hx135_0, hx136_0, hx137_0, hx138_0, hx139_0, hx140_0, hx141_0⟩ (fun hHeld => ?_); refine with_tabW quartermasterlaw03_RsSums.tab28 quartermasterlaw03_RsSums.bits28 (fun HT_ HW_ => ?_)
                                                              generalize wr.drew = w95 at HO_15 HO_17 HO_19 HL133_0 HR133_0 HB HL134_0 HL135_0 HL136_0 HL138_0 HL140_0 HR134_0 HR135_0 HR136_0 HR138_0 HR140_0 hx134_0 hx135_0 hx136_0 hx137_0 hx138_0 hx139_0 hx140_0 hx141_0 hHeld ⊢
                                                              refine pure_ (i := 0) (N := some 180) (v := ?_) (a' := ?_) #[true, false, false, false, false, false, false, false, false, false, false, false, false, false, false, false, false, false, false, false, false, false, false, false, false, false, false, false, false, false, false, false, false, false, false, false, false, false, false, false, false] rfl rfl (any_of HT_.out (by kernel_rfl)) (fun _ _ _ h => h) (Or.inl ⟨by rfl, ?_⟩) ?_ ?_
                                                              rotate_left
                                                              · intro w'
                                                                go_simp
                                                                with_reducible rfl
                                                              rotate_left
                                                              · simp only [Act.put, List.setIfInBounds_toArray, List.set_cons_zero, List.set_cons_succ, i64_w, i32_w]
                                                                rfl
                                                              refine pure_ (i := 1) (N := some 181) (v := ?_) (a' := ?_) #[true, true, false, false, false, false, false, false, false, false, false, false, false, false, false, false, false, false, false, false, false, false, false, false, false, false, false, false, false, false, false, false, false, false, false, false, false, false, false, false, false] rfl rfl (any_of HT_.out (by kernel_rfl)) (fun _ _ _ h => h) (Or.inl ⟨by rfl, ?_⟩) ?_ ?_
                                                              rotate_left
                                                              · intro w'
                                                                go_simp
                                                                with_reducible rfl
                                                              rotate_left
                                                              · simp only [Act.put, List.setIfInBounds_toArray, List.set_cons_zero, List.set_cons_succ, i64_w, i32_w]
                                                                rfl
                                                              refine pure_ (i := 2) (N := some 182) (v := ?_) (a' := ?_) #[true, true, true, false, false, false, false, false, false, false, false, false, false, false, false, false, false, false, false, false, false, false, false, false, false, false, false, false, false, false, false, false, false, false, false, false, false, false, false, false, false] rfl rfl (any_of HT_.out (by kernel_rfl)) (fun _ _ _ h => h) (Or.inl ⟨by rfl, ?_⟩) ?_ ?_
                                                              rotate_left
                                                              · intro w'
                                                                go_simp
                                                                with_reducible rfl
                                                              rotate_left
                                                              · simp only [Act.put, List.setIfInBounds_toArray, List.set_cons_zero, List.set_cons_succ, i64_w, i32_w]
                                                                rfl
                                                              refine pure_ (i := 3) (N := some 183) (v := ?_) (a' := ?_) #[true, true, true, true, false, false, false, false, false, false, false, false, false, false, false, false, false, false, false, false, false, false, false, false, false, false, false, false, false, false, false, false, false, false, false, false, false, false, false, false, false] rfl rfl (any_of HT_.out (by kernel_rfl)) (fun _ _ _ h => h) (Or.inl ⟨by rfl, ?_⟩) ?_ ?_
                                                              rotate_left
                                                              · intro w'
                                                                go_simp
                                                                with_reducible rfl
                                                              rotate_left
                                                              · simp only [Act.put, List.setIfInBounds_toArray, List.set_cons_zero, List.set_cons_succ, i64_w, i32_w]
                                                                rfl
                                                              refine take_ (i := 4) (N := some 184) (v := ?_) (a' := ?_) #[true, true, true, true, true, false, false, false, false, false, false, false, false, false, false, false, false, false, false, false, false, false, false, false, false, false, false, false, false, false, false, false, false, false, false, false, false, false, false, false, false] rfl rfl (take_ofW HT_.out HW_.out (by kernel_rfl)) (fun _ _ _ h => h) (Or.inl ⟨by rfl, ?_⟩) hHeld ?_ ?_
                                                              rotate_left
                                                              · rintro w' ⟨s0, s1, s2, s3, s4, s5, s6, s7⟩
                                                                go_simp
                                                                with_reducible rfl
                                                              rotate_left
                                                              · simp only [Act.put, List.setIfInBounds_toArray, List.set_cons_zero, List.set_cons_succ, i64_w, i32_w]
                                                                rfl
                                                              refine pure_ (i := 5) (N := some 185) (v := ?_) (a' := ?_) #[true, true, true, true, true, true, false, false, false, false, false, false, false, false, false, false, false, false, false, false, false, false, false, false, false, false, false, false, false, false, false, false, false, false, false, false, false, false, false, false, false] rfl rfl (any_of HT_.out (by kernel_rfl)) (fun _ _ _ h => h) (Or.inl ⟨by rfl, ?_⟩) ?_ ?_
                                                              rotate_left
                                                              · intro w'
                                                                go_simp
                                                                with_reducible rfl
                                                              rotate_left
                                                              · simp only [Act.put, List.setIfInBounds_toArray, List.set_cons_zero, List.set_cons_succ, i64_w, i32_w]
                                                                rfl
                                                              refine pure_ (i := 6) (N := some 186) (v := ?_) (a' := ?_) #[true, true, true, true, true, true, true, false, false, false, false, false, false, false, false, false, false, false, false, false, false, false, false, false, false, false, false, false, false, false, false, false, false, false, false, false, false, false, false, false, false] rfl rfl (any_of HT_.out (by kernel_rfl)) (fun _ _ _ h => h) (Or.inl ⟨by rfl, ?_⟩) ?_ ?_
                                                              rotate_left
                                                              · intro w'
                                                                go_simp
                                                                with_reducible rfl
                                                              rotate_left
                                                              · simp only [Act.put, List.setIfInBounds_toArray, List.set_cons_zero, List.set_cons_succ, i64_w, i32_w]
                                                                rfl
                                                              refine pure_ (i := 7) (N := some 187) (v := ?_) (a' := ?_) #[true, true, true, true, true, true, true, true, false, false, false, false, false, false, false, false, false, false, false, false, false, false, false, false, false, false, false, false, false, false, false, false, false, false, false, false, false, false, false, false, false] rfl rfl (any_of HT_.out (by kernel_rfl)) (fun _ _ _ h => h) (Or.inl ⟨by rfl, ?_⟩) ?_ ?_
                                                              rotate_left
                                                              · intro w'
                                                                go_simp
                                                                with_reducible rfl
                                                              rotate_left
                                                              · simp only [Act.put, List.setIfInBounds_toArray, List.set_cons_zero, List.set_cons_succ, i64_w, i32_w]
                                                                rfl
                                                              refine pure_ (i := 8) (N := some 188) (v := ?_) (a' := ?_) #[true, true, true, true, true, true, true, true, true, false, false, false, false, false, false, false, false, false, false, false, false, false, false, false, false, false, false, false, false, false, false, false, false, false, false, false, false, false, false, false, false] rfl rfl (any_of HT_.out (by kernel_rfl)) (fun _ _ _ h => h) (Or.inl ⟨by rfl, ?_⟩) ?_ ?_
                                                              rotate_left
                                                              · intro w'
                                                                go_simp
                                                                with_reducible rfl
                                                              rotate_left
                                                              · simp only [Act.put, List.setIfInBounds_toArray, List.set_cons_zero, List.set_cons_succ, i64_w, i32_w]
                                                                rfl
                                                              refine pure_ (i := 9) (N := some 189) (v := ?_) (a' := ?_) #[true, true, true, true, true, true, true, true, true, true, false, false, false, false, false, false, false, false, false, false, false, false, false, false, false, false, false, false, false, false, false, false, false, false, false, false, false, false, false, false, false] rfl rfl (any_of HT_.out (by kernel_rfl)) (fun _ _ _ h => h) (Or.inl ⟨by rfl, ?_⟩) ?_ ?_
                                                              rotate_left
                                                              · intro w'
                                                                go_simp
                                                                with_reducible rfl
                                                              rotate_left
                                                              · simp only [Act.put, List.setIfInBounds_toArray, List.set_cons_zero, List.set_cons_succ, i64_w, i32_w]
                                                                rfl
                                                              refine pure_ (i := 10) (N := some 190) (v := ?_) (a' := ?_) #[true, true, true, true, true, true, true, true, true, true, true, false, false, false, false, false, false, false, false, false, false, false, false, false, false, false, false, false, false, false, false, false, false, false, false, false, false, false, false, false, false] rfl rfl (any_of HT_.out (by kernel_rfl)) (fun _ _ _ h => h) (Or.inl ⟨by rfl, ?_⟩) ?_ ?_
                                                              rotate_left
                                                              · intro w'
                                                                go_simp
                                                                with_reducible rfl
                                                              rotate_left
                                                              · simp only [Act.put, List.setIfInBounds_toArray, List.set_cons_zero, List.set_cons_succ, i64_w, i32_w]
                                                                rfl
                                                              refine pure_ (i := 11) (N := some 191) (v := ?_) (a' := ?_) #[true, true, true, true, true, true, true, true, true, true, true, true, false, false, false, false, false, false, false, false, false, false, false, false, false, false, false, false, false, false, false, false, false, false, false, false, false, false, false, false, false] rfl rfl (any_of HT_.out (by kernel_rfl)) (fun _ _ _ h => h) (Or.inl ⟨by rfl, ?_⟩) ?_ ?_
                                                              rotate_left
                                                              · intro w'
                                                                go_simp
                                                                with_reducible rfl
                                                              rotate_left
                                                              · simp only [Act.put, List.setIfInBounds_toArray, List.set_cons_zero, List.set_cons_succ, i64_w, i32_w]
                                                                rfl
                                                              refine take_ (i := 12) (N := some 192) (v := ?_) (a' := ?_) #[true, true, true, true, true, true, true, true, true, true, true, true, true, false, false, false, false, false, false, false, false, false, false, false, false, false, false, false, false, false, false, false, false, false, false, false, false, false, false, false, false] rfl rfl (take_ofW HT_.out HW_.out (by kernel_rfl)) (fun _ _ _ h => h) (Or.inl ⟨by rfl, ?_⟩) hHeld ?_ ?_
                                                              rotate_left
                                                              · rintro w' ⟨s0, s1, s2, s3, s4, s5, s6, s7⟩
                                                                go_simp
                                                                with_reducible rfl
                                                              rotate_left
                                                              · simp only [Act.put, List.setIfInBounds_toArray, List.set_cons_zero, List.set_cons_succ, i64_w, i32_w]
                                                                rfl
                                                              refine pure_ (i := 13) (N := some 193) (v := ?_) (a' := ?_) #[true, true, true, true, true, true, true, true, true, true, true, true, true, true, false, false, false, false, false, false, false, false, false, false, false, false, false, false, false, false, false, false, false, false, false, false, false, false, false, false, false] rfl rfl (any_of HT_.out (by kernel_rfl)) (fun _ _ _ h => h) (Or.inl ⟨by rfl, ?_⟩) ?_ ?_
                                                              rotate_left
                                                              · intro w'
                                                                go_simp
                                                                with_reducible rfl
                                                              rotate_left
                                                              · simp only [Act.put, List.setIfInBounds_toArray, List.set_cons_zero, List.set_cons_succ, i64_w, i32_w]
                                                                rfl
                                                              refine pure_ (i := 14) (N := some 194) (v := ?_) (a' := ?_) #[true, true, true, true, true, true, true, true, true, true, true, true, true, true, true, false, false, false, false, false, false, false, false, false, false, false, false, false, false, false, false, false, false, false, false, false, false, false, false, false, false] rfl rfl (any_of HT_.out (by kernel_rfl)) (fun _ _ _ h => h) (Or.inl ⟨by rfl, ?_⟩) ?_ ?_
                                                              rotate_left
                                                              · intro w'
                                                                go_simp
                                                                with_reducible rfl
                                                              rotate_left
                                                              · simp only [Act.put, List.setIfInBounds_toArray, List.set_cons_zero, List.set_cons_succ, i64_w, i32_w]
                                                                rfl
                                                              refine pure_ (i := 15) (N := some 195) (v := ?_) (a' := ?_) #[true, true, true, true, true, true, true, true, true, true, true, true, true, true, true, true, false, false, false, false, false, false, false, false, false, false, false, false, false, false, false, false, false, false, false, false, false, false, false, false, false] rfl rfl (any_of HT_.out (by kernel_rfl)) (fun _ _ _ h => h) (Or.inl ⟨by rfl, ?_⟩) ?_ ?_
                                                              rotate_left
                                                              · intro w'
                                                                go_simp
                                                                with_reducible rfl
                                                              rotate_left
                                                              · simp only [Act.put, List.setIfInBounds_toArray, List.set_cons_zero, List.set_cons_succ, i64_w, i32_w]
                                                                rfl
                                                              refine pure_ (i := 16) (N := some 196) (v := ?_) (a' := ?_) #[true, true, true, true, true, true, true, true, true, true, true, true, true, true, true, true, true, false, false, false, false, false, false, false, false, false, false, false, false, false, false, false, false, false, false, false, false, false, false, false, false] rfl rfl (any_of HT_.out (by kernel_rfl)) (fun _ _ _ h => h) (Or.inl ⟨by rfl, ?_⟩) ?_ ?_
                                                              rotate_left
                                                              · intro w'
                                                                go_simp
                                                                with_reducible rfl
                                                              rotate_left
                                                              · simp only [Act.put, List.setIfInBounds_toArray, List.set_cons_zero, List.set_cons_succ, i64_w, i32_w]
                                                                rfl
                                                              refine pure_ (i := 17) (N := some 197) (v := ?_) (a' := ?_) #[true, true, true, true, true, true, true, true, true, true, true, true, true, true, true, true, true, true, false, false, false, false, false, false, false, false, false, false, false, false, false, false, false, false, false, false, false, false, false, false, false] rfl rfl (any_of HT_.out (by kernel_rfl)) (fun _ _ _ h => h) (Or.inl ⟨by rfl, ?_⟩) ?_ ?_
                                                              rotate_left
                                                              · intro w'
                                                                go_simp
                                                                with_reducible rfl
                                                              rotate_left
                                                              · simp only [Act.put, List.setIfInBounds_toArray, List.set_cons_zero, List.set_cons_succ, i64_w, i32_w]
                                                                rfl
                                                              refine pure_ (i := 18) (N := some 198) (v := ?_) (a' := ?_) #[true, true, true, true, true, true, true, true, true, true, true, true, true, true, true, true, true, true, true, false, false, false, false, false, false, false, false, false, false, false, false, false, false, false, false, false, false, false, false, false, false] rfl rfl (any_of HT_.out (by kernel_rfl)) (fun _ _ _ h => h) (Or.inl ⟨by rfl, ?_⟩) ?_ ?_
                                                              rotate_left
                                                              · intro w'
                                                                go_simp
                                                                with_reducible rfl
                                                              rotate_left
                                                              · simp only [Act.put, List.setIfInBounds_toArray, List.set_cons_zero, List.set_cons_succ, i64_w, i32_w]
                                                                rfl
                                                              refine pure_ (i := 19) (N := some 199) (v := ?_) (a' := ?_) #[true, true, true, true, true, true, true, true, true, true, true, true, true, true, true, true, true, true, true, true, false, false, false, false, false, false, false, false, false, false, false, false, false, false, false, false, false, false, false, false, false] rfl rfl (any_of HT_.out (by kernel_rfl)) (fun _ _ _ h => h) (Or.inl ⟨by rfl, ?_⟩) ?_ ?_
                                                              rotate_left
                                                              · intro w'
                                                                go_simp
                                                                with_reducible rfl
                                                              rotate_left
                                                              · simp only [Act.put, List.setIfInBounds_toArray, List.set_cons_zero, List.set_cons_succ, i64_w, i32_w]
                                                                rfl
                                                              refine pure_ (i := 21) (N := some 201) (v := ?_) (a' := ?_) #[true, true, true, true, true, true, true, true, true, true, true, true, true, true, true, true, true, true, true, true, false, true, false, false, false, false, false, false, false, false, false, false, false, false, false, false, false, false, false, false, false] rfl rfl (any_of HT_.out (by kernel_rfl)) (fun _ _ _ h => h) (Or.inl ⟨by rfl, ?_⟩) ?_ ?_
                                                              rotate_left
                                                              · intro w'
                                                                go_simp
                                                                with_reducible rfl
                                                              rotate_left
                                                              · simp only [Act.put, List.setIfInBounds_toArray, List.set_cons_zero, List.set_cons_succ, i64_w, i32_w]
                                                                rfl
                                                              refine pure_ (i := 24) (N := some 204) (v := ?_) (a' := ?_) #[true, true, true, true, true, true, true, true, true, true, true, true, true, true, true, true, true, true, true, true, false, true, false, false, true, false, false, false, false, false, false, false, false, false, false, false, false, false, false, false, false] rfl rfl (any_of HT_.out (by kernel_rfl)) (fun _ _ _ h => h) (Or.inl ⟨by rfl, ?_⟩) ?_ ?_
                                                              rotate_left
                                                              · intro w'
                                                                go_simp
                                                                with_reducible rfl
                                                              rotate_left
                                                              · simp only [Act.put, List.setIfInBounds_toArray, List.set_cons_zero, List.set_cons_succ, i64_w, i32_w]
                                                                rfl
                                                              refine pure_ (i := 25) (N := some 205) (v := ?_) (a' := ?_) #[true, true, true, true, true, true, true, true, true, true, true, true, true, true, true, true, true, true, true, true, false, true, false, false, true, true, false, false, false, false, false, false, false, false, false, false, false, false, false, false, false] rfl rfl (any_of HT_.out (by kernel_rfl)) (fun _ _ _ h => h) (Or.inl ⟨by rfl, ?_⟩) ?_ ?_
                                                              rotate_left
                                                              · intro w'
                                                                go_simp
                                                                with_reducible rfl
                                                              rotate_left
                                                              · simp only [Act.put, List.setIfInBounds_toArray, List.set_cons_zero, List.set_cons_succ, i64_w, i32_w]
                                                                rfl
                                                              refine pure_ (i := 26) (N := some 206) (v := ?_) (a' := ?_) #[true, true, true, true, true, true, true, true, true, true, true, true, true, true, true, true, true, true, true, true, false, true, false, false, true, true, true, false, false, false, false, false, false, false, false, false, false, false, false, false, false] rfl rfl (any_of HT_.out (by kernel_rfl)) (fun _ _ _ h => h) (Or.inl ⟨by rfl, ?_⟩) ?_ ?_
                                                              rotate_left
                                                              · intro w'
                                                                go_simp
                                                                with_reducible rfl
                                                              rotate_left
                                                              · simp only [Act.put, List.setIfInBounds_toArray, List.set_cons_zero, List.set_cons_succ, i64_w, i32_w]
                                                                rfl
                                                              refine pure_ (i := 28) (N := some 208) (v := ?_) (a' := ?_) #[true, true, true, true, true, true, true, true, true, true, true, true, true, true, true, true, true, true, true, true, false, true, false, false, true, true, true, false, true, false, false, false, false, false, false, false, false, false, false, false, false] rfl rfl (any_of HT_.out (by kernel_rfl)) (fun _ _ _ h => h) (Or.inl ⟨by rfl, ?_⟩) ?_ ?_
                                                              rotate_left
                                                              · intro w'
                                                                go_simp
                                                                with_reducible rfl
                                                              rotate_left
                                                              · simp only [Act.put, List.setIfInBounds_toArray, List.set_cons_zero, List.set_cons_succ, i64_w, i32_w]
                                                                rfl
                                                              refine pure_ (i := 31) (N := some 211) (v := ?_) (a' := ?_) #[true, true, true, true, true, true, true, true, true, true, true, true, true, true, true, true, true, true, true, true, false, true, false, false, true, true, true, false, true, false, false, true, false, false, false, false, false, false, false, false, false] rfl rfl (any_of HT_.out (by kernel_rfl)) (fun _ _ _ h => h) (Or.inl ⟨by rfl, ?_⟩) ?_ ?_
                                                              rotate_left
                                                              · intro w'
                                                                go_simp
                                                                with_reducible rfl
                                                              rotate_left
                                                              · simp only [Act.put, List.setIfInBounds_toArray, List.set_cons_zero, List.set_cons_succ, i64_w, i32_w]
                                                                rfl
                                                              refine pure_ (i := 32) (N := some 212) (v := ?_) (a' := ?_) #[true, true, true, true, true, true, true, true, true, true, true, true, true, true, true, true, true, true, true, true, false, true, false, false, true, true, true, false, true, false, false, true, true, false, false, false, false, false, false, false, false] rfl rfl (any_of HT_.out (by kernel_rfl)) (fun _ _ _ h => h) (Or.inl ⟨by rfl, ?_⟩) ?_ ?_
                                                              rotate_left
                                                              · intro w'
                                                                go_simp
                                                                with_reducible rfl
                                                              rotate_left
                                                              · simp only [Act.put, List.setIfInBounds_toArray, List.set_cons_zero, List.set_cons_succ, i64_w, i32_w]
                                                                rfl
                                                              refine pure_ (i := 33) (N := some 213) (v := ?_) (a' := ?_) #[true, true, true, true, true, true, true, true, true, true, true, true, true, true, true, true, true, true, true, true, false, true, false, false, true, true, true, false, true, false, false, true, true, true, false, false, false, false, false, false, false] rfl rfl (any_of HT_.out (by kernel_rfl)) (fun _ _ _ h => h) (Or.inl ⟨by rfl, ?_⟩) ?_ ?_
                                                              rotate_left
                                                              · intro w'
                                                                go_simp
                                                                with_reducible rfl
                                                              rotate_left
                                                              · simp only [Act.put, List.setIfInBounds_toArray, List.set_cons_zero, List.set_cons_succ, i64_w, i32_w]
                                                                rfl
                                                              refine pure_ (i := 35) (N := some 215) (v := ?_) (a' := ?_) #[true, true, true, true, true, true, true, true, true, true, true, true, true, true, true, true, true, true, true, true, false, true, false, false, true, true, true, false, true, false, false, true, true, true, false, true, false, false, false, false, false] rfl rfl (any_of HT_.out (by kernel_rfl)) (fun _ _ _ h => h) (Or.inl ⟨by rfl, ?_⟩) ?_ ?_
                                                              rotate_left
                                                              · intro w'
                                                                go_simp
                                                                with_reducible rfl
                                                              rotate_left
                                                              · simp only [Act.put, List.setIfInBounds_toArray, List.set_cons_zero, List.set_cons_succ, i64_w, i32_w]
                                                                rfl
                                                              refine take_ (i := 20) (N := some 200) (v := ?_) (a' := ?_) #[true, true, true, true, true, true, true, true, true, true, true, true, true, true, true, true, true, true, true, true, true, true, false, false, true, true, true, false, true, false, false, true, true, true, false, true, false, false, false, false, false] rfl rfl (take_ofW HT_.out HW_.out (by kernel_rfl)) (fun _ _ _ h => h) (Or.inl ⟨by rfl, ?_⟩) hHeld ?_ ?_
                                                              rotate_left
                                                              · rintro w' ⟨s0, s1, s2, s3, s4, s5, s6, s7⟩
                                                                go_simp
                                                                with_reducible rfl
                                                              rotate_left
                                                              · simp only [Act.put, List.setIfInBounds_toArray, List.set_cons_zero, List.set_cons_succ, i64_w, i32_w]
                                                                rfl
                                                              refine pure_ (i := 22) (N := some 202) (v := ?_) (a' := ?_) #[true, true, true, true, true, true, true, true, true, true, true, true, true, true, true, true, true, true, true, true, true, true, true, false, true, true, true, false, true, false, false, true, true, true, false, true, false, false, false, false, false] rfl rfl (any_of HT_.out (by kernel_rfl)) (fun _ _ _ h => h) (Or.inl ⟨by rfl, ?_⟩) ?_ ?_
                                                              rotate_left
                                                              · intro w'
                                                                go_simp
                                                                with_reducible rfl
                                                              rotate_left
                                                              · simp only [Act.put, List.setIfInBounds_toArray, List.set_cons_zero, List.set_cons_succ, i64_w, i32_w]
                                                                rfl
                                                              refine take_ (i := 23) (N := some 203) (v := ?_) (a' := ?_) #[true, true, true, true, true, true, true, true, true, true, true, true, true, true, true, true, true, true, true, true, true, true, true, true, true, true, true, false, true, false, false, true, true, true, false, true, false, false, false, false, false] rfl rfl (take_ofW HT_.out HW_.out (by kernel_rfl)) (fun _ _ _ h => h) (Or.inl ⟨by rfl, ?_⟩) hHeld ?_ ?_
                                                              rotate_left
                                                              · rintro w' ⟨s0, s1, s2, s3, s4, s5, s6, s7⟩
                                                                go_simp
                                                                with_reducible rfl
                                                              rotate_left
                                                              · simp only [Act.put, List.setIfInBounds_toArray, List.set_cons_zero, List.set_cons_succ, i64_w, i32_w]
                                                                rfl
                                                              refine take_ (i := 27) (N := some 207) (v := ?_) (a' := ?_) #[true, true, true, true, true, true, true, true, true, true, true, true, true, true, true, true, true, true, true, true, true, true, true, true, true, true, true, true, true, false, false, true, true, true, false, true, false, false, false, false, false] rfl rfl (take_ofW HT_.out HW_.out (by kernel_rfl)) (fun _ _ _ h => h) (Or.inl ⟨by rfl, ?_⟩) hHeld ?_ ?_
                                                              rotate_left
                                                              · rintro w' ⟨s0, s1, s2, s3, s4, s5, s6, s7⟩
                                                                go_simp
                                                                with_reducible rfl
                                                              rotate_left
                                                              · simp only [Act.put, List.setIfInBounds_toArray, List.set_cons_zero, List.set_cons_succ, i64_w, i32_w]
                                                                rfl
                                                              refine pure_ (i := 29) (N := some 209) (v := ?_) (a' := ?_) #[true, true, true, true, true, true, true, true, true, true, true, true, true, true, true, true, true, true, true, true, true, true, true, true, true, true, true, true, true, true, false, true, true, true, false, true, false, false, false, false, false] rfl rfl (any_of HT_.out (by kernel_rfl)) (fun _ _ _ h => h) (Or.inl ⟨by rfl, ?_⟩) ?_ ?_
                                                              rotate_left
                                                              · intro w'
                                                                go_simp
                                                                with_reducible rfl
                                                              rotate_left
                                                              · simp only [Act.put, List.setIfInBounds_toArray, List.set_cons_zero, List.set_cons_succ, i64_w, i32_w]
                                                                rfl
                                                              refine take_ (i := 30) (N := some 210) (v := ?_) (a' := ?_) #[true, true, true, true, true, true, true, true, true, true, true, true, true, true, true, true, true, true, true, true, true, true, true, true, true, true, true, true, true, true, true, true, true, true, false, true, false, false, false, false, false] rfl rfl (take_ofW HT_.out HW_.out (by kernel_rfl)) (fun _ _ _ h => h) (Or.inl ⟨by rfl, ?_⟩) hHeld ?_ ?_
                                                              rotate_left
                                                              · rintro w' ⟨s0, s1, s2, s3, s4, s5, s6, s7⟩
                                                                go_simp
                                                                with_reducible rfl
                                                              rotate_left
                                                              · simp only [Act.put, List.setIfInBounds_toArray, List.set_cons_zero, List.set_cons_succ, i64_w, i32_w]
                                                                rfl
                                                              refine take_ (i := 34) (N := some 214) (v := ?_) (a' := ?_) #[true, true, true, true, true, true, true, true, true, true, true, true, true, true, true, true, true, true, true, true, true, true, true, true, true, true, true, true, true, true, true, true, true, true, true, true, false, false, false, false, false] rfl rfl (take_ofW HT_.out HW_.out (by kernel_rfl)) (fun _ _ _ h => h) (Or.inl ⟨by rfl, ?_⟩) hHeld ?_ ?_
                                                              rotate_left
                                                              · rintro w' ⟨s0, s1, s2, s3, s4, s5, s6, s7⟩
                                                                go_simp
                                                                with_reducible rfl
                                                              rotate_left
                                                              · simp only [Act.put, List.setIfInBounds_toArray, List.set_cons_zero, List.set_cons_succ, i64_w, i32_w]
                                                                rfl
                                                              refine pure_ (i := 36) (N := some 216) (v := ?_) (a' := ?_) #[true, true, true, true, true, true, true, true, true, true, true, true, true, true, true, true, true, true, true, true, true, true, true, true, true, true, true, true, true, true, true, true, true, true, true, true, true, false, false, false, false] rfl rfl (any_of HT_.out (by kernel_rfl)) (fun _ _ _ h => h) (Or.inl ⟨by rfl, ?_⟩) ?_ ?_
                                                              rotate_left
                                                              · intro w'
                                                                go_simp
                                                                with_reducible rfl
                                                              rotate_left
                                                              · simp only [Act.put, List.setIfInBounds_toArray, List.set_cons_zero, List.set_cons_succ, i64_w, i32_w]
                                                                rfl
                                                              refine take_ (i := 37) (N := some 217) (v := ?_) (a' := ?_) #[true, true, true, true, true, true, true, true, true, true, true, true, true, true, true, true, true, true, true, true, true, true, true, true, true, true, true, true, true, true, true, true, true, true, true, true, true, true, false, false, false] rfl rfl (take_ofW HT_.out HW_.out (by kernel_rfl)) (fun _ _ _ h => h) (Or.inl ⟨by rfl, ?_⟩) hHeld ?_ ?_
                                                              rotate_left
                                                              · rintro w' ⟨s0, s1, s2, s3, s4, s5, s6, s7⟩
                                                                go_simp
                                                                with_reducible rfl
                                                              rotate_left
                                                              · simp only [Act.put, List.setIfInBounds_toArray, List.set_cons_zero, List.set_cons_succ, i64_w, i32_w]
                                                                rfl
                                                              refine one_ (i := 38) (N := some 218) #[true, true, true, true, true, true, true, true, true, true, true, true, true, true, true, true, true, true, true, true, true, true, true, true, true, true, true, true, true, true, true, true, true, true, true, true, true, true, true, false, false] rfl rfl (one_of HT_.out (by kernel_rfl)) (by decide) (fun K hK => ?_)
                                                              refine goes_ Try.func35 (by kernel_rfl) rfl #[.int .u8 (rd (rd_L1 t121 x21_5) x22_6), .int .u8 (rd (rd_L1 t125 x21_5) x22_6)] (by rfl) rfl rfl (by (try simp only [List.map_toArray, List.map_cons, List.map_nil]); first | done | rfl | (simp only [List.length_drop, List.length_take]; rfl)) ?_
                                                              with_reducible refine (quartermasterref01_Add.calls k6 (rd (rd_L1 t121 x21_5) x22_6) (rd (rd_L1 t125 x21_5) x22_6) t142 _ A92.out).mono ?_
                                                              rintro e w' ⟨rfl, ⟨nd, rfl⟩⟩
                                                              refine ⟨_, rfl, ?_⟩
                                                              refine hK.out _ _ ⟨hHeld.1, hHeld.2.1, hHeld.2.2.1, hHeld.2.2.2.1, hHeld.2.2.2.2.1, hHeld.2.2.2.2.2.1, hHeld.2.2.2.2.2.2.1, hHeld.2.2.2.2.2.2.2⟩ (fun hHeld => ?_)
                                                              clear hK K
                                                              refine norm_ (a' := ?_) ?_ ?_
                                                              rotate_left
                                                              · show Act.put _ (some 218) _ = _
                                                                simp only [Act.put, List.setIfInBounds_toArray, List.set_cons_zero, List.set_cons_succ, i64_w, i32_w]
                                                                rfl
                                                              refine pure_ (i := 39) (N := some 219) (v := ?_) (a' := ?_) #[true, true, true, true, true, true, true, true, true, true, true, true, true, true, true, true, true, true, true, true, true, true, true, true, true, true, true, true, true, true, true, true, true, true, true, true, true, true, true, true, false] rfl rfl (any_of HT_.out (by kernel_rfl)) (fun _ _ _ h => h) (Or.inl ⟨by rfl, ?_⟩) ?_ ?_
                                                              rotate_left
                                                              · intro w'
                                                                go_simp
                                                                with_reducible rfl
                                                              rotate_left
                                                              · simp only [Act.put, List.setIfInBounds_toArray, List.set_cons_zero, List.set_cons_succ, i64_w, i32_w]
                                                                rfl
                                                              refine pure_ (i := 40) (N := some 220) (v := ?_) (a' := ?_) #[true, true, true, true, true, true, true, true, true, true, true, true, true, true, true, true, true, true, true, true, true, true, true, true, true, true, true, true, true, true, true, true, true, true, true, true, true, true, true, true, true] rfl rfl (any_of HT_.out (by kernel_rfl)) (fun _ _ _ h => h) (Or.inl ⟨by rfl, ?_⟩) ?_ ?_
                                                              rotate_left
                                                              · intro w'
                                                                go_simp
                                                                with_reducible rfl
                                                              rotate_left
                                                              · simp only [Act.put, List.setIfInBounds_toArray, List.set_cons_zero, List.set_cons_succ, i64_w, i32_w]
                                                                rfl
                                                              refine done_ (done_of HT_.out (by kernel_rfl)) ?_
                                                              try go_wp2
                                                              go_roundg k6
                                                              case measure => have := HJ6.out; have := HJ11.out; have := HK3.out; have := HJ56.out; have := HK5.out; have := HK6.out; omega
                                                              case rel => exact ⟨(wrap64 (x22_6 + 1)), (by first | rfl | (simp; done) | (simp [*]; done)), H', ⟨by have := HJ6.out; have := HJ11.out; have := HK3.out; have := HJ56.out; have := HK5.out; have := HK6.out; omega⟩, ⟨by (with_reducible repeat (first | apply Kd.S_alloc | apply Kd.S_drewN | apply Kd.S_drew)); exact HO_15.out⟩, ⟨by (with_reducible repeat (first | apply Kd.S_alloc | apply Kd.S_drewN | apply Kd.S_drew)); exact HO_17.out⟩, ⟨by (with_reducible repeat (first | apply Kd.S_alloc | apply Kd.S_drewN | apply Kd.S_drew)); exact HO_19.out⟩, ⟨by repeat (first | (with_reducible first | exact HB.out | apply below_alloc | apply pw_below_drewN | apply below_drew1) | exact HB.out)⟩⟩
                                                            · rw [if_neg c93] at H
                                                              exact absurd H (by simp)
                                                          · rw [if_neg c91] at H
                                                            exact absurd H (by simp)
                                                        · rw [if_neg c90] at H
                                                          exact absurd H (by simp)
                                                      · rw [if_neg c89] at H
                                                        exact absurd H (by simp)
                                                  · rw [if_neg c83] at H
                                                    exact absurd H (by simp)
                                              · rw [if_neg c78] at H
                                                exact absurd H (by simp)
                                            · rw [if_neg c77] at H
                                              have c77b0 : decide (x22_6 < ((rd_L1 t129 x21_5).length : Int)) = false := decide_eq_false c77
                                              clear c77
                                              have H' := Aside0.mk H
                                              clear H
                                              obtain ⟨Ao102, co102, eo102⟩ := Kd.S_slice HO_19.out
                                              subst eo102
                                              have p133 : 0 ≤ (x21_5 : Int) := of_decide_eq_true (by first | (with_reducible assumption) | assumption)
                                              have q133 : x21_5 < (t129.length : Int) := of_decide_eq_true (by first | (with_reducible assumption) | assumption)
                                              obtain ⟨ad133, A133_0, c133_0, e133, hx133_0, hl133_0, hi133_0⟩ := at_L1 (Kd.S_reads' HO_19.out).2.2 x21_5 p133 q133
                                              cases e133
                                              obtain ⟨ce133, hce133, hMe133, hcc133⟩ := Kd.S_get HO_19.out [] x21_5 p133 (by first | exact q133 | exact of_decide_eq_true (by first | (with_reducible assumption) | assumption) | (have e_ := (Kd.S_reads' HO_19.out).1; omega))
                                              obtain ⟨ve133_0, rfl, ge133_0⟩ := hMe133
                                              have hv133_0 := hcc133 0 _ rfl
                                              rw [Nat.add_zero, show ((Kd.slice 5 (Kd.int .u8))).sz = 1 from rfl, Nat.mul_one] at hv133_0
                                              replace hv133_0 := Option.some.inj (hv133_0.symm.trans hx133_0)
                                              rw [hv133_0] at ge133_0
                                              have HL133_0 := Aside0.mk (show Kd.R (Kd.int .u8) 5 _ _ _ _ (rd_L1 t129 x21_5) from ge133_0)
                                              clear hv133_0 ge133_0
                                              clear hcc133 hce133
                                              have HR133_0 := Aside0.mk hi133_0
                                              have HC133_0 := Aside0.mk hl133_0
                                              clear hi133_0 hl133_0
                                              replace p133 := eq_true p133
                                              replace q133 := eq_true q133
                                              go_wp2
                                              go_roundg k6
                                              case measure => have := HJ6.out; have := HJ11.out; have := HK3.out; have := HJ56.out; have := HK5.out; have := HK6.out; omega
                                              case rel => exact ⟨(wrap64 (x21_5 + 1)), (by first | rfl | (simp; done) | (simp [*]; done)), H', ⟨by have := HJ6.out; have := HJ11.out; have := HK3.out; have := HJ56.out; have := HK5.out; have := HK6.out; omega⟩, ⟨by (with_reducible repeat (first | apply Kd.S_alloc | apply Kd.S_drewN | apply Kd.S_drew)); exact HO_15.out⟩, ⟨by (with_reducible repeat (first | apply Kd.S_alloc | apply Kd.S_drewN | apply Kd.S_drew)); exact HO_17.out⟩, ⟨by (with_reducible repeat (first | apply Kd.S_alloc | apply Kd.S_drewN | apply Kd.S_drew)); exact HO_19.out⟩, ⟨by repeat (first | (with_reducible first | exact HB.out | apply below_alloc | apply pw_below_drewN | apply below_drew1) | exact HB.out)⟩⟩
                                          · rw [if_neg c76] at H
                                            exact absurd H (by simp)
                                        · rw [if_neg c75] at H
                                          exact absurd H (by simp)
                                 · rw [if_neg c74] at H
                                   have c74b0 : decide (x21_5 < a2) = false := decide_eq_false c74
                                   clear c74
                                   obtain rfl := Option.some.inj H
                                   go_wp2
                                   go_ret
                                   exact ⟨by first | rfl | (simp [errW_none, errW_some] <;> rfl) | (simp [*, errW_none, errW_some] <;> rfl), by repeat (first | (with_reducible first | exact HB.out | apply below_alloc | apply pw_below_drewN | apply below_drew1) | exact HB.out)⟩

end Go.Proofs.Ythblmkailhdhlaa.XS
