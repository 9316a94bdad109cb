-- PRINTED by print.py (a twelfth state) out of the translation. Not trusted: Lean checks it.
import Derived.Test.YthblmkailhdhlaaXE0
namespace Go.Proofs.Ythblmkailhdhlaa.XE
open Go.Proofs.Ythblmkailhdhlaa.G Go.Proofs.Ythblmkailhdhlaa.P Go.Proofs.Ythblmkailhdhlaa.Given Go.Proofs.Ythblmkailhdhlaa.T Go.RowKit Go.Proofs.YthblmkailhdhlaaW.PrintWords Go.Proofs.YthblmkailhdhlaaW.PrintLast Go.Proofs.YthblmkailhdhlaaW.PrintMore
attribute [local go_sem] max2_int min2_int max_two min_two max_three min_three max_four min_four   -- for this text's walks alone
set_option linter.unusedVariables false
set_option linter.unusedSimpArgs false
/-! ### quartermasterref03_Decode: function 56 -/
mutual
def quartermasterref03_Decode.l0 : Nat → Int → Int → List (List Int) → List (List Int) → List (List Int) → Int → Option ((List (List Int)))
  | 0, _, _, _, _, _, _ => none
  | k + 1, x1, x8, x9, x10, x14, x15 => if x15 < x8 then (quartermasterref03_Decode.l1 k x1 x8 x9 x10 x14 x15 ([] : List Int) 0) else (some x14)
def quartermasterref03_Decode.l1 : Nat → Int → Int → List (List Int) → List (List Int) → List (List Int) → Int → List Int → Int → Option ((List (List Int)))
  | 0, _, _, _, _, _, _, _, _ => none
  | k + 1, x1, x8, x9, x10, x14, x15, x16, x17 => if x17 < x1 then (if 0 ≤ x17 then (if x17 < (x10.length : Int) then (if 0 ≤ x15 then (if x15 < ((rd_L1 x10 x17).length : Int) then (if x16.length < 140737488355328 then (quartermasterref03_Decode.l1 k x1 x8 x9 x10 x14 x15 (x16 ++ [rd (rd_L1 x10 x17) x15]) (wrap64 (x17 + 1))) else (none)) else (none)) else (none)) else (none)) else (none)) else ((quartermasterref03_solved.f x9 x16).bind fun t109 => (quartermasterref03_Decode.l2 k x1 x8 x9 x10 x14 x15 t109 0))
def quartermasterref03_Decode.l2 : Nat → Int → Int → List (List Int) → List (List Int) → List (List Int) → Int → List Int → Int → Option ((List (List Int)))
  | 0, _, _, _, _, _, _, _, _ => none
  | k + 1, x1, x8, x9, x10, x14, x15, x18, x19 => if x19 < x1 then (if 0 ≤ x19 then (if x19 < (x14.length : Int) then (if x19 < (x18.length : Int) then (if (rd_L1 x14 x19).length < 140737488355328 then (quartermasterref03_Decode.l2 k x1 x8 x9 x10 (x14.set (x19 : Int).toNat ((rd_L1 x14 x19) ++ [rd x18 x19])) x15 x18 (wrap64 (x19 + 1))) else (none)) else (none)) else (none)) else (none)) else (quartermasterref03_Decode.l0 k x1 x8 x9 x10 x14 (wrap64 (x15 + 1)))
end
def quartermasterref03_Decode.f (k : Nat) (l0 : List (List Int)) (a1 : Int) (l2 : List (List Int)) (a3 : Int) : Option ((List (List Int))) := if 0 ≤ a1 then (if (a1 : Int).toNat ≤ 11728124029610 then (quartermasterref03_Decode.l0 k a1 a3 l0 l2 (List.replicate (a1 : Int).toNat []) 0) else (none)) else (none)
def quartermasterref03_Decode.T35 : Bool × List (List Nat × List Nat) := (true, [([], []), ([], []), ([], []), ([], []), ([2, 3], [2, 3]), ([4], [4]), ([], []), ([], []), ([6, 7], [6, 7]), ([8], [8]), ([9], [9]), ([5, 10], [5, 10]), ([0, 1, 0, 1, 2, 3, 4, 5, 6, 7, 8, 9, 10, 11], [0, 1]), ([12, 11, 11, 0, 1, 2, 3, 4, 5, 6, 7, 8, 9, 10, 11], [11, 12])])
def quartermasterref03_Decode.B35 : List Nat := [0, 0, 0, 0, 12, 28, 0, 0, 192, 448, 960, 2044, 4095, 8191]
theorem quartermasterref03_Decode.tab35 : rtab .any (opsOf Try.f56 35) = quartermasterref03_Decode.T35 := by kernel_rfl
theorem quartermasterref03_Decode.bits35 : waitsOk quartermasterref03_Decode.T35.2 quartermasterref03_Decode.B35 = true := by kernel_rfl
end Go.Proofs.Ythblmkailhdhlaa.XE
