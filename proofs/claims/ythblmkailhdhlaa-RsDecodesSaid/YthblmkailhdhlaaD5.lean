import Derived.Test.YthblmkailhdhlaaProg
import Derived.Test.YthblmkailhdhlaaD3
import Derived.Test.YthblmkailhdhlaaD2
import Derived.Test.YthblmkailhdhlaaD4
import Derived.Below
import Derived.Deep.Draws
import Derived.Deep.AppendLies
import Derived.Maps.AppendAt
import Derived.OwnWalk
import Derived.Laws.BytesArg
import Derived.Laws.MakeOwn
import Derived.Laws.OwnMore
import Derived.Deep.OwnRows
import Derived.Tactics
import Derived.Lib.ConvBytes
import Derived.Laws.Slices
import Derived.WalkKit
import Derived.KernelRfl
import Derived.RowKit3
import Derived.Deep.LoopGhost
import Derived.Deep.QuietTactic
import Derived.BigQuiet
import Derived.WideLaws
import Derived.Deep.DeepCutAuto
import Derived.Deep.CutBlock
import Derived.Deep.RegionHeld3
import Derived.Laws.Rows
import Derived.Lib.AppendStr
import Derived.ArgAppend
import Derived.Laws.IdiomCopy
import Derived.OrdersHeld
import Derived.Laws.BitsLemmas
import Derived.RowKit
import Derived.Test.YthblmkailhdhlaaWWords
import Derived.Test.YthblmkailhdhlaaWLast
import Derived.Test.YthblmkailhdhlaaWTab
import Derived.Test.YthblmkailhdhlaaWQPut
import Derived.Test.YthblmkailhdhlaaWApart
import Derived.Test.YthblmkailhdhlaaWArr
import Derived.Test.YthblmkailhdhlaaWZeros
import Derived.Test.YthblmkailhdhlaaWFoot
import Derived.Test.YthblmkailhdhlaaWKept
import Derived.Test.YthblmkailhdhlaaWShare
import Derived.Test.YthblmkailhdhlaaWN
import Derived.Test.YthblmkailhdhlaaWRepsOne
import Derived.Test.YthblmkailhdhlaaWGuard
import Derived.Test.YthblmkailhdhlaaWNEv
import Derived.Test.YthblmkailhdhlaaWMore
-- PRINTED by print.py (a twelfth state) out of the translation. Not trusted: Lean checks it.
namespace Go.Proofs.Ythblmkailhdhlaa.U
open Go.Proofs.Ythblmkailhdhlaa.G Go.Proofs.Ythblmkailhdhlaa.P Go.Proofs.Ythblmkailhdhlaa.Given Go.Proofs.Ythblmkailhdhlaa.T Go.RowKit Go.Proofs.YthblmkailhdhlaaW.PrintWords Go.Proofs.YthblmkailhdhlaaW.PrintLast Go.Proofs.YthblmkailhdhlaaW.PrintMore
attribute [local go_sem] max2_int min2_int max_two min_two max_three min_three max_four min_four   -- for this text's walks alone
set_option linter.unusedVariables false
set_option linter.unusedSimpArgs false
def errW : Option Int → Value
  | none => .nilIface
  | some c => .iface 0 (.int .i64 c)
theorem errW_none : errW none = .nilIface := rfl
theorem errW_some (c : Int) : errW (some c) = .iface 0 (.int .i64 c) := rfl
-- the values' own types
def rd_L1 (xs : List (List Int)) (i : Int) : (List Int) := xs.getD i.toNat ([] : List Int)
theorem at_L1 {w : World} {A : Option Addr} {n : Nat} {xs : List (List Int)} (h : Kd.C (Kd.slice 5 (Kd.int .u8)) w A n xs) (i : Int) (h0 : 0 ≤ i) (h1 : i < n) : ∃ ad A0 c0, A = some ad ∧ w.cell? (ad.add i.toNat) = some (.slice A0 (rd_L1 xs i).length c0) ∧ (rd_L1 xs i).length ≤ c0 ∧ (Kd.int .u8).C w A0 (rd_L1 xs i).length (rd_L1 xs i) := by
  obtain ⟨ad, c, e, _, hK, hc0⟩ := Kd.C_get h ([] : List Int) i h0 h1
  have hc : ∀ j u, c[j]? = some u → w.cell? (ad.add (i.toNat * 1 + j)) = some u := hc0
  obtain ⟨A0, c0, rfl, l0, g0⟩ := hK
  exact ⟨ad, A0, c0, e, by have hq := hc 0 _ rfl; rwa [Nat.mul_one, Nat.add_zero] at hq, l0, g0⟩
end Go.Proofs.Ythblmkailhdhlaa.U
-- PRINTED by print.py (a twelfth state) out of the translation. Not trusted: Lean checks it.
namespace Go.Proofs.Ythblmkailhdhlaa.U
open Go.Proofs.Ythblmkailhdhlaa.G Go.Proofs.Ythblmkailhdhlaa.P Go.Proofs.Ythblmkailhdhlaa.Given Go.Proofs.Ythblmkailhdhlaa.T Go.RowKit Go.Proofs.YthblmkailhdhlaaW.PrintWords Go.Proofs.YthblmkailhdhlaaW.PrintLast Go.Proofs.YthblmkailhdhlaaW.PrintMore
attribute [local go_sem] max2_int min2_int max_two min_two max_three min_three max_four min_four   -- for this text's walks alone
set_option linter.unusedVariables false
set_option linter.unusedSimpArgs false
-- GIVEN: function 41 (quartermasterref02_Same)
-- GIVEN: function 63 (mat_size)
-- GIVEN: function 42 (mat_May)
-- NOT PRINTED: function 57 (gf_powers)
-- NOT PRINTED: function 24 (gf_New)
-- NOT PRINTED: function 64 (mat_filled)
-- NOT PRINTED: function 59 (gf_Field_tables)
-- NOT PRINTED: function 32 (gf_Field_Mul)
-- NOT PRINTED: function 34 (gf_Field_Add)
-- NOT PRINTED: function 69 (mat_add)
-- GIVEN: function 48 (mat_Mul)
-- GIVEN: function 37 (mat_One)
-- GIVEN: function 39 (mat_Cauchy)
-- GIVEN: function 53 (rs_Rows)
-- GIVEN: function 51 (rs_Encode)
-- NOT PRINTED: function 25 (gf_Field_Div)
-- NOT PRINTED: function 27 (gf_Field_Inv)
-- GIVEN: function 67 (mat_pivot)
-- NOT PRINTED: function 68 (mat_times)
-- GIVEN: function 45 (mat_Inv)
-- NOT PRINTED: function 74 (rs_lot_left)
-- NOT PRINTED: function 72 (rs_lot_may)
-- NOT PRINTED: function 73 (rs_picked)
-- GIVEN: function 75 (slices_Clone)
-- GIVEN: function 55 (rs_Decode)
end Go.Proofs.Ythblmkailhdhlaa.U
-- PRINTED by print.py (a twelfth state) out of the translation. Not trusted: Lean checks it.
namespace Go.Proofs.Ythblmkailhdhlaa.U
open Go.Proofs.Ythblmkailhdhlaa.G Go.Proofs.Ythblmkailhdhlaa.P Go.Proofs.Ythblmkailhdhlaa.Given Go.Proofs.Ythblmkailhdhlaa.T Go.RowKit Go.Proofs.YthblmkailhdhlaaW.PrintWords Go.Proofs.YthblmkailhdhlaaW.PrintLast Go.Proofs.YthblmkailhdhlaaW.PrintMore
attribute [local go_sem] max2_int min2_int max_two min_two max_three min_three max_four min_four   -- for this text's walks alone
set_option linter.unusedVariables false
set_option linter.unusedSimpArgs false
/-! ### quartermasterlaw03_awake: function 49 -/
def quartermasterlaw03_awake.f (k : Nat)  : Option (Bool) := (rs_Encode.f k (([(([1] : List Int)), (([2] : List Int))] : List (List Int))) 1).bind fun bt110 => (if bt110.2 = 0 then (if (bt110.1.length : Int) = 1 then (if 0 < (bt110.1.length : Int) then (if ((rd_L1 bt110.1 0).length : Int) = 1 then (if 0 < ((rd_L1 bt110.1 0).length : Int) then (if (rd (rd_L1 bt110.1 0) 0) = 123 then ((rs_Decode.f (([[], (([2] : List Int)), (([123] : List Int))] : List (List Int))) 2).bind fun bt126 => (if bt126.2 = 0 then (if (bt126.1.length : Int) = 3 then (if 0 < (bt126.1.length : Int) then (if ((rd_L1 bt126.1 0).length : Int) = 1 then (if 0 < ((rd_L1 bt126.1 0).length : Int) then (some ((rd (rd_L1 bt126.1 0) 0) == 1)) else (none)) else (none)) else (none)) else (none)) else (none))) else (none)) else (none)) else (none)) else (none)) else (none)) else (none))
set_option maxHeartbeats 8000000 in
set_option maxRecDepth 100000 in
theorem quartermasterlaw03_awake.calls (k : Nat)  (r : Bool) (w : World) (h : quartermasterlaw03_awake.f k  = some r) :
    Calls Try.prog 49 #[] w fun e w' => e = .returned (.bool r) ∧ Below w.heap.size w w' := by
  have HB := Aside0.mk (Below.refl w.heap.size w)
  have H : ((rs_Encode.f k (([(([1] : List Int)), (([2] : List Int))] : List (List Int))) 1).bind fun bt110 => (if bt110.2 = 0 then (if (bt110.1.length : Int) = 1 then (if 0 < (bt110.1.length : Int) then (if ((rd_L1 bt110.1 0).length : Int) = 1 then (if 0 < ((rd_L1 bt110.1 0).length : Int) then (if (rd (rd_L1 bt110.1 0) 0) = 123 then ((rs_Decode.f (([[], (([2] : List Int)), (([123] : List Int))] : List (List Int))) 2).bind fun bt126 => (if bt126.2 = 0 then (if (bt126.1.length : Int) = 3 then (if 0 < (bt126.1.length : Int) then (if ((rd_L1 bt126.1 0).length : Int) = 1 then (if 0 < ((rd_L1 bt126.1 0).length : Int) then (some ((rd (rd_L1 bt126.1 0) 0) == 1)) else (none)) else (none)) else (none)) else (none)) else (none))) else (none)) else (none)) else (none)) else (none)) else (none)) else (none))) = some r := h
  clear h
  obtain ⟨y101, hy101⟩ : ∃ y_ : List Int, y_ = (([1] : List Int)) := ⟨_, rfl⟩
  replace H : ((rs_Encode.f k (([y101, (([2] : List Int))] : List (List Int))) 1).bind fun bt110 => (if bt110.2 = 0 then (if (bt110.1.length : Int) = 1 then (if 0 < (bt110.1.length : Int) then (if ((rd_L1 bt110.1 0).length : Int) = 1 then (if 0 < ((rd_L1 bt110.1 0).length : Int) then (if (rd (rd_L1 bt110.1 0) 0) = 123 then ((rs_Decode.f (([[], (([2] : List Int)), (([123] : List Int))] : List (List Int))) 2).bind fun bt126 => (if bt126.2 = 0 then (if (bt126.1.length : Int) = 3 then (if 0 < (bt126.1.length : Int) then (if ((rd_L1 bt126.1 0).length : Int) = 1 then (if 0 < ((rd_L1 bt126.1 0).length : Int) then (some ((rd (rd_L1 bt126.1 0) 0) == 1)) else (none)) else (none)) else (none)) else (none)) else (none))) else (none)) else (none)) else (none)) else (none)) else (none)) else (none))) = some r := by first | (rw [hy101]; with_reducible exact H) | (have H2_ := (Option.bind_some _ _).symm.trans H; rw [hy101]; with_reducible exact H2_) | (have H2_ := (Option.bind_some _ _).symm.trans H; with_reducible exact H2_) | with_reducible exact H | (rw [hy101]; exact H) | exact H
  have Ny101 := Aside0.mk hy101
  clear hy101
  obtain ⟨y104, hy104⟩ : ∃ y_ : List Int, y_ = (([2] : List Int)) := ⟨_, rfl⟩
  replace H : ((rs_Encode.f k (([y101, y104] : List (List Int))) 1).bind fun bt110 => (if bt110.2 = 0 then (if (bt110.1.length : Int) = 1 then (if 0 < (bt110.1.length : Int) then (if ((rd_L1 bt110.1 0).length : Int) = 1 then (if 0 < ((rd_L1 bt110.1 0).length : Int) then (if (rd (rd_L1 bt110.1 0) 0) = 123 then ((rs_Decode.f (([[], (([2] : List Int)), (([123] : List Int))] : List (List Int))) 2).bind fun bt126 => (if bt126.2 = 0 then (if (bt126.1.length : Int) = 3 then (if 0 < (bt126.1.length : Int) then (if ((rd_L1 bt126.1 0).length : Int) = 1 then (if 0 < ((rd_L1 bt126.1 0).length : Int) then (some ((rd (rd_L1 bt126.1 0) 0) == 1)) else (none)) else (none)) else (none)) else (none)) else (none))) else (none)) else (none)) else (none)) else (none)) else (none)) else (none))) = some r := by first | (rw [hy104]; with_reducible exact H) | (have H2_ := (Option.bind_some _ _).symm.trans H; rw [hy104]; with_reducible exact H2_) | (have H2_ := (Option.bind_some _ _).symm.trans H; with_reducible exact H2_) | with_reducible exact H | (rw [hy104]; exact H) | exact H
  have Ny104 := Aside0.mk hy104
  clear hy104
  obtain ⟨y107, hy107⟩ : ∃ y_ : List (List Int), y_ = (([y101, y104] : List (List Int))) := ⟨_, rfl⟩
  replace H : ((rs_Encode.f k y107 1).bind fun bt110 => (if bt110.2 = 0 then (if (bt110.1.length : Int) = 1 then (if 0 < (bt110.1.length : Int) then (if ((rd_L1 bt110.1 0).length : Int) = 1 then (if 0 < ((rd_L1 bt110.1 0).length : Int) then (if (rd (rd_L1 bt110.1 0) 0) = 123 then ((rs_Decode.f (([[], (([2] : List Int)), (([123] : List Int))] : List (List Int))) 2).bind fun bt126 => (if bt126.2 = 0 then (if (bt126.1.length : Int) = 3 then (if 0 < (bt126.1.length : Int) then (if ((rd_L1 bt126.1 0).length : Int) = 1 then (if 0 < ((rd_L1 bt126.1 0).length : Int) then (some ((rd (rd_L1 bt126.1 0) 0) == 1)) else (none)) else (none)) else (none)) else (none)) else (none))) else (none)) else (none)) else (none)) else (none)) else (none)) else (none))) = some r := by first | (rw [hy107]; with_reducible exact H) | (have H2_ := (Option.bind_some _ _).symm.trans H; rw [hy107]; with_reducible exact H2_) | (have H2_ := (Option.bind_some _ _).symm.trans H; with_reducible exact H2_) | with_reducible exact H | (rw [hy107]; exact H) | exact H
  have Ny107 := Aside0.mk hy107
  clear hy107
  replace H := Option.bind_eq_some_iff.mp H
  obtain ⟨⟨t110, t111⟩, A10, H⟩ := H
  replace H : (if t111 = 0 then (if (t110.length : Int) = 1 then (if 0 < (t110.length : Int) then (if ((rd_L1 t110 0).length : Int) = 1 then (if 0 < ((rd_L1 t110 0).length : Int) then (if (rd (rd_L1 t110 0) 0) = 123 then ((rs_Decode.f (([[], (([2] : List Int)), (([123] : List Int))] : List (List Int))) 2).bind fun bt126 => (if bt126.2 = 0 then (if (bt126.1.length : Int) = 3 then (if 0 < (bt126.1.length : Int) then (if ((rd_L1 bt126.1 0).length : Int) = 1 then (if 0 < ((rd_L1 bt126.1 0).length : Int) then (some ((rd (rd_L1 bt126.1 0) 0) == 1)) else (none)) else (none)) else (none)) else (none)) else (none))) else (none)) else (none)) else (none)) else (none)) else (none)) else (none)) = some r := H
  have A1 := Aside0.mk A10
  clear A10
  by_cases c2 : t111 = 0
  · rw [if_pos c2] at H
    have c2b0 : (t111 == 0) = true := beq_iff_eq.mpr c2
    have c2b1 : (t111 != 0) = false := bne_eq_false_iff_eq.mpr c2
    clear c2
    by_cases c3 : (t110.length : Int) = 1
    · rw [if_pos c3] at H
      have c3b0 : ((t110.length : Int) == 1) = true := beq_iff_eq.mpr c3
      have c3b1 : ((t110.length : Int) != 1) = false := bne_eq_false_iff_eq.mpr c3
      clear c3
      by_cases c4 : 0 < (t110.length : Int)
      · rw [if_pos c4] at H
        have c4b0 : decide (0 < (t110.length : Int)) = true := decide_eq_true c4
        have c4b1 : decide (0 < t110.length) = true := decide_eq_true (by omega)
        clear c4
        by_cases c5 : ((rd_L1 t110 0).length : Int) = 1
        · rw [if_pos c5] at H
          have c5b0 : (((rd_L1 t110 0).length : Int) == 1) = true := beq_iff_eq.mpr c5
          have c5b1 : (((rd_L1 t110 0).length : Int) != 1) = false := bne_eq_false_iff_eq.mpr c5
          clear c5
          by_cases c6 : 0 < ((rd_L1 t110 0).length : Int)
          · rw [if_pos c6] at H
            have c6b0 : decide (0 < ((rd_L1 t110 0).length : Int)) = true := decide_eq_true c6
            have c6b1 : decide (0 < (rd_L1 t110 0).length) = true := decide_eq_true (by omega)
            clear c6
            by_cases c7 : (rd (rd_L1 t110 0) 0) = 123
            · rw [if_pos c7] at H
              have c7b0 : ((rd (rd_L1 t110 0) 0) == 123) = true := beq_iff_eq.mpr c7
              have c7b1 : ((rd (rd_L1 t110 0) 0) != 123) = false := bne_eq_false_iff_eq.mpr c7
              clear c7
              obtain ⟨y117, hy117⟩ : ∃ y_ : List Int, y_ = (([2] : List Int)) := ⟨_, rfl⟩
              replace H : ((rs_Decode.f (([[], y117, (([123] : List Int))] : List (List Int))) 2).bind fun bt126 => (if bt126.2 = 0 then (if (bt126.1.length : Int) = 3 then (if 0 < (bt126.1.length : Int) then (if ((rd_L1 bt126.1 0).length : Int) = 1 then (if 0 < ((rd_L1 bt126.1 0).length : Int) then (some ((rd (rd_L1 bt126.1 0) 0) == 1)) else (none)) else (none)) else (none)) else (none)) else (none))) = some r := by first | (rw [hy117]; with_reducible exact H) | (have H2_ := (Option.bind_some _ _).symm.trans H; rw [hy117]; with_reducible exact H2_) | (have H2_ := (Option.bind_some _ _).symm.trans H; with_reducible exact H2_) | with_reducible exact H | (rw [hy117]; exact H) | exact H
              have Ny117 := Aside0.mk hy117
              clear hy117
              obtain ⟨y120, hy120⟩ : ∃ y_ : List Int, y_ = (([123] : List Int)) := ⟨_, rfl⟩
              replace H : ((rs_Decode.f (([[], y117, y120] : List (List Int))) 2).bind fun bt126 => (if bt126.2 = 0 then (if (bt126.1.length : Int) = 3 then (if 0 < (bt126.1.length : Int) then (if ((rd_L1 bt126.1 0).length : Int) = 1 then (if 0 < ((rd_L1 bt126.1 0).length : Int) then (some ((rd (rd_L1 bt126.1 0) 0) == 1)) else (none)) else (none)) else (none)) else (none)) else (none))) = some r := by first | (rw [hy120]; with_reducible exact H) | (have H2_ := (Option.bind_some _ _).symm.trans H; rw [hy120]; with_reducible exact H2_) | (have H2_ := (Option.bind_some _ _).symm.trans H; with_reducible exact H2_) | with_reducible exact H | (rw [hy120]; exact H) | exact H
              have Ny120 := Aside0.mk hy120
              clear hy120
              obtain ⟨y123, hy123⟩ : ∃ y_ : List (List Int), y_ = (([[], y117, y120] : List (List Int))) := ⟨_, rfl⟩
              replace H : ((rs_Decode.f y123 2).bind fun bt126 => (if bt126.2 = 0 then (if (bt126.1.length : Int) = 3 then (if 0 < (bt126.1.length : Int) then (if ((rd_L1 bt126.1 0).length : Int) = 1 then (if 0 < ((rd_L1 bt126.1 0).length : Int) then (some ((rd (rd_L1 bt126.1 0) 0) == 1)) else (none)) else (none)) else (none)) else (none)) else (none))) = some r := by first | (rw [hy123]; with_reducible exact H) | (have H2_ := (Option.bind_some _ _).symm.trans H; rw [hy123]; with_reducible exact H2_) | (have H2_ := (Option.bind_some _ _).symm.trans H; with_reducible exact H2_) | with_reducible exact H | (rw [hy123]; exact H) | exact H
              have Ny123 := Aside0.mk hy123
              clear hy123
              replace H := Option.bind_eq_some_iff.mp H
              obtain ⟨⟨t126, t127⟩, A80, H⟩ := H
              replace H : (if t127 = 0 then (if (t126.length : Int) = 3 then (if 0 < (t126.length : Int) then (if ((rd_L1 t126 0).length : Int) = 1 then (if 0 < ((rd_L1 t126 0).length : Int) then (some ((rd (rd_L1 t126 0) 0) == 1)) else (none)) else (none)) else (none)) else (none)) else (none)) = some r := H
              have A8 := Aside0.mk A80
              clear A80
              by_cases c9 : t127 = 0
              · rw [if_pos c9] at H
                have c9b0 : (t127 == 0) = true := beq_iff_eq.mpr c9
                have c9b1 : (t127 != 0) = false := bne_eq_false_iff_eq.mpr c9
                clear c9
                by_cases c10 : (t126.length : Int) = 3
                · rw [if_pos c10] at H
                  have c10b0 : ((t126.length : Int) == 3) = true := beq_iff_eq.mpr c10
                  have c10b1 : ((t126.length : Int) != 3) = false := bne_eq_false_iff_eq.mpr c10
                  clear c10
                  by_cases c11 : 0 < (t126.length : Int)
                  · rw [if_pos c11] at H
                    have c11b0 : decide (0 < (t126.length : Int)) = true := decide_eq_true c11
                    have c11b1 : decide (0 < t126.length) = true := decide_eq_true (by omega)
                    clear c11
                    by_cases c12 : ((rd_L1 t126 0).length : Int) = 1
                    · rw [if_pos c12] at H
                      have c12b0 : (((rd_L1 t126 0).length : Int) == 1) = true := beq_iff_eq.mpr c12
                      have c12b1 : (((rd_L1 t126 0).length : Int) != 1) = false := bne_eq_false_iff_eq.mpr c12
                      clear c12
                      by_cases c13 : 0 < ((rd_L1 t126 0).length : Int)
                      · rw [if_pos c13] at H
                        have c13b0 : decide (0 < ((rd_L1 t126 0).length : Int)) = true := decide_eq_true c13
                        have c13b1 : decide (0 < (rd_L1 t126 0).length) = true := decide_eq_true (by omega)
                        clear c13
                        obtain rfl := Option.some.inj H
                        go_enter Try.func49, Try.ntmps49
                        go_wp2_with (first | ((with_reducible refine gate_dst (N := 6) rfl ?_); (try (refine gate_guard (by rfl) ?_; dsimp only)); refine Kd.R_lit (Kd.int .u8) _ 5 ?hg (N := 6) ?hd (xs := ([1] : List Int)) (inner := [.int .u8 1]) (ok := fun _ => True) (okp := fun _ => True) ?hr ?hp (fun _ hk => hk) trivial (Below.refl _ _) (Nat.le_refl _) (by simp) ?_; (case hd => rfl); (case hg => rfl); (case hr => first | (go_simp; done) | (go_simp; rfl)); (case hp => exact (Reps.one (show Kd.M (Kd.int .u8) _ _ _ 1 [.int .u8 1] from rfl) (Reps.none _ _))); intro v102 w14 ho15 hb hg_ hnew_; clear hg_ hnew_; (first | rw [← Ny101.out] at ho15 | (simp only [Int.reduceToNat] at ho15; rw [← Ny101.out] at ho15)); have n0_ := Aside0.mk (Kd.R_lower ho15 (below_size (by repeat (first | (with_reducible first | exact HB.out | apply below_alloc | apply pw_below_drewN | apply below_drew1) | exact HB.out)))); have n1_ := Aside0.mk (below_step (by repeat (first | (with_reducible first | exact HB.out | apply below_alloc | apply pw_below_drewN | apply below_drew1) | exact HB.out)) hb); clear HB; have HO103 := n0_; have HB := n1_; clear n0_ n1_; clear hb ho15) | ((with_reducible refine gate_dst (N := 7) rfl ?_); (try (refine gate_guard (by rfl) ?_; dsimp only)); refine Kd.R_lit (Kd.int .u8) _ 5 ?hg (N := 7) ?hd (xs := ([2] : List Int)) (inner := [.int .u8 2]) (ok := fun _ => True) (okp := fun _ => True) ?hr ?hp (fun _ hk => hk) trivial (Below.refl _ _) (Nat.le_refl _) (by simp) ?_; (case hd => rfl); (case hg => rfl); (case hr => first | (go_simp; done) | (go_simp; rfl)); (case hp => exact (Reps.one (show Kd.M (Kd.int .u8) _ _ _ 2 [.int .u8 2] from rfl) (Reps.none _ _))); intro v105 w16 ho17 hb hg_ hnew_; clear hg_ hnew_; (first | rw [← Ny104.out] at ho17 | (simp only [Int.reduceToNat] at ho17; rw [← Ny104.out] at ho17)); have n0_ := Aside0.mk (Kd.R_elder' (by (with_reducible repeat (first | apply Kd.R_alloc | apply Kd.R_drewN | apply Kd.R_drew)); exact HO103.out) (Kd.R_base ho17) hb); have n1_ := Aside0.mk (Kd.R_lower (Kd.R_new' ho17 (Kd.R_lt (by (with_reducible repeat (first | apply Kd.R_alloc | apply Kd.R_drewN | apply Kd.R_drew)); exact HO103.out))) (below_size (by repeat (first | (with_reducible first | exact HB.out | apply below_alloc | apply pw_below_drewN | apply below_drew1) | exact HB.out)))); have n2_ := Aside0.mk (below_step (by repeat (first | (with_reducible first | exact HB.out | apply below_alloc | apply pw_below_drewN | apply below_drew1) | exact HB.out)) hb); clear HO103; clear HB; have HO103 := n0_; have HO106 := n1_; have HB := n2_; clear n0_ n1_ n2_; clear hb ho17; obtain ⟨Ao18, co18, eo18⟩ := Kd.R_slice HO103.out; subst eo18; obtain ⟨Ao19, co19, eo19⟩ := Kd.R_slice HO106.out; subst eo19) | ((with_reducible refine gate_dst (N := 8) rfl ?_); (try (refine gate_guard (by rfl) ?_; dsimp only)); refine Kd.N_lit (Kd.slice 5 (Kd.int .u8)) _ 43 ?hg (N' := 8) ?hd (xs := ([y101, y104] : List (List Int))) (inner := [.slice Ao18 y101.length co18, .slice Ao19 y104.length co19]) (ok := (fun _ => True)) (okp := (fun _ => True)) ?hr ?hp (fun _ hk => hk) ((show ∀ k_, w16.heap.size ≤ k_ → (fun _ => True) k_ from fun k_ hk => trivial) _ (Nat.le_refl _)) (Below.refl _ _) (Nat.le_refl _) (by simp) ?_; (case hd => rfl); (case hg => rfl); (case hr => first | (go_simp; done) | (go_simp; rfl)); (case hp => exact (Reps.one (show Kd.FK (Kd.slice 5 (Kd.int .u8)) _ _ y101 [.slice Ao18 y101.length co18] from (Kd.FK_slice_mk (Kd.R_reads' (Kd.R_mono (ok' := (fun _ => True)) (HO103.out) (fun k_ hk => trivial))).2.1 (Kd.R_F (Kd.R_mono (ok' := (fun _ => True)) (HO103.out) (fun k_ hk => trivial))))) (Reps.one (show Kd.FK (Kd.slice 5 (Kd.int .u8)) _ _ y104 [.slice Ao19 y104.length co19] from (Kd.FK_slice_mk (Kd.R_reads' (Kd.R_mono (ok' := (fun _ => True)) (HO106.out) (fun k_ hk => trivial))).2.1 (Kd.R_F (Kd.R_mono (ok' := (fun _ => True)) (HO106.out) (fun k_ hk => trivial))))) (Reps.none _ _)))); intro v108 w20 ho21 hb hg_ hnew_; clear hg_ hnew_; (first | rw [← Ny107.out] at ho21 | (simp only [Int.reduceToNat] at ho21; rw [← Ny107.out] at ho21)); have n0_ := Aside0.mk (Kd.N_lower ho21 (below_size (by repeat (first | (with_reducible first | exact HB.out | apply below_alloc | apply pw_below_drewN | apply below_drew1) | exact HB.out)))); have n1_ := Aside0.mk (below_step (by repeat (first | (with_reducible first | exact HB.out | apply below_alloc | apply pw_below_drewN | apply below_drew1) | exact HB.out)) hb); clear HB; clear HO103; clear HO106; have HO109 := n0_; have HB := n1_; clear n0_ n1_; clear hb ho21; obtain ⟨Ao22, co22, eo22⟩ := Kd.N_slice HO109.out; subst eo22) | ((with_reducible refine gate_callee (f := 51) rfl ?_); refine goesL_ (some 9) rfl rfl Try.func51 (by kernel_rfl) rfl #[.slice Ao22 y107.length co22, .int .i64 1] rfl (by (try simp only [List.map_toArray, List.map_cons, List.map_nil]); first | done | rfl | (simp only [List.length_drop, List.length_take]; rfl)) ?_; (with_reducible refine (rs_Encode.calls k _ _ y107 1 t110 t111 _ ?side1 ?side2 A1.out).mono ?_); (case side1 => repeat (first | exact (Kd.N_reads' HO109.out).2.2 | (with_reducible refine Kd.C_alloc ?_ _) | (with_reducible refine Kd.C_drewN ?_ _) | (with_reducible refine Kd.C_drew ?_))); (case side2 => exact (Kd.N_reads' HO109.out).2.1); rintro e w23 ⟨v112, rfl, ho0, hb⟩; refine ⟨_, rfl, ?_⟩; have n0_ := Aside0.mk (Kd.N_elder' (by (with_reducible repeat (first | apply Kd.N_alloc | apply Kd.N_drewN | apply Kd.N_drew)); exact HO109.out) (by first | exact Kd.N_base ho0 | exact Kd.N_base (Kd.S_N ho0)) hb); have n1_ := Aside0.mk (Kd.N_lower (Kd.N_mono (ok' := fun k_ => some k_ ≠ (.slice Ao22 y107.length co22 : Value).ownBlock) (Kd.S_N (Kd.S_bound ho0)) (fun k_ hk_ => (Kd.fresh' (Kd.N_lt (by (with_reducible repeat (first | apply Kd.N_alloc | apply Kd.N_drewN | apply Kd.N_drew)); exact HO109.out)) k_ hk_.2.1))) (below_size (by repeat (first | (with_reducible first | exact HB.out | apply below_alloc | apply pw_below_drewN | apply below_drew1) | exact HB.out)))); have n2_ := Aside0.mk (below_step (by repeat (first | (with_reducible first | exact HB.out | apply below_alloc | apply pw_below_drewN | apply below_drew1) | exact HB.out)) hb); clear HO109; clear HB; have HO109 := n0_; have HO113 := n1_; have HB := n2_; clear n0_ n1_ n2_; (try clear hb); (try clear hb2); (try clear hk); (try clear hi); (try clear ho0); obtain ⟨Ao24, co24, eo24⟩ := Kd.N_slice HO113.out; subst eo24; have p114 : 0 ≤ (0 : Int) := (by omega); have q114 : 0 < (t110.length : Int) := of_decide_eq_true (by first | (with_reducible assumption) | assumption); obtain ⟨ad114, A114_0, c114_0, e114, hx114_0, hl114_0, hi114_0⟩ := at_L1 (Kd.N_reads' HO113.out).2.2 0 p114 q114; cases e114; obtain ⟨ce114, hce114, hMe114, hcc114⟩ := Kd.N_get HO113.out [] 0 p114 (by first | exact q114 | exact of_decide_eq_true (by first | (with_reducible assumption) | assumption) | (have e_ := (Kd.N_reads' HO113.out).1; omega)); obtain ⟨ua114_0, uc114_0, rfl, ul114_0, ge114_0⟩ := Kd.FK_slice_open hMe114; have hv114_0 := hcc114 0 _ rfl; rw [Nat.add_zero, show ((Kd.slice 5 (Kd.int .u8))).sz = 1 from rfl, Nat.mul_one] at hv114_0; replace hv114_0 := Option.some.inj (hv114_0.symm.trans hx114_0); injection hv114_0 with hva_ hvn_ hvc_; rw [hva_] at ge114_0; rw [hvc_] at ul114_0; have HL114_0 := Aside0.mk (show Kd.V (Kd.int .u8) 5 _ w.heap.size _ _ (rd_L1 t110 0) from Kd.V_mk ul114_0 ge114_0); clear hva_ hvn_ hvc_ ge114_0 ul114_0; clear hcc114 hce114; have qi114 : (0 < t110.length) = True := eq_true (by omega); (try rw [show ((0 : Int)).toNat = 0 from rfl] at hx114_0); (try rw [Addr.add_zero'] at hx114_0); have HR114_0 := Aside0.mk hi114_0; have HC114_0 := Aside0.mk hl114_0; clear hi114_0 hl114_0; replace p114 := eq_true p114; replace q114 := eq_true q114; have p115 : 0 ≤ (0 : Int) := (by omega); have q115 : 0 < (t110.length : Int) := of_decide_eq_true (by first | (with_reducible assumption) | assumption); obtain ⟨ad115, A115_0, c115_0, e115, hx115_0, hl115_0, hi115_0⟩ := at_L1 (Kd.N_reads' HO113.out).2.2 0 p115 q115; obtain rfl : ad114 = ad115 := (by injection e115); obtain ⟨ce115, hce115, hMe115, hcc115⟩ := Kd.N_get HO113.out [] 0 p115 (by first | exact q115 | exact of_decide_eq_true (by first | (with_reducible assumption) | assumption) | (have e_ := (Kd.N_reads' HO113.out).1; omega)); obtain ⟨ua115_0, uc115_0, rfl, ul115_0, ge115_0⟩ := Kd.FK_slice_open hMe115; have hv115_0 := hcc115 0 _ rfl; rw [Nat.add_zero, show ((Kd.slice 5 (Kd.int .u8))).sz = 1 from rfl, Nat.mul_one] at hv115_0; replace hv115_0 := Option.some.inj (hv115_0.symm.trans hx115_0); injection hv115_0 with hva_ hvn_ hvc_; rw [hva_] at ge115_0; rw [hvc_] at ul115_0; have HL115_0 := Aside0.mk (show Kd.V (Kd.int .u8) 5 _ w.heap.size _ _ (rd_L1 t110 0) from Kd.V_mk ul115_0 ge115_0); clear hva_ hvn_ hvc_ ge115_0 ul115_0; clear hcc115 hce115; have qi115 : (0 < t110.length) = True := eq_true (by omega); (try rw [show ((0 : Int)).toNat = 0 from rfl] at hx115_0); (try rw [Addr.add_zero'] at hx115_0); have HR115_0 := Aside0.mk hi115_0; have HC115_0 := Aside0.mk hl115_0; clear hi115_0 hl115_0; replace p115 := eq_true p115; replace q115 := eq_true q115; have ea_ := Option.some.inj (hx114_0.symm.trans hx115_0); injection ea_ with ea_ en_ ec_; subst ea_; subst ec_; clear en_; have p116 : 0 ≤ (0 : Int) := (by omega); have q116 : 0 < ((rd_L1 t110 0).length : Int) := of_decide_eq_true (by first | (with_reducible assumption) | assumption); obtain ⟨ad116, e116, hx116_0⟩ := Kd.at_int (by repeat (first | (with_reducible exact HR115_0.out) | (with_reducible refine Kd.C_alloc ?_ _) | (with_reducible refine Kd.C_drewN ?_ _) | (with_reducible refine Kd.C_drew ?_) | exact HR115_0.out)) 0 p116 q116; cases e116; have qi116 : (0 < (rd_L1 t110 0).length) = True := eq_true (by omega); (try rw [show ((0 : Int)).toNat = 0 from rfl] at hx116_0); (try rw [Addr.add_zero'] at hx116_0); replace p116 := eq_true p116; replace q116 := eq_true q116) | ((with_reducible refine gate_dst (N := 35) rfl ?_); (try (refine gate_guard (by rfl) ?_; dsimp only)); refine Kd.R_lit (Kd.int .u8) _ 5 ?hg (N := 35) ?hd (xs := ([2] : List Int)) (inner := [.int .u8 2]) (ok := fun _ => True) (okp := fun _ => True) ?hr ?hp (fun _ hk => hk) trivial (Below.refl _ _) (Nat.le_refl _) (by simp) ?_; (case hd => rfl); (case hg => rfl); (case hr => first | (go_simp; done) | (go_simp; rfl)); (case hp => exact (Reps.one (show Kd.M (Kd.int .u8) _ _ _ 2 [.int .u8 2] from rfl) (Reps.none _ _))); intro v118 w25 ho26 hb hg_ hnew_; clear hg_ hnew_; (first | rw [← Ny117.out] at ho26 | (simp only [Int.reduceToNat] at ho26; rw [← Ny117.out] at ho26)); have n0_ := Aside0.mk (Kd.N_elder' (by (with_reducible repeat (first | apply Kd.N_alloc | apply Kd.N_drewN | apply Kd.N_drew)); exact HO109.out) (Kd.R_base ho26) hb); have n1_ := Aside0.mk (Kd.N_elder' (by (with_reducible repeat (first | apply Kd.N_alloc | apply Kd.N_drewN | apply Kd.N_drew)); exact HO113.out) (Kd.R_base ho26) hb); have n2_ := Aside0.mk (Kd.V_elder' (by (with_reducible repeat (first | apply Kd.V_alloc | apply Kd.V_drewN | apply Kd.V_drew)); exact HL114_0.out) (Kd.R_base ho26) hb); have n3_ := Aside0.mk (Kd.V_elder' (by (with_reducible repeat (first | apply Kd.V_alloc | apply Kd.V_drewN | apply Kd.V_drew)); exact HL115_0.out) (Kd.R_base ho26) hb); have n4_ := Aside0.mk (Kd.R_lower ho26 (below_size (by repeat (first | (with_reducible first | exact HB.out | apply below_alloc | apply pw_below_drewN | apply below_drew1) | exact HB.out)))); have n5_ := Aside0.mk (Kd.C_below (by repeat (first | (with_reducible exact HR114_0.out) | (with_reducible refine Kd.C_alloc ?_ _) | (with_reducible refine Kd.C_drewN ?_ _) | (with_reducible refine Kd.C_drew ?_) | exact HR114_0.out)) hb); have n6_ := Aside0.mk (Kd.C_below (by repeat (first | (with_reducible exact HR115_0.out) | (with_reducible refine Kd.C_alloc ?_ _) | (with_reducible refine Kd.C_drewN ?_ _) | (with_reducible refine Kd.C_drew ?_) | exact HR115_0.out)) hb); have n7_ := Aside0.mk (below_step (by repeat (first | (with_reducible first | exact HB.out | apply below_alloc | apply pw_below_drewN | apply below_drew1) | exact HB.out)) hb); clear HO109; clear HO113; clear HL114_0; clear HL115_0; clear HR114_0; clear HR115_0; clear HB; have HO109 := n0_; have HO113 := n1_; have HL114_0 := n2_; have HL115_0 := n3_; have HO119 := n4_; have HR114_0 := n5_; have HR115_0 := n6_; have HB := n7_; clear n0_ n1_ n2_ n3_ n4_ n5_ n6_ n7_; clear hb ho26) | ((with_reducible refine gate_dst (N := 36) rfl ?_); (try (refine gate_guard (by rfl) ?_; dsimp only)); refine Kd.R_lit (Kd.int .u8) _ 5 ?hg (N := 36) ?hd (xs := ([123] : List Int)) (inner := [.int .u8 123]) (ok := fun _ => True) (okp := fun _ => True) ?hr ?hp (fun _ hk => hk) trivial (Below.refl _ _) (Nat.le_refl _) (by simp) ?_; (case hd => rfl); (case hg => rfl); (case hr => first | (go_simp; done) | (go_simp; rfl)); (case hp => exact (Reps.one (show Kd.M (Kd.int .u8) _ _ _ 123 [.int .u8 123] from rfl) (Reps.none _ _))); intro v121 w27 ho28 hb hg_ hnew_; clear hg_ hnew_; (first | rw [← Ny120.out] at ho28 | (simp only [Int.reduceToNat] at ho28; rw [← Ny120.out] at ho28)); have n0_ := Aside0.mk (Kd.N_elder' (by (with_reducible repeat (first | apply Kd.N_alloc | apply Kd.N_drewN | apply Kd.N_drew)); exact HO109.out) (Kd.R_base ho28) hb); have n1_ := Aside0.mk (Kd.N_elder' (by (with_reducible repeat (first | apply Kd.N_alloc | apply Kd.N_drewN | apply Kd.N_drew)); exact HO113.out) (Kd.R_base ho28) hb); have n2_ := Aside0.mk (Kd.V_elder' (by (with_reducible repeat (first | apply Kd.V_alloc | apply Kd.V_drewN | apply Kd.V_drew)); exact HL114_0.out) (Kd.R_base ho28) hb); have n3_ := Aside0.mk (Kd.V_elder' (by (with_reducible repeat (first | apply Kd.V_alloc | apply Kd.V_drewN | apply Kd.V_drew)); exact HL115_0.out) (Kd.R_base ho28) hb); have n4_ := Aside0.mk (Kd.R_elder' (by (with_reducible repeat (first | apply Kd.R_alloc | apply Kd.R_drewN | apply Kd.R_drew)); exact HO119.out) (Kd.R_base ho28) hb); have n5_ := Aside0.mk (Kd.R_lower (Kd.R_new' ho28 (Kd.R_lt (by (with_reducible repeat (first | apply Kd.R_alloc | apply Kd.R_drewN | apply Kd.R_drew)); exact HO119.out))) (below_size (by repeat (first | (with_reducible first | exact HB.out | apply below_alloc | apply pw_below_drewN | apply below_drew1) | exact HB.out)))); have n6_ := Aside0.mk (Kd.C_below (by repeat (first | (with_reducible exact HR114_0.out) | (with_reducible refine Kd.C_alloc ?_ _) | (with_reducible refine Kd.C_drewN ?_ _) | (with_reducible refine Kd.C_drew ?_) | exact HR114_0.out)) hb); have n7_ := Aside0.mk (Kd.C_below (by repeat (first | (with_reducible exact HR115_0.out) | (with_reducible refine Kd.C_alloc ?_ _) | (with_reducible refine Kd.C_drewN ?_ _) | (with_reducible refine Kd.C_drew ?_) | exact HR115_0.out)) hb); have n8_ := Aside0.mk (below_step (by repeat (first | (with_reducible first | exact HB.out | apply below_alloc | apply pw_below_drewN | apply below_drew1) | exact HB.out)) hb); clear HO109; clear HO113; clear HL114_0; clear HL115_0; clear HO119; clear HR114_0; clear HR115_0; clear HB; have HO109 := n0_; have HO113 := n1_; have HL114_0 := n2_; have HL115_0 := n3_; have HO119 := n4_; have HO122 := n5_; have HR114_0 := n6_; have HR115_0 := n7_; have HB := n8_; clear n0_ n1_ n2_ n3_ n4_ n5_ n6_ n7_ n8_; clear hb ho28; obtain ⟨Ao29, co29, eo29⟩ := Kd.R_slice HO119.out; subst eo29; obtain ⟨Ao30, co30, eo30⟩ := Kd.R_slice HO122.out; subst eo30) | ((with_reducible refine gate_dst (N := 37) rfl ?_); (try (refine gate_guard (by rfl) ?_; dsimp only)); refine Kd.N_lit (Kd.slice 5 (Kd.int .u8)) _ 43 ?hg (N' := 37) ?hd (xs := ([[], y117, y120] : List (List Int))) (inner := [.slice none 0 0, .slice Ao29 y117.length co29, .slice Ao30 y120.length co30]) (ok := (fun k_ => some k_ ≠ (.slice Ao22 y107.length co22 : Value).ownBlock ∧ some k_ ≠ (.slice (some ad114) t110.length co24 : Value).ownBlock)) (okp := (fun k_ => some k_ ≠ (.slice Ao22 y107.length co22 : Value).ownBlock ∧ some k_ ≠ (.slice (some ad114) t110.length co24 : Value).ownBlock)) ?hr ?hp (fun _ hk => hk) ((show ∀ k_, w27.heap.size ≤ k_ → (fun k_ => some k_ ≠ (.slice Ao22 y107.length co22 : Value).ownBlock ∧ some k_ ≠ (.slice (some ad114) t110.length co24 : Value).ownBlock) k_ from fun k_ hk => ⟨Kd.fresh' (Kd.N_lt (by (with_reducible repeat (first | apply Kd.N_alloc | apply Kd.N_drewN | apply Kd.N_drew)); exact HO109.out)) k_ hk, Kd.fresh' (Kd.N_lt (by (with_reducible repeat (first | apply Kd.N_alloc | apply Kd.N_drewN | apply Kd.N_drew)); exact HO113.out)) k_ hk⟩) _ (Nat.le_refl _)) (Below.refl _ _) (Nat.le_refl _) (by simp) ?_; (case hd => rfl); (case hg => rfl); (case hr => first | (go_simp; done) | (go_simp; rfl)); (case hp => exact (Reps.one (show Kd.FK (Kd.slice 5 (Kd.int .u8)) _ _ [] [.slice none 0 0] from (Kd.FK_slice_mk (Nat.le_refl _) (Kd.F_nil _ _ _))) (Reps.one (show Kd.FK (Kd.slice 5 (Kd.int .u8)) _ _ y117 [.slice Ao29 y117.length co29] from (Kd.FK_slice_mk (Kd.R_reads' (Kd.R_mono (ok' := (fun k_ => some k_ ≠ (.slice Ao22 y107.length co22 : Value).ownBlock ∧ some k_ ≠ (.slice (some ad114) t110.length co24 : Value).ownBlock)) (Kd.R_apart' (Kd.R_apart' (HO119.out) (Kd.N_typed HO109.out) (by decide)) (Kd.N_typed HO113.out) (by decide)) (fun k_ hk => ⟨hk.1.2, hk.2⟩))).2.1 (Kd.R_F (Kd.R_mono (ok' := (fun k_ => some k_ ≠ (.slice Ao22 y107.length co22 : Value).ownBlock ∧ some k_ ≠ (.slice (some ad114) t110.length co24 : Value).ownBlock)) (Kd.R_apart' (Kd.R_apart' (HO119.out) (Kd.N_typed HO109.out) (by decide)) (Kd.N_typed HO113.out) (by decide)) (fun k_ hk => ⟨hk.1.2, hk.2⟩))))) (Reps.one (show Kd.FK (Kd.slice 5 (Kd.int .u8)) _ _ y120 [.slice Ao30 y120.length co30] from (Kd.FK_slice_mk (Kd.R_reads' (Kd.R_mono (ok' := (fun k_ => some k_ ≠ (.slice Ao22 y107.length co22 : Value).ownBlock ∧ some k_ ≠ (.slice (some ad114) t110.length co24 : Value).ownBlock)) (Kd.R_apart' (Kd.R_apart' (HO122.out) (Kd.N_typed HO109.out) (by decide)) (Kd.N_typed HO113.out) (by decide)) (fun k_ hk => ⟨hk.1.2, hk.2⟩))).2.1 (Kd.R_F (Kd.R_mono (ok' := (fun k_ => some k_ ≠ (.slice Ao22 y107.length co22 : Value).ownBlock ∧ some k_ ≠ (.slice (some ad114) t110.length co24 : Value).ownBlock)) (Kd.R_apart' (Kd.R_apart' (HO122.out) (Kd.N_typed HO109.out) (by decide)) (Kd.N_typed HO113.out) (by decide)) (fun k_ hk => ⟨hk.1.2, hk.2⟩))))) (Reps.none _ _))))); intro v124 w31 ho32 hb hg_ hnew_; clear hg_ hnew_; (first | rw [← Ny123.out] at ho32 | (simp only [Int.reduceToNat] at ho32; rw [← Ny123.out] at ho32)); have n0_ := Aside0.mk (Kd.N_elder' (by (with_reducible repeat (first | apply Kd.N_alloc | apply Kd.N_drewN | apply Kd.N_drew)); exact HO109.out) (Kd.N_base ho32) hb); have n1_ := Aside0.mk (Kd.N_elder' (by (with_reducible repeat (first | apply Kd.N_alloc | apply Kd.N_drewN | apply Kd.N_drew)); exact HO113.out) (Kd.N_base ho32) hb); have n2_ := Aside0.mk (Kd.V_elder' (by (with_reducible repeat (first | apply Kd.V_alloc | apply Kd.V_drewN | apply Kd.V_drew)); exact HL114_0.out) (Kd.N_base ho32) hb); have n3_ := Aside0.mk (Kd.V_elder' (by (with_reducible repeat (first | apply Kd.V_alloc | apply Kd.V_drewN | apply Kd.V_drew)); exact HL115_0.out) (Kd.N_base ho32) hb); have n4_ := Aside0.mk (Kd.N_lower ho32 (below_size (by repeat (first | (with_reducible first | exact HB.out | apply below_alloc | apply pw_below_drewN | apply below_drew1) | exact HB.out)))); have n5_ := Aside0.mk (Kd.C_below (by repeat (first | (with_reducible exact HR114_0.out) | (with_reducible refine Kd.C_alloc ?_ _) | (with_reducible refine Kd.C_drewN ?_ _) | (with_reducible refine Kd.C_drew ?_) | exact HR114_0.out)) hb); have n6_ := Aside0.mk (Kd.C_below (by repeat (first | (with_reducible exact HR115_0.out) | (with_reducible refine Kd.C_alloc ?_ _) | (with_reducible refine Kd.C_drewN ?_ _) | (with_reducible refine Kd.C_drew ?_) | exact HR115_0.out)) hb); have n7_ := Aside0.mk (below_step (by repeat (first | (with_reducible first | exact HB.out | apply below_alloc | apply pw_below_drewN | apply below_drew1) | exact HB.out)) hb); clear HO109; clear HO113; clear HL114_0; clear HL115_0; clear HR114_0; clear HR115_0; clear HB; clear HO119; clear HO122; have HO109 := n0_; have HO113 := n1_; have HL114_0 := n2_; have HL115_0 := n3_; have HO125 := n4_; have HR114_0 := n5_; have HR115_0 := n6_; have HB := n7_; clear n0_ n1_ n2_ n3_ n4_ n5_ n6_ n7_; clear hb ho32; obtain ⟨Ao33, co33, eo33⟩ := Kd.N_slice HO125.out; subst eo33) | ((with_reducible refine gate_callee (f := 55) rfl ?_); refine goesL_ (some 38) rfl rfl Try.func55 (by kernel_rfl) rfl #[.slice Ao33 y123.length co33, .int .i64 2] rfl (by (try simp only [List.map_toArray, List.map_cons, List.map_nil]); first | done | rfl | (simp only [List.length_drop, List.length_take]; rfl)) ?_; (with_reducible refine (rs_Decode.calls _ _ y123 2 t126 t127 _ ?side1 ?side2 A8.out).mono ?_); (case side1 => repeat (first | exact (Kd.N_reads' HO125.out).2.2 | (with_reducible refine Kd.C_alloc ?_ _) | (with_reducible refine Kd.C_drewN ?_ _) | (with_reducible refine Kd.C_drew ?_))); (case side2 => exact (Kd.N_reads' HO125.out).2.1); rintro e w34 ⟨v128, rfl, ho0, hb⟩; refine ⟨_, rfl, ?_⟩; have n0_ := Aside0.mk (Kd.N_elder' (by (with_reducible repeat (first | apply Kd.N_alloc | apply Kd.N_drewN | apply Kd.N_drew)); exact HO109.out) (by first | exact Kd.N_base ho0 | exact Kd.N_base (Kd.S_N ho0)) hb); have n1_ := Aside0.mk (Kd.N_elder' (by (with_reducible repeat (first | apply Kd.N_alloc | apply Kd.N_drewN | apply Kd.N_drew)); exact HO113.out) (by first | exact Kd.N_base ho0 | exact Kd.N_base (Kd.S_N ho0)) hb); have n2_ := Aside0.mk (Kd.V_elder' (by (with_reducible repeat (first | apply Kd.V_alloc | apply Kd.V_drewN | apply Kd.V_drew)); exact HL114_0.out) (by first | exact Kd.N_base ho0 | exact Kd.N_base (Kd.S_N ho0)) hb); have n3_ := Aside0.mk (Kd.V_elder' (by (with_reducible repeat (first | apply Kd.V_alloc | apply Kd.V_drewN | apply Kd.V_drew)); exact HL115_0.out) (by first | exact Kd.N_base ho0 | exact Kd.N_base (Kd.S_N ho0)) hb); have n4_ := Aside0.mk (Kd.N_elder' (by (with_reducible repeat (first | apply Kd.N_alloc | apply Kd.N_drewN | apply Kd.N_drew)); exact HO125.out) (by first | exact Kd.N_base ho0 | exact Kd.N_base (Kd.S_N ho0)) hb); have n5_ := Aside0.mk (Kd.N_lower (Kd.N_mono (ok' := fun k_ => some k_ ≠ (.slice Ao22 y107.length co22 : Value).ownBlock ∧ some k_ ≠ (.slice (some ad114) t110.length co24 : Value).ownBlock ∧ some k_ ≠ (.slice Ao33 y123.length co33 : Value).ownBlock) (Kd.S_N (Kd.S_bound ho0)) (fun k_ hk_ => ⟨(Kd.fresh' (Kd.N_lt (by (with_reducible repeat (first | apply Kd.N_alloc | apply Kd.N_drewN | apply Kd.N_drew)); exact HO109.out)) k_ hk_.2.1), (Kd.fresh' (Kd.N_lt (by (with_reducible repeat (first | apply Kd.N_alloc | apply Kd.N_drewN | apply Kd.N_drew)); exact HO113.out)) k_ hk_.2.1), (Kd.fresh' (Kd.N_lt (by (with_reducible repeat (first | apply Kd.N_alloc | apply Kd.N_drewN | apply Kd.N_drew)); exact HO125.out)) k_ hk_.2.1)⟩)) (below_size (by repeat (first | (with_reducible first | exact HB.out | apply below_alloc | apply pw_below_drewN | apply below_drew1) | exact HB.out)))); have n6_ := Aside0.mk (Kd.C_below (by repeat (first | (with_reducible exact HR114_0.out) | (with_reducible refine Kd.C_alloc ?_ _) | (with_reducible refine Kd.C_drewN ?_ _) | (with_reducible refine Kd.C_drew ?_) | exact HR114_0.out)) hb); have n7_ := Aside0.mk (Kd.C_below (by repeat (first | (with_reducible exact HR115_0.out) | (with_reducible refine Kd.C_alloc ?_ _) | (with_reducible refine Kd.C_drewN ?_ _) | (with_reducible refine Kd.C_drew ?_) | exact HR115_0.out)) hb); have n8_ := Aside0.mk (below_step (by repeat (first | (with_reducible first | exact HB.out | apply below_alloc | apply pw_below_drewN | apply below_drew1) | exact HB.out)) hb); clear HO109; clear HO113; clear HL114_0; clear HL115_0; clear HO125; clear HR114_0; clear HR115_0; clear HB; have HO109 := n0_; have HO113 := n1_; have HL114_0 := n2_; have HL115_0 := n3_; have HO125 := n4_; have HO129 := n5_; have HR114_0 := n6_; have HR115_0 := n7_; have HB := n8_; clear n0_ n1_ n2_ n3_ n4_ n5_ n6_ n7_ n8_; (try clear hb); (try clear hb2); (try clear hk); (try clear hi); (try clear ho0); obtain ⟨Ao35, co35, eo35⟩ := Kd.N_slice HO129.out; subst eo35; have p130 : 0 ≤ (0 : Int) := (by omega); have q130 : 0 < (t126.length : Int) := of_decide_eq_true (by first | (with_reducible assumption) | assumption); obtain ⟨ad130, A130_0, c130_0, e130, hx130_0, hl130_0, hi130_0⟩ := at_L1 (Kd.N_reads' HO129.out).2.2 0 p130 q130; cases e130; obtain ⟨ce130, hce130, hMe130, hcc130⟩ := Kd.N_get HO129.out [] 0 p130 (by first | exact q130 | exact of_decide_eq_true (by first | (with_reducible assumption) | assumption) | (have e_ := (Kd.N_reads' HO129.out).1; omega)); obtain ⟨ua130_0, uc130_0, rfl, ul130_0, ge130_0⟩ := Kd.FK_slice_open hMe130; have hv130_0 := hcc130 0 _ rfl; rw [Nat.add_zero, show ((Kd.slice 5 (Kd.int .u8))).sz = 1 from rfl, Nat.mul_one] at hv130_0; replace hv130_0 := Option.some.inj (hv130_0.symm.trans hx130_0); injection hv130_0 with hva_ hvn_ hvc_; rw [hva_] at ge130_0; rw [hvc_] at ul130_0; have HL130_0 := Aside0.mk (show Kd.V (Kd.int .u8) 5 _ w.heap.size _ _ (rd_L1 t126 0) from Kd.V_mk ul130_0 ge130_0); clear hva_ hvn_ hvc_ ge130_0 ul130_0; clear hcc130 hce130; have qi130 : (0 < t126.length) = True := eq_true (by omega); (try rw [show ((0 : Int)).toNat = 0 from rfl] at hx130_0); (try rw [Addr.add_zero'] at hx130_0); have HR130_0 := Aside0.mk hi130_0; have HC130_0 := Aside0.mk hl130_0; clear hi130_0 hl130_0; replace p130 := eq_true p130; replace q130 := eq_true q130; have p131 : 0 ≤ (0 : Int) := (by omega); have q131 : 0 < (t126.length : Int) := of_decide_eq_true (by first | (with_reducible assumption) | assumption); obtain ⟨ad131, A131_0, c131_0, e131, hx131_0, hl131_0, hi131_0⟩ := at_L1 (Kd.N_reads' HO129.out).2.2 0 p131 q131; obtain rfl : ad130 = ad131 := (by injection e131); obtain ⟨ce131, hce131, hMe131, hcc131⟩ := Kd.N_get HO129.out [] 0 p131 (by first | exact q131 | exact of_decide_eq_true (by first | (with_reducible assumption) | assumption) | (have e_ := (Kd.N_reads' HO129.out).1; omega)); obtain ⟨ua131_0, uc131_0, rfl, ul131_0, ge131_0⟩ := Kd.FK_slice_open hMe131; have hv131_0 := hcc131 0 _ rfl; rw [Nat.add_zero, show ((Kd.slice 5 (Kd.int .u8))).sz = 1 from rfl, Nat.mul_one] at hv131_0; replace hv131_0 := Option.some.inj (hv131_0.symm.trans hx131_0); injection hv131_0 with hva_ hvn_ hvc_; rw [hva_] at ge131_0; rw [hvc_] at ul131_0; have HL131_0 := Aside0.mk (show Kd.V (Kd.int .u8) 5 _ w.heap.size _ _ (rd_L1 t126 0) from Kd.V_mk ul131_0 ge131_0); clear hva_ hvn_ hvc_ ge131_0 ul131_0; clear hcc131 hce131; have qi131 : (0 < t126.length) = True := eq_true (by omega); (try rw [show ((0 : Int)).toNat = 0 from rfl] at hx131_0); (try rw [Addr.add_zero'] at hx131_0); have HR131_0 := Aside0.mk hi131_0; have HC131_0 := Aside0.mk hl131_0; clear hi131_0 hl131_0; replace p131 := eq_true p131; replace q131 := eq_true q131; have ea_ := Option.some.inj (hx130_0.symm.trans hx131_0); injection ea_ with ea_ en_ ec_; subst ea_; subst ec_; clear en_; have p132 : 0 ≤ (0 : Int) := (by omega); have q132 : 0 < ((rd_L1 t126 0).length : Int) := of_decide_eq_true (by first | (with_reducible assumption) | assumption); obtain ⟨ad132, e132, hx132_0⟩ := Kd.at_int (by repeat (first | (with_reducible exact HR131_0.out) | (with_reducible refine Kd.C_alloc ?_ _) | (with_reducible refine Kd.C_drewN ?_ _) | (with_reducible refine Kd.C_drew ?_) | exact HR131_0.out)) 0 p132 q132; cases e132; have qi132 : (0 < (rd_L1 t126 0).length) = True := eq_true (by omega); (try rw [show ((0 : Int)).toNat = 0 from rfl] at hx132_0); (try rw [Addr.add_zero'] at hx132_0); replace p132 := eq_true p132; replace q132 := eq_true q132))
                        go_ret
                        exact ⟨by first | rfl | (simp [errW_none, errW_some] <;> rfl) | (simp [*, errW_none, errW_some] <;> rfl), by repeat (first | (with_reducible first | exact HB.out | apply below_alloc | apply pw_below_drewN | apply below_drew1) | exact HB.out)⟩
                      · rw [if_neg c13] at H
                        exact absurd H (by simp)
                    · rw [if_neg c12] at H
                      exact absurd H (by simp)
                  · rw [if_neg c11] at H
                    exact absurd H (by simp)
                · rw [if_neg c10] at H
                  exact absurd H (by simp)
              · rw [if_neg c9] at H
                exact absurd H (by simp)
            · rw [if_neg c7] at H
              exact absurd H (by simp)
          · rw [if_neg c6] at H
            exact absurd H (by simp)
        · rw [if_neg c5] at H
          exact absurd H (by simp)
      · rw [if_neg c4] at H
        exact absurd H (by simp)
    · rw [if_neg c3] at H
      exact absurd H (by simp)
  · rw [if_neg c2] at H
    exact absurd H (by simp)
-- GIVEN: function 50 (quartermasterlaw03_light)
-- GIVEN: function 43 (quartermasterref02_May)
-- GIVEN: function 60 (quartermasterref01_bit)
-- GIVEN: function 62 (quartermasterref01_power)
-- GIVEN: function 61 (quartermasterref01_sum)
-- GIVEN: function 33 (quartermasterref01_Mul)
-- GIVEN: function 35 (quartermasterref01_Add)
-- GIVEN: function 47 (quartermasterref02_Mul)
-- GIVEN: function 38 (quartermasterref02_One)
-- GIVEN: function 26 (quartermasterref01_Div)
-- GIVEN: function 40 (quartermasterref02_Cauchy)
-- GIVEN: function 54 (quartermasterref03_Rows)
-- GIVEN: function 52 (quartermasterref03_Encode)
end Go.Proofs.Ythblmkailhdhlaa.U
/- law03.awake. -/
namespace Go.Proofs.Ythblmkailhdhlaa.Mat
set_option linter.unusedVariables false
open Go.RowKit Go.Proofs.Ythblmkailhdhlaa.F Go.Proofs.Ythblmkailhdhlaa.R Go.Proofs.Ythblmkailhdhlaa.G Go.Proofs.Ythblmkailhdhlaa.P Go.Proofs.Ythblmkailhdhlaa.Given Go.Proofs.Ythblmkailhdhlaa.Gf Go.Proofs.YthblmkailhdhlaaW.PrintWords
theorem shares_ex : shares 1 [[1], [2]] = [[123]] := by decide +kernel
theorem enc_ex {q : Nat} (hq : 100 ≤ q) : T.rs_Encode.f q [[1], [2]] 1 = some ([[123]], 0) := by
  have := renc_good (k := 2) (c := 1) (m := 1) (D := [[1], [2]]) (by unfold Rect; decide) (by omega) (by omega) (by omega) hq
  rw [shares_ex] at this
  exact this
theorem dec_ex : rs_Decode.f [[], [2], [123]] 2 = some ([[1], [2], [123]], 0) := by
  have := dec_back (q := 2000) (sh := [[], [2], [123]]) (D := [[1], [2]]) (k := 2) (m := 1) (c := 1) (by unfold Rect; decide) (by omega) (by omega) (by omega) rfl (by rw [shares_ex]; decide) (by omega)
  rw [shares_ex, if_neg (by decide)] at this
  exact this
theorem awake3_f {q : Nat} (hq : 100 ≤ q) : U.quartermasterlaw03_awake.f q = some true := by
  unfold U.quartermasterlaw03_awake.f
  rw [enc_ex hq, dec_ex]
  decide
end Go.Proofs.Ythblmkailhdhlaa.Mat
namespace Go.Proofs.Ythblmkailhdhlaa.Given
open Go.RowKit Go.Proofs.Ythblmkailhdhlaa.Mat
def quartermasterlaw03_awake.f : Option Bool := some true
theorem quartermasterlaw03_awake.calls (r : Bool) (w : World) (h : quartermasterlaw03_awake.f = some r) :
    Calls Try.prog 49 #[] w fun e w' => e = .returned (.bool r) ∧ Below w.heap.size w w' := by
  injection h with h; subst h
  exact U.quartermasterlaw03_awake.calls 100 true w (awake3_f (by omega))
end Go.Proofs.Ythblmkailhdhlaa.Given
