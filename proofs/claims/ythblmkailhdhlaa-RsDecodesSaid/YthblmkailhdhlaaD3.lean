import Derived.Test.YthblmkailhdhlaaD2
import Derived.Lib.Hide
import Derived.Test.YthblmkailhdhlaaD8
-- PRINTED by print.py (a twelfth state) out of the translation. Not trusted: Lean checks it.
namespace Go.Proofs.Ythblmkailhdhlaa.P
open Go.Proofs.Ythblmkailhdhlaa.G Go.RowKit Go.Proofs.YthblmkailhdhlaaW.PrintWords Go.Proofs.YthblmkailhdhlaaW.PrintLast Go.Proofs.YthblmkailhdhlaaW.PrintMore
attribute [local go_sem] max2_int min2_int max_two min_two max_three min_three max_four min_four   -- for this text's walks alone
set_option linter.unusedVariables false
set_option linter.unusedSimpArgs false
/-! ### quartermasterref02_Same: function 41 -/
mutual
def quartermasterref02_Same.l0 : Nat → List (List Int) → List (List Int) → Int → Option (Bool)
  | 0, _, _, _ => none
  | k + 1, x0, x1, x5 => if x5 < (x0.length : Int) then (if 0 ≤ x5 then (if x5 < (x1.length : Int) then (if ((rd_L1 x0 x5).length : Int) = ((rd_L1 x1 x5).length : Int) then (quartermasterref02_Same.l1 k x0 x1 x5 0) else (some false)) else (none)) else (none)) else (some true)
def quartermasterref02_Same.l1 : Nat → List (List Int) → List (List Int) → Int → Int → Option (Bool)
  | 0, _, _, _, _ => none
  | k + 1, x0, x1, x5, x6 => if 0 ≤ x5 then (if x5 < (x0.length : Int) then (if x6 < ((rd_L1 x0 x5).length : Int) then (if 0 ≤ x6 then (if x5 < (x1.length : Int) then (if x6 < ((rd_L1 x1 x5).length : Int) then (if (rd (rd_L1 x0 x5) x6) = (rd (rd_L1 x1 x5) x6) then (quartermasterref02_Same.l1 k x0 x1 x5 (wrap64 (x6 + 1))) else (some false)) else (none)) else (none)) else (none)) else (quartermasterref02_Same.l0 k x0 x1 (wrap64 (x5 + 1)))) else (none)) else (none)
end
def quartermasterref02_Same.f (k : Nat) (l0 : List (List Int)) (l1 : List (List Int)) : Option (Bool) := if (l0.length : Int) = (l1.length : Int) then (quartermasterref02_Same.l0 k l0 l1 0) else (some false)
set_option maxHeartbeats 8000000 in
set_option maxRecDepth 100000 in
theorem quartermasterref02_Same.calls (k : Nat) (A0 : Option Addr) (c0 : Nat) (l0 : List (List Int)) (A1 : Option Addr) (c1 : Nat) (l1 : List (List Int)) (r : Bool) (w : World) (hr0 : Kd.C (Kd.slice 5 (Kd.int .u8)) w A0 l0.length l0) (hc0 : l0.length ≤ c0) (hr1 : Kd.C (Kd.slice 5 (Kd.int .u8)) w A1 l1.length l1) (hc1 : l1.length ≤ c1) (h : quartermasterref02_Same.f k l0 l1 = some r) :
    Calls Try.prog 41 #[.slice A0 l0.length c0, .slice A1 l1.length c1] w fun e w' => e = .returned (.bool r) ∧ Drawn0 w w' := by
  have HR0 := Aside0.mk hr0
  have HC0 := Aside0.mk hc0
  clear hr0 hc0
  have HR1 := Aside0.mk hr1
  have HC1 := Aside0.mk hc1
  clear hr1 hc1
  have H : (if (l0.length : Int) = (l1.length : Int) then (quartermasterref02_Same.l0 k l0 l1 0) else (some false)) = some r := h
  clear h
  by_cases c3 : (l0.length : Int) = (l1.length : Int)
  · rw [if_pos c3] at H
    have c3b0 : ((l0.length : Int) == (l1.length : Int)) = true := beq_iff_eq.mpr c3
    have c3b1 : ((l0.length : Int) != (l1.length : Int)) = false := bne_eq_false_iff_eq.mpr c3
    have c3b2 : (l0.length == l1.length) = true := by first | simpa using c3 | (simp at c3 ⊢; omega)
    clear c3
    have H' := Aside0.mk H
    clear H
    go_enter Try.func41, Try.ntmps41
    go_wp2
    repeat (go_quiet (fail); try go_wp2)
    go_loopg [5] k (fun kq v5 w' => ∃ (x5_1 : Int), v5 = .int .i64 x5_1 ∧ Aside0 (quartermasterref02_Same.l0 kq l0 l1 x5_1 = some r) ∧ Aside0 (kq ≤ k) ∧ Drawn0 w w')
    case atStart => exact ⟨(0), (by first | rfl | (simp; done) | (simp [*]; done)), H', ⟨Nat.le_refl _⟩, by repeat (first | exact Drawn0.refl _ | apply Drawn0.step)⟩
    case round =>
      clear H'
      try clear c1
      try clear p2
      try clear c3
      try clear c3b0
      try clear c3b1
      try clear c3b2
      obtain ⟨x5_1, rfl, HA, HK1, ⟨m1, rfl⟩⟩ := hrel
      cases gk with
      | zero => exact absurd HA.out (by simp [quartermasterref02_Same.l0])
      | succ k1 =>
        have H := HA.out
        clear HA
        simp only [quartermasterref02_Same.l0] at H
        by_cases c4 : x5_1 < (l0.length : Int)
        · rw [if_pos c4] at H
          have c4b0 : decide (x5_1 < (l0.length : Int)) = true := decide_eq_true c4
          clear c4
          by_cases c5 : 0 ≤ x5_1
          · rw [if_pos c5] at H
            have c5b0 : decide (0 ≤ x5_1) = true := decide_eq_true c5
            clear c5
            by_cases c6 : x5_1 < (l1.length : Int)
            · rw [if_pos c6] at H
              have c6b0 : decide (x5_1 < (l1.length : Int)) = true := decide_eq_true c6
              clear c6
              by_cases c7 : ((rd_L1 l0 x5_1).length : Int) = ((rd_L1 l1 x5_1).length : Int)
              · rw [if_pos c7] at H
                have c7b0 : (((rd_L1 l0 x5_1).length : Int) == ((rd_L1 l1 x5_1).length : Int)) = true := beq_iff_eq.mpr c7
                have c7b1 : (((rd_L1 l0 x5_1).length : Int) != ((rd_L1 l1 x5_1).length : Int)) = false := bne_eq_false_iff_eq.mpr c7
                have c7b2 : ((rd_L1 l0 x5_1).length == (rd_L1 l1 x5_1).length) = true := by first | simpa using c7 | (simp at c7 ⊢; omega)
                clear c7
                have H' := Aside0.mk H
                clear H
                have p127 : 0 ≤ (x5_1 : Int) := of_decide_eq_true (by first | (with_reducible assumption) | assumption)
                have q127 : x5_1 < (l0.length : Int) := of_decide_eq_true (by first | (with_reducible assumption) | assumption)
                obtain ⟨ad127, A127_0, c127_0, e127, hx127_0, hl127_0, hi127_0⟩ := at_L1 HR0.out x5_1 p127 q127
                cases e127
                have HR127_0 := Aside0.mk hi127_0
                have HC127_0 := Aside0.mk hl127_0
                clear hi127_0 hl127_0
                replace p127 := eq_true p127
                replace q127 := eq_true q127
                have p128 : 0 ≤ (x5_1 : Int) := of_decide_eq_true (by first | (with_reducible assumption) | assumption)
                have q128 : x5_1 < (l1.length : Int) := of_decide_eq_true (by first | (with_reducible assumption) | assumption)
                obtain ⟨ad128, A128_0, c128_0, e128, hx128_0, hl128_0, hi128_0⟩ := at_L1 HR1.out x5_1 p128 q128
                cases e128
                have HR128_0 := Aside0.mk hi128_0
                have HC128_0 := Aside0.mk hl128_0
                clear hi128_0 hl128_0
                replace p128 := eq_true p128
                replace q128 := eq_true q128
                go_wp2
                repeat (go_quiet (fail); try go_wp2)
                go_loopg [6] k1 (fun kq v6 w' => ∃ (x6_2 : Int), v6 = .int .i64 x6_2 ∧ Aside0 (quartermasterref02_Same.l1 kq l0 l1 x5_1 x6_2 = some r) ∧ Aside0 (kq ≤ k1) ∧ Drawn0 w w')
                case atStart => exact ⟨(0), (by first | rfl | (simp; done) | (simp [*]; done)), H', ⟨Nat.le_refl _⟩, by repeat (first | exact Drawn0.refl _ | apply Drawn0.step)⟩
                case round =>
                  clear H'
                  try clear c1
                  try clear p1
                  try clear q1
                  try clear hx1
                  try clear p2
                  try clear c3
                  try clear c3b0
                  try clear c3b1
                  try clear c3b2
                  try clear c4
                  try clear c4b0
                  try clear c5
                  try clear c5b0
                  try clear c6
                  try clear c6b0
                  try clear c7
                  try clear c7b0
                  try clear c7b1
                  try clear c7b2
                  try clear hx127_0
                  try clear hx128_0
                  try clear p127
                  try clear p128
                  try clear p2
                  try clear q127
                  try clear q128
                  obtain ⟨x6_2, rfl, HA, HK2, ⟨m2, rfl⟩⟩ := hrel
                  cases gk with
                  | zero => exact absurd HA.out (by simp [quartermasterref02_Same.l1])
                  | succ k2 =>
                    have H := HA.out
                    clear HA
                    simp only [quartermasterref02_Same.l1] at H
                    by_cases c8 : 0 ≤ x5_1
                    · rw [if_pos c8] at H
                      have c8b0 : decide (0 ≤ x5_1) = true := decide_eq_true c8
                      clear c8
                      by_cases c9 : x5_1 < (l0.length : Int)
                      · rw [if_pos c9] at H
                        have c9b0 : decide (x5_1 < (l0.length : Int)) = true := decide_eq_true c9
                        clear c9
                        by_cases c10 : x6_2 < ((rd_L1 l0 x5_1).length : Int)
                        · rw [if_pos c10] at H
                          have c10b0 : decide (x6_2 < ((rd_L1 l0 x5_1).length : Int)) = true := decide_eq_true c10
                          clear c10
                          by_cases c11 : 0 ≤ x6_2
                          · rw [if_pos c11] at H
                            have c11b0 : decide (0 ≤ x6_2) = true := decide_eq_true c11
                            clear c11
                            by_cases c12 : x5_1 < (l1.length : Int)
                            · rw [if_pos c12] at H
                              have c12b0 : decide (x5_1 < (l1.length : Int)) = true := decide_eq_true c12
                              clear c12
                              by_cases c13 : x6_2 < ((rd_L1 l1 x5_1).length : Int)
                              · rw [if_pos c13] at H
                                have c13b0 : decide (x6_2 < ((rd_L1 l1 x5_1).length : Int)) = true := decide_eq_true c13
                                clear c13
                                by_cases c14 : (rd (rd_L1 l0 x5_1) x6_2) = (rd (rd_L1 l1 x5_1) x6_2)
                                · rw [if_pos c14] at H
                                  have c14b0 : ((rd (rd_L1 l0 x5_1) x6_2) == (rd (rd_L1 l1 x5_1) x6_2)) = true := beq_iff_eq.mpr c14
                                  have c14b1 : ((rd (rd_L1 l0 x5_1) x6_2) != (rd (rd_L1 l1 x5_1) x6_2)) = false := bne_eq_false_iff_eq.mpr c14
                                  clear c14
                                  have H' := Aside0.mk H
                                  clear H
                                  have p129 : 0 ≤ (x5_1 : Int) := of_decide_eq_true (by first | (with_reducible assumption) | assumption)
                                  have q129 : x5_1 < (l0.length : Int) := of_decide_eq_true (by first | (with_reducible assumption) | assumption)
                                  obtain ⟨ad129, A129_0, c129_0, e129, hx129_0, hl129_0, hi129_0⟩ := at_L1 HR0.out x5_1 p129 q129
                                  obtain rfl : ad127 = ad129 := (by injection e129)
                                  have HR129_0 := Aside0.mk hi129_0
                                  have HC129_0 := Aside0.mk hl129_0
                                  clear hi129_0 hl129_0
                                  replace p129 := eq_true p129
                                  replace q129 := eq_true q129
                                  have p130 : 0 ≤ (x5_1 : Int) := of_decide_eq_true (by first | (with_reducible assumption) | assumption)
                                  have q130 : x5_1 < (l0.length : Int) := of_decide_eq_true (by first | (with_reducible assumption) | assumption)
                                  obtain ⟨ad130, A130_0, c130_0, e130, hx130_0, hl130_0, hi130_0⟩ := at_L1 HR0.out x5_1 p130 q130
                                  obtain rfl : ad127 = ad130 := (by injection e130)
                                  have HR130_0 := Aside0.mk hi130_0
                                  have HC130_0 := Aside0.mk hl130_0
                                  clear hi130_0 hl130_0
                                  replace p130 := eq_true p130
                                  replace q130 := eq_true q130
                                  have ea_ := Option.some.inj (hx129_0.symm.trans hx130_0)
                                  injection ea_ with ea_ en_ ec_
                                  subst ea_
                                  subst ec_
                                  clear en_
                                  have p131 : 0 ≤ (x6_2 : Int) := of_decide_eq_true (by first | (with_reducible assumption) | assumption)
                                  have q131 : x6_2 < ((rd_L1 l0 x5_1).length : Int) := of_decide_eq_true (by first | (with_reducible assumption) | assumption)
                                  obtain ⟨ad131, e131, hx131_0⟩ := Kd.at_int HR130_0.out x6_2 p131 q131
                                  cases e131
                                  replace p131 := eq_true p131
                                  replace q131 := eq_true q131
                                  have p132 : 0 ≤ (x5_1 : Int) := of_decide_eq_true (by first | (with_reducible assumption) | assumption)
                                  have q132 : x5_1 < (l1.length : Int) := of_decide_eq_true (by first | (with_reducible assumption) | assumption)
                                  obtain ⟨ad132, A132_0, c132_0, e132, hx132_0, hl132_0, hi132_0⟩ := at_L1 HR1.out x5_1 p132 q132
                                  obtain rfl : ad128 = ad132 := (by injection e132)
                                  have HR132_0 := Aside0.mk hi132_0
                                  have HC132_0 := Aside0.mk hl132_0
                                  clear hi132_0 hl132_0
                                  replace p132 := eq_true p132
                                  replace q132 := eq_true q132
                                  have p133 : 0 ≤ (x6_2 : Int) := of_decide_eq_true (by first | (with_reducible assumption) | assumption)
                                  have q133 : x6_2 < ((rd_L1 l1 x5_1).length : Int) := of_decide_eq_true (by first | (with_reducible assumption) | assumption)
                                  obtain ⟨ad133, e133, hx133_0⟩ := Kd.at_int HR132_0.out x6_2 p133 q133
                                  cases e133
                                  replace p133 := eq_true p133
                                  replace q133 := eq_true q133
                                  go_wp2
                                  repeat (go_quiet (fail); try go_wp2)
                                  go_roundg k2
                                  case measure => have := HK1.out; have := HK2.out; omega
                                  case rel => exact ⟨(wrap64 (x6_2 + 1)), (by first | rfl | (simp; done) | (simp [*]; done)), H', ⟨by have := HK1.out; have := HK2.out; omega⟩, by repeat (first | exact Drawn0.refl _ | apply Drawn0.step)⟩
                                · rw [if_neg c14] at H
                                  have c14b0 : ((rd (rd_L1 l0 x5_1) x6_2) == (rd (rd_L1 l1 x5_1) x6_2)) = false := beq_eq_false_iff_ne.mpr c14
                                  have c14b1 : ((rd (rd_L1 l0 x5_1) x6_2) != (rd (rd_L1 l1 x5_1) x6_2)) = true := bne_iff_ne.mpr c14
                                  obtain rfl := Option.some.inj H
                                  have p129 : 0 ≤ (x5_1 : Int) := of_decide_eq_true (by first | (with_reducible assumption) | assumption)
                                  have q129 : x5_1 < (l0.length : Int) := of_decide_eq_true (by first | (with_reducible assumption) | assumption)
                                  obtain ⟨ad129, A129_0, c129_0, e129, hx129_0, hl129_0, hi129_0⟩ := at_L1 HR0.out x5_1 p129 q129
                                  obtain rfl : ad127 = ad129 := (by injection e129)
                                  have HR129_0 := Aside0.mk hi129_0
                                  have HC129_0 := Aside0.mk hl129_0
                                  clear hi129_0 hl129_0
                                  replace p129 := eq_true p129
                                  replace q129 := eq_true q129
                                  have p130 : 0 ≤ (x5_1 : Int) := of_decide_eq_true (by first | (with_reducible assumption) | assumption)
                                  have q130 : x5_1 < (l0.length : Int) := of_decide_eq_true (by first | (with_reducible assumption) | assumption)
                                  obtain ⟨ad130, A130_0, c130_0, e130, hx130_0, hl130_0, hi130_0⟩ := at_L1 HR0.out x5_1 p130 q130
                                  obtain rfl : ad127 = ad130 := (by injection e130)
                                  have HR130_0 := Aside0.mk hi130_0
                                  have HC130_0 := Aside0.mk hl130_0
                                  clear hi130_0 hl130_0
                                  replace p130 := eq_true p130
                                  replace q130 := eq_true q130
                                  have ea_ := Option.some.inj (hx129_0.symm.trans hx130_0)
                                  injection ea_ with ea_ en_ ec_
                                  subst ea_
                                  subst ec_
                                  clear en_
                                  have p131 : 0 ≤ (x6_2 : Int) := of_decide_eq_true (by first | (with_reducible assumption) | assumption)
                                  have q131 : x6_2 < ((rd_L1 l0 x5_1).length : Int) := of_decide_eq_true (by first | (with_reducible assumption) | assumption)
                                  obtain ⟨ad131, e131, hx131_0⟩ := Kd.at_int HR130_0.out x6_2 p131 q131
                                  cases e131
                                  replace p131 := eq_true p131
                                  replace q131 := eq_true q131
                                  have p132 : 0 ≤ (x5_1 : Int) := of_decide_eq_true (by first | (with_reducible assumption) | assumption)
                                  have q132 : x5_1 < (l1.length : Int) := of_decide_eq_true (by first | (with_reducible assumption) | assumption)
                                  obtain ⟨ad132, A132_0, c132_0, e132, hx132_0, hl132_0, hi132_0⟩ := at_L1 HR1.out x5_1 p132 q132
                                  obtain rfl : ad128 = ad132 := (by injection e132)
                                  have HR132_0 := Aside0.mk hi132_0
                                  have HC132_0 := Aside0.mk hl132_0
                                  clear hi132_0 hl132_0
                                  replace p132 := eq_true p132
                                  replace q132 := eq_true q132
                                  have p133 : 0 ≤ (x6_2 : Int) := of_decide_eq_true (by first | (with_reducible assumption) | assumption)
                                  have q133 : x6_2 < ((rd_L1 l1 x5_1).length : Int) := of_decide_eq_true (by first | (with_reducible assumption) | assumption)
                                  obtain ⟨ad133, e133, hx133_0⟩ := Kd.at_int HR132_0.out x6_2 p133 q133
                                  cases e133
                                  replace p133 := eq_true p133
                                  replace q133 := eq_true q133
                                  go_wp2
                                  repeat (go_quiet (fail); try go_wp2)
                                  go_ret
                                  exact ⟨by first | rfl | (simp; done) | (simp [*]; done), by repeat (first | exact Drawn0.refl _ | apply Drawn0.step)⟩
                              · rw [if_neg c13] at H
                                exact absurd H (by simp)
                            · rw [if_neg c12] at H
                              exact absurd H (by simp)
                          · rw [if_neg c11] at H
                            exact absurd H (by simp)
                        · rw [if_neg c10] at H
                          have c10b0 : decide (x6_2 < ((rd_L1 l0 x5_1).length : Int)) = false := decide_eq_false c10
                          clear c10
                          have H' := Aside0.mk H
                          clear H
                          have p129 : 0 ≤ (x5_1 : Int) := of_decide_eq_true (by first | (with_reducible assumption) | assumption)
                          have q129 : x5_1 < (l0.length : Int) := of_decide_eq_true (by first | (with_reducible assumption) | assumption)
                          obtain ⟨ad129, A129_0, c129_0, e129, hx129_0, hl129_0, hi129_0⟩ := at_L1 HR0.out x5_1 p129 q129
                          obtain rfl : ad127 = ad129 := (by injection e129)
                          have HR129_0 := Aside0.mk hi129_0
                          have HC129_0 := Aside0.mk hl129_0
                          clear hi129_0 hl129_0
                          replace p129 := eq_true p129
                          replace q129 := eq_true q129
                          go_wp2
                          repeat (go_quiet (fail); try go_wp2)
                          go_roundg k2
                          case measure => have := HK1.out; have := HK2.out; omega
                          case rel => exact ⟨(wrap64 (x5_1 + 1)), (by first | rfl | (simp; done) | (simp [*]; done)), H', ⟨by have := HK1.out; have := HK2.out; omega⟩, by repeat (first | exact Drawn0.refl _ | apply Drawn0.step)⟩
                      · rw [if_neg c9] at H
                        exact absurd H (by simp)
                    · rw [if_neg c8] at H
                      exact absurd H (by simp)
              · rw [if_neg c7] at H
                have c7b0 : (((rd_L1 l0 x5_1).length : Int) == ((rd_L1 l1 x5_1).length : Int)) = false := beq_eq_false_iff_ne.mpr c7
                have c7b1 : (((rd_L1 l0 x5_1).length : Int) != ((rd_L1 l1 x5_1).length : Int)) = true := bne_iff_ne.mpr c7
                have c7b2 : ((rd_L1 l0 x5_1).length == (rd_L1 l1 x5_1).length) = false := by first | simpa using c7 | (simp at c7 ⊢; omega)
                obtain rfl := Option.some.inj H
                have p127 : 0 ≤ (x5_1 : Int) := of_decide_eq_true (by first | (with_reducible assumption) | assumption)
                have q127 : x5_1 < (l0.length : Int) := of_decide_eq_true (by first | (with_reducible assumption) | assumption)
                obtain ⟨ad127, A127_0, c127_0, e127, hx127_0, hl127_0, hi127_0⟩ := at_L1 HR0.out x5_1 p127 q127
                cases e127
                have HR127_0 := Aside0.mk hi127_0
                have HC127_0 := Aside0.mk hl127_0
                clear hi127_0 hl127_0
                replace p127 := eq_true p127
                replace q127 := eq_true q127
                have p128 : 0 ≤ (x5_1 : Int) := of_decide_eq_true (by first | (with_reducible assumption) | assumption)
                have q128 : x5_1 < (l1.length : Int) := of_decide_eq_true (by first | (with_reducible assumption) | assumption)
                obtain ⟨ad128, A128_0, c128_0, e128, hx128_0, hl128_0, hi128_0⟩ := at_L1 HR1.out x5_1 p128 q128
                cases e128
                have HR128_0 := Aside0.mk hi128_0
                have HC128_0 := Aside0.mk hl128_0
                clear hi128_0 hl128_0
                replace p128 := eq_true p128
                replace q128 := eq_true q128
                go_wp2
                repeat (go_quiet (fail); try go_wp2)
                go_ret
                exact ⟨by first | rfl | (simp; done) | (simp [*]; done), by repeat (first | exact Drawn0.refl _ | apply Drawn0.step)⟩
            · rw [if_neg c6] at H
              exact absurd H (by simp)
          · rw [if_neg c5] at H
            exact absurd H (by simp)
        · rw [if_neg c4] at H
          have c4b0 : decide (x5_1 < (l0.length : Int)) = false := decide_eq_false c4
          clear c4
          obtain rfl := Option.some.inj H
          go_wp2
          repeat (go_quiet (fail); try go_wp2)
          go_ret
          exact ⟨by first | rfl | (simp; done) | (simp [*]; done), by repeat (first | exact Drawn0.refl _ | apply Drawn0.step)⟩
  · rw [if_neg c3] at H
    have c3b0 : ((l0.length : Int) == (l1.length : Int)) = false := beq_eq_false_iff_ne.mpr c3
    have c3b1 : ((l0.length : Int) != (l1.length : Int)) = true := bne_iff_ne.mpr c3
    have c3b2 : (l0.length == l1.length) = false := by first | simpa using c3 | (simp at c3 ⊢; omega)
    obtain rfl := Option.some.inj H
    go_enter Try.func41, Try.ntmps41
    go_wp2
    repeat (go_quiet (fail); try go_wp2)
    go_ret
    exact ⟨by first | rfl | (simp; done) | (simp [*]; done), by repeat (first | exact Drawn0.refl _ | apply Drawn0.step)⟩
end Go.Proofs.Ythblmkailhdhlaa.P
-- PRINTED by print.py (a twelfth state) out of the translation. Not trusted: Lean checks it.
namespace Go.Proofs.Ythblmkailhdhlaa.P
open Go.Proofs.Ythblmkailhdhlaa.G Go.RowKit Go.Proofs.YthblmkailhdhlaaW.PrintWords Go.Proofs.YthblmkailhdhlaaW.PrintLast Go.Proofs.YthblmkailhdhlaaW.PrintMore
attribute [local go_sem] max2_int min2_int max_two min_two max_three min_three max_four min_four   -- for this text's walks alone
set_option linter.unusedVariables false
set_option linter.unusedSimpArgs false
/-! ### quartermasterref02_May: function 43 -/
mutual
def quartermasterref02_May.j0 : Nat → List (List Int) → Bool → Option (Bool)
  | 0, _, _ => none
  | k + 1, x0, x11 => if x11 = true then (some false) else (quartermasterref02_May.l0 k x0 0)
def quartermasterref02_May.l0 : Nat → List (List Int) → Int → Option (Bool)
  | 0, _, _ => none
  | k + 1, x0, x3 => if x3 < (x0.length : Int) then (if 0 ≤ x3 then (if ((rd_L1 x0 x3).length : Int) < 1 then (some false) else (if ((rd_L1 x0 x3).length : Int) > 4096 then (some false) else (if 0 < (x0.length : Int) then (if ((rd_L1 x0 x3).length : Int) = ((rd_L1 x0 0).length : Int) then (quartermasterref02_May.l0 k x0 (wrap64 (x3 + 1))) else (some false)) else (none)))) else (none)) else (some true)
end
def quartermasterref02_May.f (k : Nat) (l0 : List (List Int)) : Option (Bool) := if (l0.length : Int) < 1 then (quartermasterref02_May.j0 k l0 true) else (quartermasterref02_May.j0 k l0 (decide ((l0.length : Int) > 64)))
set_option maxHeartbeats 8000000 in
set_option maxRecDepth 100000 in
theorem quartermasterref02_May.calls (k : Nat) (A0 : Option Addr) (c0 : Nat) (l0 : List (List Int)) (r : Bool) (w : World) (hr0 : Kd.C (Kd.slice 5 (Kd.int .u8)) w A0 l0.length l0) (hc0 : l0.length ≤ c0) (h : quartermasterref02_May.f k l0 = some r) :
    Calls Try.prog 43 #[.slice A0 l0.length c0] w fun e w' => e = .returned (.bool r) ∧ Drawn0 w w' := by
  have HR0 := Aside0.mk hr0
  have HC0 := Aside0.mk hc0
  clear hr0 hc0
  have H : (if (l0.length : Int) < 1 then (quartermasterref02_May.j0 k l0 true) else (quartermasterref02_May.j0 k l0 (decide ((l0.length : Int) > 64)))) = some r := h
  clear h
  have HC2 := Aside0.mk H
  clear H
  go_enter Try.func43, Try.ntmps43
  go_upto_region 1 with (fail)
  repeat (go_quiet (fail); go_upto_region 1 with (fail))
  go_cut [11] (fun v11 wc => ∃ (kq : Nat) (x11_1 : Bool), v11 = .bool x11_1 ∧ Aside0 (quartermasterref02_May.j0 kq l0 x11_1 = some r) ∧ Aside0 (kq ≤ k) ∧ Drawn0 w wc)
  case first =>
    have H := HC2.out
    clear HC2
    by_cases c3 : (l0.length : Int) < 1
    · rw [if_pos c3] at H
      have c3b0 : decide ((l0.length : Int) < 1) = true := decide_eq_true c3
      have c3b1 : decide (l0.length < 1) = true := decide_eq_true (by omega)
      clear c3
      (first | rw [c3b0] | (simp only [i64_w, i32_w]; rw [c3b0]) | skip)
      have H' := Aside0.mk H
      clear H
      go_wp2
      repeat (go_quiet (fail); try go_wp2)
      go_meet
      case rel => exact ⟨_, (true), (by first | rfl | (simp; done) | (simp [*]; done)), H', ⟨by first | omega | exact Nat.le_refl _⟩, by repeat (first | exact Drawn0.refl _ | apply Drawn0.step)⟩
    · rw [if_neg c3] at H
      have c3b0 : decide ((l0.length : Int) < 1) = false := decide_eq_false c3
      have c3b1 : decide (l0.length < 1) = false := decide_eq_false (by omega)
      clear c3
      (first | rw [c3b0] | (simp only [i64_w, i32_w]; rw [c3b0]) | skip)
      have H' := Aside0.mk H
      clear H
      go_wp2
      repeat (go_quiet (fail); try go_wp2)
      go_meet
      case rel => exact ⟨_, (decide ((l0.length : Int) > 64)), (by first | rfl | (simp; done) | (simp [*]; done)), H', ⟨by first | omega | exact Nat.le_refl _⟩, by repeat (first | exact Drawn0.refl _ | apply Drawn0.step)⟩
  case rest =>
    clear HC2
    try clear p2
    try clear c3
    try clear c3b0
    try clear c3b1
    obtain ⟨kq, x11_1, rfl, HA, HJ1, ⟨mc1, rfl⟩⟩ := hcut
    cases kq with
    | zero => exact absurd HA.out (by simp [quartermasterref02_May.j0])
    | succ kj1 =>
      have H := HA.out
      clear HA
      simp only [quartermasterref02_May.j0] at H
      by_cases c4 : x11_1 = true
      · subst c4
        have H1 : (some false) = some r := by rw [if_pos rfl] at H; exact H
        clear H
        have H := H1
        clear H1
        obtain rfl := Option.some.inj H
        go_wp2
        repeat (go_quiet (fail); try go_wp2)
        go_ret
        exact ⟨by first | rfl | (simp; done) | (simp [*]; done), by repeat (first | exact Drawn0.refl _ | apply Drawn0.step)⟩
      · replace c4 := Bool.eq_false_iff.mpr c4
        subst c4
        have H1 : (quartermasterref02_May.l0 kj1 l0 0) = some r := by rw [if_neg (show ¬ (false = true) by decide)] at H; exact H
        clear H
        have H := H1
        clear H1
        have H' := Aside0.mk H
        clear H
        go_wp2
        repeat (go_quiet (fail); try go_wp2)
        go_loopg [3] kj1 (fun kq v3 w' => ∃ (x3_2 : Int), v3 = .int .i64 x3_2 ∧ Aside0 (quartermasterref02_May.l0 kq l0 x3_2 = some r) ∧ Aside0 (kq ≤ kj1) ∧ Drawn0 w w')
        case atStart => exact ⟨(0), (by first | rfl | (simp; done) | (simp [*]; done)), H', ⟨Nat.le_refl _⟩, by repeat (first | exact Drawn0.refl _ | apply Drawn0.step)⟩
        case round =>
          clear H'
          try clear c1
          try clear p2
          try clear c3
          try clear c3b0
          try clear c3b1
          try clear c4
          try clear p2
          obtain ⟨x3_2, rfl, HA, HK2, ⟨m2, rfl⟩⟩ := hrel
          cases gk with
          | zero => exact absurd HA.out (by simp [quartermasterref02_May.l0])
          | succ k2 =>
            have H := HA.out
            clear HA
            simp only [quartermasterref02_May.l0] at H
            by_cases c5 : x3_2 < (l0.length : Int)
            · rw [if_pos c5] at H
              have c5b0 : decide (x3_2 < (l0.length : Int)) = true := decide_eq_true c5
              clear c5
              by_cases c6 : 0 ≤ x3_2
              · rw [if_pos c6] at H
                have c6b0 : decide (0 ≤ x3_2) = true := decide_eq_true c6
                clear c6
                by_cases c7 : ((rd_L1 l0 x3_2).length : Int) < 1
                · rw [if_pos c7] at H
                  have c7b0 : decide (((rd_L1 l0 x3_2).length : Int) < 1) = true := decide_eq_true c7
                  have c7b1 : decide ((rd_L1 l0 x3_2).length < 1) = true := decide_eq_true (by omega)
                  clear c7
                  obtain rfl := Option.some.inj H
                  have p134 : 0 ≤ (x3_2 : Int) := of_decide_eq_true (by first | (with_reducible assumption) | assumption)
                  have q134 : x3_2 < (l0.length : Int) := of_decide_eq_true (by first | (with_reducible assumption) | assumption)
                  obtain ⟨ad134, A134_0, c134_0, e134, hx134_0, hl134_0, hi134_0⟩ := at_L1 HR0.out x3_2 p134 q134
                  cases e134
                  have HR134_0 := Aside0.mk hi134_0
                  have HC134_0 := Aside0.mk hl134_0
                  clear hi134_0 hl134_0
                  replace p134 := eq_true p134
                  replace q134 := eq_true q134
                  go_wp2
                  repeat (go_quiet (fail); try go_wp2)
                  go_ret
                  exact ⟨by first | rfl | (simp; done) | (simp [*]; done), by repeat (first | exact Drawn0.refl _ | apply Drawn0.step)⟩
                · rw [if_neg c7] at H
                  have c7b0 : decide (((rd_L1 l0 x3_2).length : Int) < 1) = false := decide_eq_false c7
                  have c7b1 : decide ((rd_L1 l0 x3_2).length < 1) = false := decide_eq_false (by omega)
                  clear c7
                  by_cases c8 : ((rd_L1 l0 x3_2).length : Int) > 4096
                  · rw [if_pos c8] at H
                    have c8b0 : decide (4096 < ((rd_L1 l0 x3_2).length : Int)) = true := decide_eq_true c8
                    have c8b1 : decide (4096 < (rd_L1 l0 x3_2).length) = true := decide_eq_true (by omega)
                    clear c8
                    obtain rfl := Option.some.inj H
                    have p134 : 0 ≤ (x3_2 : Int) := of_decide_eq_true (by first | (with_reducible assumption) | assumption)
                    have q134 : x3_2 < (l0.length : Int) := of_decide_eq_true (by first | (with_reducible assumption) | assumption)
                    obtain ⟨ad134, A134_0, c134_0, e134, hx134_0, hl134_0, hi134_0⟩ := at_L1 HR0.out x3_2 p134 q134
                    cases e134
                    have HR134_0 := Aside0.mk hi134_0
                    have HC134_0 := Aside0.mk hl134_0
                    clear hi134_0 hl134_0
                    replace p134 := eq_true p134
                    replace q134 := eq_true q134
                    have p135 : 0 ≤ (x3_2 : Int) := of_decide_eq_true (by first | (with_reducible assumption) | assumption)
                    have q135 : x3_2 < (l0.length : Int) := of_decide_eq_true (by first | (with_reducible assumption) | assumption)
                    obtain ⟨ad135, A135_0, c135_0, e135, hx135_0, hl135_0, hi135_0⟩ := at_L1 HR0.out x3_2 p135 q135
                    obtain rfl : ad134 = ad135 := (by injection e135)
                    have HR135_0 := Aside0.mk hi135_0
                    have HC135_0 := Aside0.mk hl135_0
                    clear hi135_0 hl135_0
                    replace p135 := eq_true p135
                    replace q135 := eq_true q135
                    have ea_ := Option.some.inj (hx134_0.symm.trans hx135_0)
                    injection ea_ with ea_ en_ ec_
                    subst ea_
                    subst ec_
                    clear en_
                    go_wp2
                    repeat (go_quiet (fail); try go_wp2)
                    go_ret
                    exact ⟨by first | rfl | (simp; done) | (simp [*]; done), by repeat (first | exact Drawn0.refl _ | apply Drawn0.step)⟩
                  · rw [if_neg c8] at H
                    have c8b0 : decide (4096 < ((rd_L1 l0 x3_2).length : Int)) = false := decide_eq_false c8
                    have c8b1 : decide (4096 < (rd_L1 l0 x3_2).length) = false := decide_eq_false (by omega)
                    clear c8
                    by_cases c9 : 0 < (l0.length : Int)
                    · rw [if_pos c9] at H
                      have c9b0 : decide (0 < (l0.length : Int)) = true := decide_eq_true c9
                      have c9b1 : decide (0 < l0.length) = true := decide_eq_true (by omega)
                      clear c9
                      by_cases c10 : ((rd_L1 l0 x3_2).length : Int) = ((rd_L1 l0 0).length : Int)
                      · rw [if_pos c10] at H
                        have c10b0 : (((rd_L1 l0 x3_2).length : Int) == ((rd_L1 l0 0).length : Int)) = true := beq_iff_eq.mpr c10
                        have c10b1 : (((rd_L1 l0 x3_2).length : Int) != ((rd_L1 l0 0).length : Int)) = false := bne_eq_false_iff_eq.mpr c10
                        have c10b2 : ((rd_L1 l0 x3_2).length == (rd_L1 l0 0).length) = true := by first | simpa using c10 | (simp at c10 ⊢; omega)
                        clear c10
                        have H' := Aside0.mk H
                        clear H
                        have p134 : 0 ≤ (x3_2 : Int) := of_decide_eq_true (by first | (with_reducible assumption) | assumption)
                        have q134 : x3_2 < (l0.length : Int) := of_decide_eq_true (by first | (with_reducible assumption) | assumption)
                        obtain ⟨ad134, A134_0, c134_0, e134, hx134_0, hl134_0, hi134_0⟩ := at_L1 HR0.out x3_2 p134 q134
                        cases e134
                        have HR134_0 := Aside0.mk hi134_0
                        have HC134_0 := Aside0.mk hl134_0
                        clear hi134_0 hl134_0
                        replace p134 := eq_true p134
                        replace q134 := eq_true q134
                        have p135 : 0 ≤ (x3_2 : Int) := of_decide_eq_true (by first | (with_reducible assumption) | assumption)
                        have q135 : x3_2 < (l0.length : Int) := of_decide_eq_true (by first | (with_reducible assumption) | assumption)
                        obtain ⟨ad135, A135_0, c135_0, e135, hx135_0, hl135_0, hi135_0⟩ := at_L1 HR0.out x3_2 p135 q135
                        obtain rfl : ad134 = ad135 := (by injection e135)
                        have HR135_0 := Aside0.mk hi135_0
                        have HC135_0 := Aside0.mk hl135_0
                        clear hi135_0 hl135_0
                        replace p135 := eq_true p135
                        replace q135 := eq_true q135
                        have ea_ := Option.some.inj (hx134_0.symm.trans hx135_0)
                        injection ea_ with ea_ en_ ec_
                        subst ea_
                        subst ec_
                        clear en_
                        have p136 : 0 ≤ (x3_2 : Int) := of_decide_eq_true (by first | (with_reducible assumption) | assumption)
                        have q136 : x3_2 < (l0.length : Int) := of_decide_eq_true (by first | (with_reducible assumption) | assumption)
                        obtain ⟨ad136, A136_0, c136_0, e136, hx136_0, hl136_0, hi136_0⟩ := at_L1 HR0.out x3_2 p136 q136
                        obtain rfl : ad134 = ad136 := (by injection e136)
                        have HR136_0 := Aside0.mk hi136_0
                        have HC136_0 := Aside0.mk hl136_0
                        clear hi136_0 hl136_0
                        replace p136 := eq_true p136
                        replace q136 := eq_true q136
                        have ea_ := Option.some.inj (hx134_0.symm.trans hx136_0)
                        injection ea_ with ea_ en_ ec_
                        subst ea_
                        subst ec_
                        clear en_
                        have p137 : 0 ≤ (0 : Int) := (by omega)
                        have q137 : 0 < (l0.length : Int) := of_decide_eq_true (by first | (with_reducible assumption) | assumption)
                        obtain ⟨ad137, A137_0, c137_0, e137, hx137_0, hl137_0, hi137_0⟩ := at_L1 HR0.out 0 p137 q137
                        obtain rfl : ad134 = ad137 := (by injection e137)
                        have qi137 : (0 < l0.length) = True := eq_true (by omega)
                        (try rw [show ((0 : Int)).toNat = 0 from rfl] at hx137_0)
                        (try rw [Addr.add_zero'] at hx137_0)
                        have HR137_0 := Aside0.mk hi137_0
                        have HC137_0 := Aside0.mk hl137_0
                        clear hi137_0 hl137_0
                        replace p137 := eq_true p137
                        replace q137 := eq_true q137
                        go_wp2
                        repeat (go_quiet (fail); try go_wp2)
                        go_roundg k2
                        case measure => have := HJ1.out; have := HK2.out; omega
                        case rel => exact ⟨(wrap64 (x3_2 + 1)), (by first | rfl | (simp; done) | (simp [*]; done)), H', ⟨by have := HJ1.out; have := HK2.out; omega⟩, by repeat (first | exact Drawn0.refl _ | apply Drawn0.step)⟩
                      · rw [if_neg c10] at H
                        have c10b0 : (((rd_L1 l0 x3_2).length : Int) == ((rd_L1 l0 0).length : Int)) = false := beq_eq_false_iff_ne.mpr c10
                        have c10b1 : (((rd_L1 l0 x3_2).length : Int) != ((rd_L1 l0 0).length : Int)) = true := bne_iff_ne.mpr c10
                        have c10b2 : ((rd_L1 l0 x3_2).length == (rd_L1 l0 0).length) = false := by first | simpa using c10 | (simp at c10 ⊢; omega)
                        obtain rfl := Option.some.inj H
                        have p134 : 0 ≤ (x3_2 : Int) := of_decide_eq_true (by first | (with_reducible assumption) | assumption)
                        have q134 : x3_2 < (l0.length : Int) := of_decide_eq_true (by first | (with_reducible assumption) | assumption)
                        obtain ⟨ad134, A134_0, c134_0, e134, hx134_0, hl134_0, hi134_0⟩ := at_L1 HR0.out x3_2 p134 q134
                        cases e134
                        have HR134_0 := Aside0.mk hi134_0
                        have HC134_0 := Aside0.mk hl134_0
                        clear hi134_0 hl134_0
                        replace p134 := eq_true p134
                        replace q134 := eq_true q134
                        have p135 : 0 ≤ (x3_2 : Int) := of_decide_eq_true (by first | (with_reducible assumption) | assumption)
                        have q135 : x3_2 < (l0.length : Int) := of_decide_eq_true (by first | (with_reducible assumption) | assumption)
                        obtain ⟨ad135, A135_0, c135_0, e135, hx135_0, hl135_0, hi135_0⟩ := at_L1 HR0.out x3_2 p135 q135
                        obtain rfl : ad134 = ad135 := (by injection e135)
                        have HR135_0 := Aside0.mk hi135_0
                        have HC135_0 := Aside0.mk hl135_0
                        clear hi135_0 hl135_0
                        replace p135 := eq_true p135
                        replace q135 := eq_true q135
                        have ea_ := Option.some.inj (hx134_0.symm.trans hx135_0)
                        injection ea_ with ea_ en_ ec_
                        subst ea_
                        subst ec_
                        clear en_
                        have p136 : 0 ≤ (x3_2 : Int) := of_decide_eq_true (by first | (with_reducible assumption) | assumption)
                        have q136 : x3_2 < (l0.length : Int) := of_decide_eq_true (by first | (with_reducible assumption) | assumption)
                        obtain ⟨ad136, A136_0, c136_0, e136, hx136_0, hl136_0, hi136_0⟩ := at_L1 HR0.out x3_2 p136 q136
                        obtain rfl : ad134 = ad136 := (by injection e136)
                        have HR136_0 := Aside0.mk hi136_0
                        have HC136_0 := Aside0.mk hl136_0
                        clear hi136_0 hl136_0
                        replace p136 := eq_true p136
                        replace q136 := eq_true q136
                        have ea_ := Option.some.inj (hx134_0.symm.trans hx136_0)
                        injection ea_ with ea_ en_ ec_
                        subst ea_
                        subst ec_
                        clear en_
                        have p137 : 0 ≤ (0 : Int) := (by omega)
                        have q137 : 0 < (l0.length : Int) := of_decide_eq_true (by first | (with_reducible assumption) | assumption)
                        obtain ⟨ad137, A137_0, c137_0, e137, hx137_0, hl137_0, hi137_0⟩ := at_L1 HR0.out 0 p137 q137
                        obtain rfl : ad134 = ad137 := (by injection e137)
                        have qi137 : (0 < l0.length) = True := eq_true (by omega)
                        (try rw [show ((0 : Int)).toNat = 0 from rfl] at hx137_0)
                        (try rw [Addr.add_zero'] at hx137_0)
                        have HR137_0 := Aside0.mk hi137_0
                        have HC137_0 := Aside0.mk hl137_0
                        clear hi137_0 hl137_0
                        replace p137 := eq_true p137
                        replace q137 := eq_true q137
                        go_wp2
                        repeat (go_quiet (fail); try go_wp2)
                        go_ret
                        exact ⟨by first | rfl | (simp; done) | (simp [*]; done), by repeat (first | exact Drawn0.refl _ | apply Drawn0.step)⟩
                    · rw [if_neg c9] at H
                      exact absurd H (by simp)
              · rw [if_neg c6] at H
                exact absurd H (by simp)
            · rw [if_neg c5] at H
              have c5b0 : decide (x3_2 < (l0.length : Int)) = false := decide_eq_false c5
              clear c5
              obtain rfl := Option.some.inj H
              go_wp2
              repeat (go_quiet (fail); try go_wp2)
              go_ret
              exact ⟨by first | rfl | (simp; done) | (simp [*]; done), by repeat (first | exact Drawn0.refl _ | apply Drawn0.step)⟩
-- NOT PRINTED: function 10 (quartermasterlaw02_MatMakes)
/-! ### quartermasterref02_Few: function 44 -/
end Go.Proofs.Ythblmkailhdhlaa.P
/- law02.awake; what is read of a matrix that was made. -/
namespace Go.Proofs.Ythblmkailhdhlaa.Mat
set_option linter.unusedVariables false
open Go.RowKit Go.Proofs.Ythblmkailhdhlaa.F Go.Proofs.Ythblmkailhdhlaa.Gf Go.Proofs.Ythblmkailhdhlaa.P Go.Proofs.YthblmkailhdhlaaW.PrintWords
theorem sz_alloc (w : World) (o : Obj) : (w.alloc o).heap.size = w.heap.size + 1 := Array.size_push ..
end Go.Proofs.Ythblmkailhdhlaa.Mat
namespace Go.Proofs.Ythblmkailhdhlaa.Given
open Go.RowKit Go.Proofs.Ythblmkailhdhlaa.Mat
end Go.Proofs.Ythblmkailhdhlaa.Given
/- What ref02's Same, Few, May, One and Cauchy (as printed) come to. -/
namespace Go.Proofs.Ythblmkailhdhlaa.Mat
set_option linter.unusedVariables false
open Go.RowKit Go.Proofs.Ythblmkailhdhlaa.F Go.Proofs.Ythblmkailhdhlaa.R Go.Proofs.Ythblmkailhdhlaa.G Go.Proofs.Ythblmkailhdhlaa.P Go.Proofs.Ythblmkailhdhlaa.Given Go.Proofs.Ythblmkailhdhlaa.Gf Go.Proofs.YthblmkailhdhlaaW.PrintWords
theorem getD_at {α : Type} {l : List α} {d : α} {i : Nat} (h : i < l.length) : l.getD i d = l[i] := by
  rw [List.getD_eq_getElem?_getD, List.getElem?_eq_getElem h]; rfl
theorem rd_nat (l : List Int) (j : Nat) : Go.Proofs.YthblmkailhdhlaaW.PrintWords.rd l (j : Int) = l.getD j 0 := by unfold Go.Proofs.YthblmkailhdhlaaW.PrintWords.rd; rw [Int.toNat_natCast]
theorem drop_cons {α : Type} {l : List α} {d : α} {i : Nat} (h : i < l.length) : l.drop i = l.getD i d :: l.drop (i + 1) := by
  rw [List.drop_eq_getElem_cons h, getD_at h]
theorem succ_cast (i : Nat) : ((i + 1 : Nat) : Int) = (i : Int) + 1 := by omega
theorem same_l1 (a b : List (List Int)) (i : Nat) (hi : i < a.length) (hib : i < b.length) (hlen : (a.getD i []).length = (b.getD i []).length) (hs : (a.getD i []).length ≤ 1000000) :
    ∀ d j k, j + d = (a.getD i []).length → quartermasterref02_Same.l1 (k + d + 1) a b (i : Int) (j : Int) = if (a.getD i []).drop j = (b.getD i []).drop j then quartermasterref02_Same.l0 k a b (wrap64 ((i : Int) + 1)) else some false := by
  intro d
  induction d with
  | zero =>
    intro j k h
    simp only [quartermasterref02_Same.l1]
    rw [if_pos (by omega), if_pos (by omega), rd_L1_nat, if_neg (by omega), List.drop_of_length_le (by omega), List.drop_of_length_le (by omega), if_pos rfl]
  | succ d ih =>
    intro j k h
    show quartermasterref02_Same.l1 ((k + d + 1) + 1) a b (i : Int) (j : Int) = _
    rw [quartermasterref02_Same.l1]
    rw [if_pos (by omega), if_pos (by omega), rd_L1_nat, rd_L1_nat, if_pos (by omega), if_pos (by omega), if_pos (by omega), if_pos (by omega), rd_nat, rd_nat]
    rw [drop_cons (d := 0) (show j < (a.getD i []).length by omega), drop_cons (d := 0) (show j < (b.getD i []).length by omega)]
    by_cases he : (a.getD i []).getD j 0 = (b.getD i []).getD j 0
    · rw [if_pos he, w64 (by omega) (by omega), ← succ_cast, ih (j + 1) k (by omega), he]
      by_cases hd : (a.getD i []).drop (j + 1) = (b.getD i []).drop (j + 1)
      · rw [if_pos hd, if_pos (by rw [hd])]
      · rw [if_neg hd, if_neg (fun h => hd (List.cons.inj h).2)]
    · rw [if_neg he, if_neg (fun h => he (List.cons.inj h).1)]
theorem same_l0 (a b : List (List Int)) (hl : a.length = b.length) (h64 : a.length ≤ 1000000) (C : Nat) (hC : C ≤ 1000000) (hs : ∀ r ∈ a, r.length ≤ C) : ∀ d i k, i + d = a.length → d * (C + 2) < k →
    quartermasterref02_Same.l0 k a b (i : Int) = some (decide (a.drop i = b.drop i)) := by
  intro d
  induction d with
  | zero =>
    intro i k h hk
    obtain ⟨k, rfl⟩ : ∃ m, k = m + 1 := ⟨k - 1, by omega⟩
    simp only [quartermasterref02_Same.l0]
    rw [if_neg (by omega), List.drop_of_length_le (by omega), List.drop_of_length_le (by omega), decide_eq_true rfl]
  | succ d ih =>
    intro i k h hk
    obtain ⟨k, rfl⟩ : ∃ m, k = m + 1 := ⟨k - 1, by omega⟩
    rw [quartermasterref02_Same.l0]
    rw [if_pos (by omega), if_pos (by omega), if_pos (by omega), rd_L1_nat, rd_L1_nat]
    have hr := hs (a.getD i []) (by rw [getD_at (show i < a.length by omega)]; exact List.getElem_mem _)
    rw [drop_cons (d := []) (show i < a.length by omega), drop_cons (d := []) (show i < b.length by omega)]
    rw [Nat.succ_mul] at hk
    by_cases he : (a.getD i []).length = (b.getD i []).length
    · rw [if_pos (by omega)]
      obtain ⟨m, rfl⟩ : ∃ m, k = m + (a.getD i []).length + 1 := ⟨k - (a.getD i []).length - 1, by omega⟩
      have := same_l1 a b i (by omega) (by omega) he (by omega) (a.getD i []).length 0 m (by omega)
      rw [show ((0 : Nat) : Int) = 0 from rfl] at this
      rw [this, List.drop_zero, List.drop_zero]
      by_cases hr2 : a.getD i [] = b.getD i []
      · rw [if_pos hr2, w64 (by omega) (by omega), ← succ_cast, ih (i + 1) m (by omega) (by omega), hr2]
        congr 1
        apply decide_eq_decide.2
        exact ⟨fun h => by rw [h], fun h => (List.cons.inj h).2⟩
      · rw [if_neg hr2, decide_eq_false (fun h => hr2 (List.cons.inj h).1)]
    · rw [if_neg (by omega), decide_eq_false (fun h => he (by rw [(List.cons.inj h).1]))]
theorem same_f (a b : List (List Int)) (C : Nat) (h64 : a.length ≤ 1000000) (hC : C ≤ 1000000) (hs : ∀ r ∈ a, r.length ≤ C) {k : Nat} (hk : a.length * (C + 2) < k) :
    quartermasterref02_Same.f k a b = some (decide (a = b)) := by
  unfold quartermasterref02_Same.f
  by_cases hl : a.length = b.length
  · rw [if_pos (by omega)]
    have := same_l0 a b hl h64 C hC hs a.length 0 k (by omega) hk
    rw [show ((0 : Nat) : Int) = 0 from rfl, List.drop_zero, List.drop_zero] at this
    exact this
  · rw [if_neg (by omega), decide_eq_false (fun h => hl (by rw [h]))]
def fewP (l : List (List Int)) (n : Nat) : Prop := l.length ≤ n ∧ ∀ r ∈ l, r.length ≤ n
instance (l : List (List Int)) (n : Nat) : Decidable (fewP l n) := by unfold fewP; exact inferInstance
theorem rmay_l0 (l : List (List Int)) (hl : 0 < l.length) (h64 : l.length ≤ 64) : ∀ d i k, i + d = l.length → d < k →
    quartermasterref02_May.l0 k l (i : Int) = some (decide (∀ r ∈ l.drop i, 1 ≤ r.length ∧ r.length ≤ 4096 ∧ r.length = (l.getD 0 []).length)) := by
  intro d
  induction d with
  | zero =>
    intro i k h hk
    obtain ⟨k, rfl⟩ : ∃ m, k = m + 1 := ⟨k - 1, by omega⟩
    simp only [quartermasterref02_May.l0]
    rw [if_neg (by omega), List.drop_of_length_le (by omega), decide_eq_true (by intro r hr; cases hr)]
  | succ d ih =>
    intro i k h hk
    obtain ⟨k, rfl⟩ : ∃ m, k = m + 1 := ⟨k - 1, by omega⟩
    rw [quartermasterref02_May.l0]
    have h0 : rd_L1 l 0 = l.getD 0 [] := rd_L1_nat l 0
    rw [if_pos (by omega), if_pos (by omega), rd_L1_nat, drop_cons (d := []) (show i < l.length by omega), h0]
    have key : ∀ P : Prop, P → (∀ r ∈ l.getD i [] :: l.drop (i + 1), 1 ≤ r.length ∧ r.length ≤ 4096 ∧ r.length = (l.getD 0 []).length) → 1 ≤ (l.getD i []).length ∧ (l.getD i []).length ≤ 4096 ∧ (l.getD i []).length = (l.getD 0 []).length := fun P _ h => h _ List.mem_cons_self
    by_cases h1 : 1 ≤ (l.getD i []).length
    · rw [if_neg (by omega)]
      by_cases h2 : (l.getD i []).length ≤ 4096
      · rw [if_neg (by omega), if_pos (by omega)]
        by_cases h3 : (l.getD i []).length = (l.getD 0 []).length
        · rw [if_pos (by omega), w64 (by omega) (by omega), ← succ_cast, ih (i + 1) k (by omega) (by omega)]
          congr 1
          apply decide_eq_decide.2
          exact ⟨fun g r hr => by
            rcases List.mem_cons.1 hr with rfl | hr
            · exact ⟨h1, h2, h3⟩
            · exact g r hr, fun g r hr => g r (List.mem_cons_of_mem _ hr)⟩
        · rw [if_neg (by omega), decide_eq_false (fun g => h3 (key True trivial g).2.2)]
      · rw [if_pos (by omega), decide_eq_false (fun g => h2 (key True trivial g).2.1)]
    · rw [if_pos (by omega), decide_eq_false (fun g => h1 (key True trivial g).1)]
theorem rmay_f (l : List (List Int)) {k : Nat} (hk : 80 ≤ k) : quartermasterref02_May.f k l = some (decide (mayP l)) := by
  unfold quartermasterref02_May.f
  obtain ⟨k, rfl⟩ : ∃ m, k = m + 1 := ⟨k - 1, by omega⟩
  by_cases h1 : 1 ≤ l.length
  · rw [if_neg (by omega)]
    simp only [quartermasterref02_May.j0]
    by_cases h2 : l.length ≤ 64
    · rw [decide_eq_false (show ¬ (l.length : Int) > 64 by omega), if_neg (by decide)]
      have := rmay_l0 l (by omega) h2 l.length 0 k (by omega) (by omega)
      rw [show ((0 : Nat) : Int) = 0 from rfl, List.drop_zero] at this
      rw [this]
      congr 1
      apply decide_eq_decide.2
      constructor
      · intro g
        have g0 := g (l.getD 0 []) (by rw [getD_at (show 0 < l.length by omega)]; exact List.getElem_mem _)
        exact ⟨h1, h2, g0.1, g0.2.1, fun r hr => (g r hr).2.2⟩
      · intro g r hr
        have := g.2.2.2.2 r hr
        have := g.2.2.1
        have := g.2.2.2.1
        omega
    · rw [decide_eq_true (show (l.length : Int) > 64 by omega), if_pos rfl, decide_eq_false (fun h => h2 h.2.1)]
  · rw [if_pos (by omega)]
    simp only [quartermasterref02_May.j0]
    rw [if_pos trivial, decide_eq_false (fun h => h1 h.1)]
theorem mints_app (M N : List (List Nat)) : mints (M ++ N) = mints M ++ mints N := by unfold mints; rw [List.map_append]
theorem same_self (a : List (List Int)) (C : Nat) (h64 : a.length ≤ 64) (hC : C ≤ 4096) (hs : ∀ r ∈ a, r.length ≤ C) {k : Nat} (hk : 300000 ≤ k) : quartermasterref02_Same.f k a a = some true := by
  rw [same_f a a C (by omega) (by omega) hs (Nat.lt_of_le_of_lt (Nat.mul_le_mul h64 (show C + 2 ≤ 4098 by omega)) (by omega)), decide_eq_true rfl]
end Go.Proofs.Ythblmkailhdhlaa.Mat
/- Matrices as functions: sums, products. -/
namespace Go.Proofs.Ythblmkailhdhlaa.Mat
set_option linter.unusedVariables false
open Go.RowKit Go.Proofs.Ythblmkailhdhlaa.F Go.Proofs.Ythblmkailhdhlaa.Gf Go.Proofs.YthblmkailhdhlaaW.PrintWords
/-- The field's sum of f 0 .. f (n - 1). -/
def sg (f : Nat → Nat) : Nat → Nat
  | 0 => 0
  | n + 1 => sg f n ^^^ f n
theorem sg_lt {f : Nat → Nat} : ∀ {n : Nat}, (∀ i, i < n → f i < 256) → sg f n < 256
  | 0, _ => by show (0 : Nat) < 256; decide
  | n + 1, h => xor_lt (sg_lt fun i hi => h i (by omega)) (h n (by omega))
theorem sg_congr {f g : Nat → Nat} : ∀ {n : Nat}, (∀ i, i < n → f i = g i) → sg f n = sg g n
  | 0, _ => rfl
  | n + 1, h => by
    show sg f n ^^^ f n = sg g n ^^^ g n
    rw [sg_congr fun i hi => h i (by omega), h n (by omega)]
theorem sg_xor (f g : Nat → Nat) : ∀ n, sg (fun i => f i ^^^ g i) n = sg f n ^^^ sg g n
  | 0 => by show (0 : Nat) = 0 ^^^ 0; decide
  | n + 1 => by
    show sg _ n ^^^ (f n ^^^ g n) = (sg f n ^^^ f n) ^^^ (sg g n ^^^ g n)
    rw [sg_xor f g n, xor4]
theorem sg_zero : ∀ n, sg (fun _ => 0) n = 0
  | 0 => rfl
  | n + 1 => by
    show sg _ n ^^^ 0 = 0
    rw [sg_zero n]; rfl
theorem sg_gm {x : Nat} (hx : x < 256) {f : Nat → Nat} : ∀ {n : Nat}, (∀ i, i < n → f i < 256) → gm x (sg f n) = sg (fun i => gm x (f i)) n
  | 0, _ => gm_zero x
  | n + 1, h => by
    show gm x (sg f n ^^^ f n) = sg _ n ^^^ gm x (f n)
    rw [gm_xor hx (sg_lt fun i hi => h i (by omega)) (h n (by omega)), sg_gm hx fun i hi => h i (by omega)]
theorem gm_sg {x : Nat} (hx : x < 256) {f : Nat → Nat} {n : Nat} (h : ∀ i, i < n → f i < 256) : gm (sg f n) x = sg (fun i => gm (f i) x) n := by
  rw [gm_comm, sg_gm hx h]
  exact sg_congr fun i hi => gm_comm _ _
theorem sg_swap (f : Nat → Nat → Nat) (m : Nat) : ∀ n, sg (fun i => sg (f i) m) n = sg (fun j => sg (fun i => f i j) n) m
  | 0 => (sg_zero m).symm
  | n + 1 => by
    show sg _ n ^^^ sg (f n) m = sg (fun j => sg (fun i => f i j) n ^^^ f n j) m
    rw [sg_swap f m n, sg_xor]
theorem xor_zero (x : Nat) : x ^^^ 0 = x := Nat.xor_zero x
theorem zero_xor (x : Nat) : 0 ^^^ x = x := Nat.zero_xor x
/-- A sum of which only one is something. -/
theorem sg_only {f : Nat → Nat} {k : Nat} : ∀ {n : Nat}, k < n → (∀ i, i < n → i ≠ k → f i = 0) → sg f n = f k
  | n + 1, hk, h => by
    show sg f n ^^^ f n = f k
    by_cases e : k = n
    · subst e
      rw [show sg f k = 0 from (sg_congr fun i hi => h i (by omega) (by omega)).trans (sg_zero k), zero_xor]
    · rw [sg_only (by omega) fun i hi hne => h i (by omega) hne, h n (by omega) (by omega), xor_zero]
theorem sg_one {x : Nat → Nat} (hx : ∀ i, x i < 256) {n k : Nat} (hk : k < n) : sg (fun t => gm (oneAt k t) (x t)) n = x k := by
  rw [sg_only hk fun i hi hne => by show gm (oneAt k i) (x i) = 0; unfold oneAt; rw [if_neg (by omega)]; exact zero_gm _]
  show gm (oneAt k k) (x k) = _
  unfold oneAt; rw [if_pos rfl]; exact one_gm (hx k)
theorem sg_one' {x : Nat → Nat} (hx : ∀ i, x i < 256) {n k : Nat} (hk : k < n) : sg (fun t => gm (x t) (oneAt t k)) n = x k := by
  rw [sg_only hk fun i hi hne => by show gm (x i) (oneAt i k) = 0; unfold oneAt; rw [if_neg (by omega)]; exact gm_zero _]
  show gm (x k) (oneAt k k) = _
  unfold oneAt; rw [if_pos rfl]; exact gm_one (hx k)
/-- n rows of c bytes. -/
def Rect (n c : Nat) (M : List (List Nat)) : Prop := M.length = n ∧ ∀ l ∈ M, l.length = c ∧ ∀ x ∈ l, x < 256
instance (n c : Nat) (M : List (List Nat)) : Decidable (Rect n c M) := by unfold Rect; exact inferInstance
theorem Square.rect {n : Nat} {M : List (List Nat)} (h : Square n M) : Rect n n M := h
theorem Rect.row {n c : Nat} {M : List (List Nat)} (h : Rect n c M) {i : Nat} (hi : i < n) : ∃ l, M[i]? = some l ∧ M.getD i [] = l ∧ l.length = c ∧ ∀ x ∈ l, x < 256 := by
  have hl : i < M.length := by rw [h.1]; exact hi
  exact ⟨M[i], List.getElem?_eq_getElem hl, getD_at hl, h.2 _ (List.getElem_mem hl)⟩
theorem getD_none {α : Type} {l : List α} {d : α} {i : Nat} (h : ¬ i < l.length) : l.getD i d = d := by
  rw [List.getD_eq_getElem?_getD, List.getElem?_eq_none (by omega)]; rfl
theorem el_lt {M : List (List Nat)} (h : Bytes M) (i j : Nat) : el M i j < 256 := by
  show (M.getD i []).getD j 0 < 256
  by_cases hi : i < M.length
  · have hr : ∀ x ∈ M.getD i [], x < 256 := by rw [getD_at hi]; exact h _ (List.getElem_mem hi)
    generalize M.getD i [] = r at *
    by_cases hj : j < r.length
    · rw [getD_at hj]; exact hr _ (List.getElem_mem hj)
    · rw [getD_none hj]; decide
  · rw [getD_none hi]; simp
theorem Rect.bytes {n c : Nat} {M : List (List Nat)} (h : Rect n c M) : Bytes M := fun l hl => (h.2 l hl).2
theorem Rect.lt {n c : Nat} {M : List (List Nat)} (h : Rect n c M) (i j : Nat) : el M i j < 256 := el_lt h.bytes i j
theorem list_range_el (l : List Nat) (c : Nat) (h : l.length = c) : (List.range c).map (fun j => l.getD j 0) = l := by
  apply List.ext_getElem?
  intro j
  rw [List.getElem?_map]
  by_cases hj : j < c
  · rw [List.getElem?_range hj]
    show some (l.getD j 0) = _
    rw [getD_at (by omega), List.getElem?_eq_getElem (by omega)]
  · rw [List.getElem?_eq_none (by simp; omega), List.getElem?_eq_none (by omega)]; rfl
theorem Rect.grid {n c : Nat} {M : List (List Nat)} (h : Rect n c M) : grid n c (el M) = M := by
  unfold Mat.grid
  apply List.ext_getElem?
  intro i
  rw [List.getElem?_map]
  by_cases hi : i < n
  · rw [List.getElem?_range hi]
    obtain ⟨l, h1, h2, h3, _⟩ := h.row hi
    rw [h1]
    show some _ = some l
    rw [← list_range_el l c h3]
    congr 1
    apply List.map_congr_left
    intro j hj
    show (M.getD i []).getD j 0 = l.getD j 0
    rw [h2]
  · rw [List.getElem?_eq_none (by simp; omega), List.getElem?_eq_none (by have := h.1; omega)]; rfl
theorem el_grid {n c : Nat} {g : Nat → Nat → Nat} {i j : Nat} (hi : i < n) (hj : j < c) : el (grid n c g) i j = g i j := by
  unfold el
  have h1 : (grid n c g).getD i [] = (List.range c).map (g i) := by rw [List.getD_eq_getElem?_getD, grid_get n c g hi]; rfl
  rw [h1, List.getD_eq_getElem?_getD, List.getElem?_map, List.getElem?_range hj]; rfl
theorem grid_rect {n c : Nat} {g : Nat → Nat → Nat} (h : ∀ i j, i < n → j < c → g i j < 256) : Rect n c (grid n c g) := by
  refine ⟨grid_len n c g, fun l hl => ?_⟩
  obtain ⟨i, hi, rfl⟩ := List.mem_map.1 hl
  refine ⟨by simp, fun x hx => ?_⟩
  obtain ⟨j, hj, rfl⟩ := List.mem_map.1 hx
  exact h i j (List.mem_range.1 hi) (List.mem_range.1 hj)
theorem grid_congr {n c : Nat} {g g' : Nat → Nat → Nat} (h : ∀ i j, i < n → j < c → g i j = g' i j) : grid n c g = grid n c g' := by
  unfold Mat.grid
  apply List.map_congr_left
  intro i hi
  apply List.map_congr_left
  intro j hj
  exact h i j (List.mem_range.1 hi) (List.mem_range.1 hj)
theorem grid_ext {n c : Nat} {g : Nat → Nat → Nat} {M : List (List Nat)} (hM : Rect n c M) (h : ∀ i j, i < n → j < c → g i j = el M i j) : grid n c g = M := by
  rw [grid_congr h, hM.grid]
theorem Rect.ext {n c : Nat} {M N : List (List Nat)} (hM : Rect n c M) (hN : Rect n c N) (h : ∀ i j, i < n → j < c → el M i j = el N i j) : M = N := by
  rw [← hM.grid, grid_ext hN h]
theorem addRow_getD {ys xs : List Nat} {x c j : Nat} (hy : ys.length = c) (hx : xs.length = c) (hj : j < c) : (addRow ys x xs).getD j 0 = ys.getD j 0 ^^^ gm x (xs.getD j 0) := by
  unfold addRow
  rw [getD_at (by simp; omega), getD_at (by omega), getD_at (by omega), List.getElem_zipWith]
theorem mulRow_sg {b : List (List Nat)} {c : Nat} (hb : ∀ r ∈ b, r.length = c) {row : List Nat} (hr : row.length = b.length) {j : Nat} (hj : j < c) :
    ∀ k, k ≤ b.length → (mulRow b c (row.take k)).getD j 0 = sg (fun t => gm (row.getD t 0) (el b t j)) k
  | 0, _ => by
    rw [List.take_zero, mulRow_nil]
    rw [getD_at (by simp; omega)]; simp [sg]
  | k + 1, hk => by
    have h1 : row[k]? = some (row.getD k 0) := by rw [getD_at (by omega), List.getElem?_eq_getElem (by omega)]
    have h2 : b[k]? = some (b.getD k []) := by rw [getD_at (by omega), List.getElem?_eq_getElem (by omega)]
    rw [mulRow_step h1 h2]
    have hbl : (b.getD k []).length = c := hb _ (by rw [getD_at (by omega)]; exact List.getElem_mem _)
    rw [addRow_getD (mulRow_len _ hb) hbl hj, mulRow_sg hb hr hj k (by omega)]
    rfl
/-- The product, place by place. -/
def mulF (m : Nat) (f g : Nat → Nat → Nat) (i j : Nat) : Nat := sg (fun t => gm (f i t) (g t j)) m
theorem mulF_lt (m : Nat) (f g : Nat → Nat → Nat) (i j : Nat) : mulF m f g i j < 256 := sg_lt fun t _ => gm_lt _ _
theorem Rect.head {n c : Nat} {M : List (List Nat)} (h : Rect n c M) (hn : 0 < n) : (M.getD 0 []).length = c := by
  obtain ⟨l, _, h2, h3, _⟩ := h.row hn
  rw [h2, h3]
theorem mulM_grid {n m c : Nat} {a b : List (List Nat)} (ha : Rect n m a) (hb : Rect m c b) (hm : 0 < m) : mulM a b = grid n c (mulF m (el a) (el b)) := by
  have hmc := hb.head hm
  have hlen : (mulM a b).length = n := by unfold mulM; rw [List.length_map, ha.1]
  have hr : Rect n c (mulM a b) := by
    refine ⟨hlen, fun l hl => ?_⟩
    unfold mulM at hl
    obtain ⟨row, hrow, rfl⟩ := List.mem_map.1 hl
    rw [hmc]
    exact ⟨mulRow_len _ (fun r hr => (hb.2 r hr).1), mulRow_lt _⟩
  symm
  refine grid_ext hr fun i j hi hj => ?_
  obtain ⟨row, h1, h2, h3, h4⟩ := ha.row hi
  have : (mulM a b).getD i [] = mulRow b c row := by
    unfold mulM
    rw [hmc, List.getD_eq_getElem?_getD, List.getElem?_map, h1]; rfl
  show _ = ((mulM a b).getD i []).getD j 0
  rw [this]
  have hk := mulRow_sg (fun r hr => (hb.2 r hr).1) (show row.length = b.length by rw [h3, hb.1]) hj b.length (Nat.le_refl _)
  rw [List.take_of_length_le (by rw [h3, hb.1]; exact Nat.le_refl _)] at hk
  rw [hk, hb.1]
  refine sg_congr fun t _ => ?_
  rw [show el a i t = row.getD t 0 by unfold el; rw [h2]]
theorem mulM_rect {n m c : Nat} {a b : List (List Nat)} (ha : Rect n m a) (hb : Rect m c b) (hm : 0 < m) : Rect n c (mulM a b) := by
  rw [mulM_grid ha hb hm]; exact grid_rect fun i j _ _ => mulF_lt _ _ _ _ _
theorem el_mulM {n m c : Nat} {a b : List (List Nat)} (ha : Rect n m a) (hb : Rect m c b) (hm : 0 < m) {i j : Nat} (hi : i < n) (hj : j < c) : el (mulM a b) i j = mulF m (el a) (el b) i j := by
  rw [mulM_grid ha hb hm, el_grid hi hj]
/-! The laws -/
theorem mulF_assoc (p q : Nat) (f g h : Nat → Nat → Nat) (hf : ∀ i j, f i j < 256) (hg : ∀ i j, g i j < 256) (hh : ∀ i j, h i j < 256) (i j : Nat) :
    mulF q (mulF p f g) h i j = mulF p f (mulF q g h) i j := by
  show sg (fun t => gm (sg (fun s => gm (f i s) (g s t)) p) (h t j)) q = sg (fun s => gm (f i s) (sg (fun t => gm (g s t) (h t j)) q)) p
  rw [sg_congr (g := fun t => sg (fun s => gm (gm (f i s) (g s t)) (h t j)) p) fun t _ => gm_sg (hh t j) fun s _ => gm_lt _ _]
  rw [sg_swap (fun t s => gm (gm (f i s) (g s t)) (h t j)) p q]
  refine sg_congr fun s _ => ?_
  rw [sg_gm (hf i s) fun t _ => gm_lt _ _]
  exact sg_congr fun t _ => gm_assoc
theorem mulM_assoc {n m p c : Nat} {a b d : List (List Nat)} (ha : Rect n m a) (hb : Rect m p b) (hd : Rect p c d) (hm : 0 < m) (hp : 0 < p) :
    mulM (mulM a b) d = mulM a (mulM b d) := by
  have hab := mulM_rect ha hb hm
  have hbd := mulM_rect hb hd hp
  refine (mulM_rect hab hd hp).ext (mulM_rect ha hbd hm) fun i j hi hj => ?_
  rw [el_mulM hab hd hp hi hj, el_mulM ha hbd hm hi hj]
  have e1 : mulF p (el (mulM a b)) (el d) i j = mulF p (mulF m (el a) (el b)) (el d) i j := sg_congr fun t ht => by rw [el_mulM ha hb hm hi ht]
  have e2 : mulF m (el a) (el (mulM b d)) i j = mulF m (el a) (mulF p (el b) (el d)) i j := sg_congr fun t ht => by rw [el_mulM hb hd hp ht hj]
  rw [e1, e2, mulF_assoc _ _ _ _ _ ha.lt hb.lt hd.lt]
theorem oneAt_lt (i j : Nat) : oneAt i j < 256 := by unfold oneAt; split <;> decide
theorem one_rect (n : Nat) : Rect n n (grid n n oneAt) := grid_rect fun i j _ _ => oneAt_lt i j
theorem one_mul {n c : Nat} {a : List (List Nat)} (ha : Rect n c a) (hn : 0 < n) : mulM (grid n n oneAt) a = a := by
  refine (mulM_rect (one_rect n) ha hn).ext ha fun i j hi hj => ?_
  rw [el_mulM (one_rect n) ha hn hi hj]
  unfold mulF
  rw [sg_congr (g := fun t => gm (oneAt i t) (el a t j)) fun t ht => by rw [el_grid hi ht]]
  exact sg_one (fun t => ha.lt t j) hi
end Go.Proofs.Ythblmkailhdhlaa.Mat
/- The determinant by its first column, in plain Lean: linear in each row, nothing where two rows are the same. -/
namespace Go.Proofs.Ythblmkailhdhlaa.Mat
set_option linter.unusedVariables false
open Go.RowKit Go.Proofs.Ythblmkailhdhlaa.F Go.Proofs.Ythblmkailhdhlaa.Gf Go.Proofs.YthblmkailhdhlaaW.PrintWords
def skip (i r : Nat) : Nat := if r < i then r else r + 1
def minF (i : Nat) (f : Nat → Nat → Nat) : Nat → Nat → Nat := fun r c => f (skip i r) (c + 1)
def detF : Nat → (Nat → Nat → Nat) → Nat
  | 0, _ => 1
  | n + 1, f => sg (fun i => gm (f i 0) (detF n (minF i f))) (n + 1)
theorem detF_lt : ∀ (n : Nat) (f : Nat → Nat → Nat), detF n f < 256
  | 0, _ => by show (1 : Nat) < 256; decide
  | n + 1, f => sg_lt fun i _ => gm_lt _ _
theorem skip_lt {i r n : Nat} (hi : i < n + 1) (hr : r < n) : skip i r < n + 1 := by unfold skip; split <;> omega
theorem skip_ne (i r : Nat) : skip i r ≠ i := by unfold skip; split <;> omega
theorem detF_congr : ∀ {n : Nat} {f g : Nat → Nat → Nat}, (∀ i j, i < n → j < n → f i j = g i j) → detF n f = detF n g
  | 0, _, _, _ => rfl
  | n + 1, f, g, h => by
    refine sg_congr fun i hi => ?_
    rw [h i 0 hi (by omega), detF_congr (n := n) (f := minF i f) (g := minF i g) fun r c hr hc => h _ _ (skip_lt hi hr) (by omega)]
/-- Where row k lies in the minor without row i. -/
def back (i k : Nat) : Nat := if k < i then k else k - 1
theorem skip_back {i k : Nat} (h : k ≠ i) : skip i (back i k) = k := by
  unfold skip back
  by_cases h1 : k < i
  · rw [if_pos h1, if_pos h1]
  · rw [if_neg h1, if_neg (by omega)]; omega
theorem back_lt {i k n : Nat} (h : k ≠ i) (hk : k < n + 1) (hi : i < n + 1) : back i k < n := by
  unfold back; split <;> omega
theorem skip_eq {i k r : Nat} (h : k ≠ i) : skip i r = k ↔ r = back i k := by
  unfold skip back
  split <;> split <;> omega
theorem detF_lin : ∀ {n k : Nat} {f g h : Nat → Nat → Nat}, k < n → (∀ i j, f i j < 256) → (∀ i j, g i j < 256) →
    (∀ i j, i ≠ k → g i j = f i j) → (∀ i j, i ≠ k → h i j = f i j) → (∀ j, h k j = f k j ^^^ g k j) → detF n h = detF n f ^^^ detF n g
  | n + 1, k, f, g, h, hk, hf, hg, h1, h2, h3 => by
    show sg _ (n + 1) = sg _ (n + 1) ^^^ sg _ (n + 1)
    rw [← sg_xor]
    refine sg_congr fun i hi => ?_
    by_cases e : i = k
    · subst e
      have e1 : detF n (minF i h) = detF n (minF i f) := detF_congr fun r c _ _ => h2 _ _ (skip_ne i r)
      have e2 : detF n (minF i g) = detF n (minF i f) := detF_congr fun r c _ _ => h1 _ _ (skip_ne i r)
      rw [h3, e1, e2, xor_gm (detF_lt _ _) (hf _ _) (hg _ _)]
    · have hb : k ≠ i := fun x => e x.symm
      rw [h2 i 0 e, h1 i 0 e]
      rw [detF_lin (k := back i k) (f := minF i f) (g := minF i g) (h := minF i h) (back_lt hb hk hi) (fun _ _ => hf _ _) (fun _ _ => hg _ _) (fun r j hr => h1 _ _ fun x => hr ((skip_eq hb).1 x)) (fun r j hr => h2 _ _ fun x => hr ((skip_eq hb).1 x)) (fun j => by
        show h (skip i (back i k)) (j + 1) = f (skip i (back i k)) (j + 1) ^^^ g (skip i (back i k)) (j + 1)
        rw [skip_back hb, h3])]
      rw [gm_xor (hf _ _) (detF_lt _ _) (detF_lt _ _)]
theorem detF_sca : ∀ {n k x : Nat} {f h : Nat → Nat → Nat}, k < n → x < 256 → (∀ i j, f i j < 256) →
    (∀ i j, i ≠ k → h i j = f i j) → (∀ j, h k j = gm (f k j) x) → detF n h = gm (detF n f) x
  | n + 1, k, x, f, h, hk, hx, hf, h2, h3 => by
    show sg _ (n + 1) = gm (sg _ (n + 1)) x
    rw [gm_sg hx fun i _ => gm_lt _ _]
    refine sg_congr fun i hi => ?_
    by_cases e : i = k
    · subst e
      have e1 : detF n (minF i h) = detF n (minF i f) := detF_congr fun r c _ _ => h2 _ _ (skip_ne i r)
      rw [h3, e1, gm_assoc, gm_comm x, ← gm_assoc]
    · have hb : k ≠ i := fun x => e x.symm
      rw [h2 i 0 e, detF_sca (k := back i k) (x := x) (f := minF i f) (h := minF i h) (back_lt hb hk hi) hx (fun _ _ => hf _ _) (fun r j hr => h2 _ _ fun x => hr ((skip_eq hb).1 x)) (fun j => by
        show h (skip i (back i k)) (j + 1) = gm (f (skip i (back i k)) (j + 1)) x
        rw [skip_back hb, h3]), gm_assoc]
theorem sg_two {f : Nat → Nat} {p q : Nat} (hpq : p < q) : ∀ {n : Nat}, q < n → (∀ i, i < n → i ≠ p → i ≠ q → f i = 0) → sg f n = f p ^^^ f q
  | n + 1, hq, h => by
    show sg f n ^^^ f n = _
    by_cases e : q = n
    · subst e
      rw [sg_only hpq fun i hi hne => h i (by omega) hne (by omega)]
    · rw [sg_two hpq (by omega) fun i hi => h i (by omega), h n (by omega) (by omega) (by omega), xor_zero]
theorem xor_same (x : Nat) : x ^^^ x = 0 := Nat.xor_self x
theorem xor_eq {x y : Nat} (h : x ^^^ y = 0) : x = y := by
  have h1 : (x ^^^ y) ^^^ y = x := by rw [Nat.xor_assoc, xor_same, xor_zero]
  rw [← h1, h, zero_xor]
theorem detF_adj : ∀ {n p : Nat} {f : Nat → Nat → Nat}, p + 1 < n → (∀ j, f (p + 1) j = f p j) → detF n f = 0
  | n + 1, p, f, hp, h => by
    show sg _ (n + 1) = 0
    rw [sg_two (p := p) (q := p + 1) (by omega) hp]
    · have e : detF n (minF (p + 1) f) = detF n (minF p f) := detF_congr fun r c hr _ => by
        show f (skip (p + 1) r) (c + 1) = f (skip p r) (c + 1)
        unfold skip
        by_cases h1 : r < p
        · rw [if_pos (by omega), if_pos h1]
        · rw [if_neg h1]
          by_cases h2 : r = p
          · subst h2; rw [if_pos (by omega), h]
          · rw [if_neg (by omega)]
      rw [h, e, xor_same]
    · intro i hi h1 h2
      have : detF n (minF i f) = 0 := by
        by_cases hip : i < p
        · refine detF_adj (p := p - 1) (by omega) fun j => ?_
          show f (skip i (p - 1 + 1)) (j + 1) = f (skip i (p - 1)) (j + 1)
          rw [show skip i (p - 1 + 1) = p + 1 by unfold skip; split <;> omega, show skip i (p - 1) = p by unfold skip; split <;> omega, h]
        · refine detF_adj (p := p) (by omega) fun j => ?_
          show f (skip i (p + 1)) (j + 1) = f (skip i p) (j + 1)
          rw [show skip i (p + 1) = p + 1 by unfold skip; split <;> omega, show skip i p = p by unfold skip; split <;> omega, h]
      rw [this, gm_zero]
/-- Rows p and p + 1 put in. -/
def put2 (f : Nat → Nat → Nat) (p : Nat) (a b : Nat → Nat) : Nat → Nat → Nat := fun r j => if r = p then a j else if r = p + 1 then b j else f r j
theorem put2_lt {f : Nat → Nat → Nat} {p : Nat} {a b : Nat → Nat} (hf : ∀ i j, f i j < 256) (ha : ∀ j, a j < 256) (hb : ∀ j, b j < 256) (i j : Nat) : put2 f p a b i j < 256 := by
  unfold put2; split
  · exact ha j
  · split
    · exact hb j
    · exact hf i j
theorem detF_turn {n p : Nat} {f : Nat → Nat → Nat} {a b : Nat → Nat} (hp : p + 1 < n) (hf : ∀ i j, f i j < 256) (ha : ∀ j, a j < 256) (hb : ∀ j, b j < 256) :
    detF n (put2 f p a b) = detF n (put2 f p b a) := by
  have l1 : ∀ c : Nat → Nat, (∀ j, c j < 256) → detF n (put2 f p (fun j => a j ^^^ b j) c) = detF n (put2 f p a c) ^^^ detF n (put2 f p b c) := fun c hc =>
    detF_lin (k := p) (by omega) (put2_lt hf ha hc) (put2_lt hf hb hc) (fun i j hi => by simp [put2, hi]) (fun i j hi => by simp [put2, hi]) (fun j => by simp [put2])
  have l2 : ∀ c : Nat → Nat, (∀ j, c j < 256) → detF n (put2 f p c (fun j => a j ^^^ b j)) = detF n (put2 f p c a) ^^^ detF n (put2 f p c b) := fun c hc =>
    detF_lin (k := p + 1) (by omega) (put2_lt hf hc ha) (put2_lt hf hc hb) (fun i j hi => by simp [put2, hi]) (fun i j hi => by simp [put2, hi]) (fun j => by simp [put2])
  have z : ∀ c : Nat → Nat, detF n (put2 f p c c) = 0 := fun c => detF_adj hp fun j => by simp [put2]
  have hs : ∀ j, a j ^^^ b j < 256 := fun j => xor_lt (ha j) (hb j)
  have h0 := z (fun j => a j ^^^ b j)
  rw [l1 _ hs, l2 a ha, l2 b hb, z a, z b, zero_xor, xor_zero] at h0
  exact xor_eq h0
theorem put2_self (f : Nat → Nat → Nat) (p : Nat) : put2 f p (f p) (f (p + 1)) = f := by
  funext r j
  unfold put2
  split
  · next h => rw [h]
  · split
    · next h => rw [h]
    · rfl
theorem detF_same : ∀ {d n p : Nat} {f : Nat → Nat → Nat}, p + 1 + d < n → (∀ i j, f i j < 256) → (∀ j, f (p + 1 + d) j = f p j) → detF n f = 0
  | 0, n, p, f, hp, hf, h => detF_adj hp h
  | d + 1, n, p, f, hp, hf, h => by
    rw [← put2_self f (p + 1 + d), detF_turn (by omega) hf (hf _) (hf _)]
    refine detF_same (d := d) (p := p) (by omega) (put2_lt hf (hf _) (hf _)) fun j => ?_
    unfold put2
    rw [if_pos rfl, if_neg (by omega), if_neg (by omega)]
    exact h j
theorem detF_two {n p q : Nat} {f : Nat → Nat → Nat} (hp : p < n) (hq : q < n) (hne : p ≠ q) (hf : ∀ i j, f i j < 256) (h : ∀ j, f p j = f q j) : detF n f = 0 := by
  by_cases hlt : p < q
  · exact detF_same (d := q - p - 1) (p := p) (by omega) hf fun j => by rw [show p + 1 + (q - p - 1) = q by omega, h]
  · exact detF_same (d := p - q - 1) (p := q) (by omega) hf fun j => by rw [show q + 1 + (p - q - 1) = p by omega, h]
/-- Row i with x times row c. -/
def addF (i c x : Nat) (f : Nat → Nat → Nat) : Nat → Nat → Nat := fun r j => if r = i then f r j ^^^ gm x (f c j) else f r j
/-- Row c times x. -/
def scaF (c x : Nat) (f : Nat → Nat → Nat) : Nat → Nat → Nat := fun r j => if r = c then gm (f r j) x else f r j
theorem addF_lt {i c x : Nat} {f : Nat → Nat → Nat} (hf : ∀ i j, f i j < 256) (r j : Nat) : addF i c x f r j < 256 := by
  unfold addF; split
  · exact xor_lt (hf _ _) (gm_lt _ _)
  · exact hf _ _
theorem scaF_lt {c x : Nat} {f : Nat → Nat → Nat} (hf : ∀ i j, f i j < 256) (r j : Nat) : scaF c x f r j < 256 := by
  unfold scaF; split
  · exact gm_lt _ _
  · exact hf _ _
theorem detF_scaF {n c x : Nat} {f : Nat → Nat → Nat} (hc : c < n) (hx : x < 256) (hf : ∀ i j, f i j < 256) : detF n (scaF c x f) = gm (detF n f) x :=
  detF_sca hc hx hf (fun i j hi => by simp [scaF, hi]) (fun j => by simp [scaF])
theorem detF_addF {n i c x : Nat} {f : Nat → Nat → Nat} (hi : i < n) (hc : c < n) (hne : i ≠ c) (hx : x < 256) (hf : ∀ i j, f i j < 256) : detF n (addF i c x f) = detF n f := by
  let g : Nat → Nat → Nat := fun r j => if r = i then gm (f c j) x else f r j
  let e : Nat → Nat → Nat := fun r j => if r = i then f c j else f r j
  have hg : ∀ r j, g r j < 256 := fun r j => by show (if r = i then gm (f c j) x else f r j) < 256; split; exact gm_lt _ _; exact hf _ _
  have he : ∀ r j, e r j < 256 := fun r j => by show (if r = i then f c j else f r j) < 256; split; exact hf _ _; exact hf _ _
  have h1 : detF n (addF i c x f) = detF n f ^^^ detF n g := detF_lin hi hf hg (fun r j hr => by simp [g, hr]) (fun r j hr => by simp [addF, hr]) (fun j => by simp [addF, g, gm_comm x])
  have h2 : detF n g = gm (detF n e) x := detF_sca hi hx he (fun r j hr => by simp [g, e, hr]) (fun j => by simp [g, e])
  have h3 : detF n e = 0 := detF_two hi hc hne he fun j => by simp [e]
  rw [h1, h2, h3, zero_gm, xor_zero]
/-- The first c columns are the one's, and column c has nothing from row c on. -/
theorem detF_none : ∀ {c n : Nat} {f : Nat → Nat → Nat}, c < n → (∀ j, j < c → ∀ i, i < n → f i j = oneAt i j) → (∀ i, c ≤ i → i < n → f i c = 0) → detF n f = 0
  | 0, n + 1, f, _, _, h => by
    show sg _ (n + 1) = 0
    rw [sg_congr (g := fun _ => 0) fun i hi => by rw [h i (by omega) hi, zero_gm]]
    exact sg_zero _
  | c + 1, n + 1, f, hc, h1, h => by
    show sg _ (n + 1) = 0
    rw [sg_only (k := 0) (by omega) fun i hi hne => by rw [h1 0 (by omega) i hi]; unfold oneAt; rw [if_neg hne]; exact zero_gm _]
    rw [detF_none (c := c) (f := minF 0 f) (by omega) (fun j hj i hi => by
      show f (skip 0 i) (j + 1) = _
      rw [show skip 0 i = i + 1 from rfl, h1 (j + 1) (by omega) (i + 1) (by omega)]
      unfold oneAt; by_cases e : i = j
      · rw [if_pos e, if_pos (by omega)]
      · rw [if_neg e, if_neg (by omega)]) (fun i hi hin => h (i + 1) (by omega) (by omega)), gm_zero]
theorem detF_one : ∀ {n : Nat} {f : Nat → Nat → Nat}, (∀ i j, i < n → j < n → f i j = oneAt i j) → detF n f = 1
  | 0, _, _ => rfl
  | n + 1, f, h => by
    show sg _ (n + 1) = 1
    rw [sg_only (k := 0) (by omega) fun i hi hne => by rw [h i 0 hi (by omega)]; unfold oneAt; rw [if_neg hne]; exact zero_gm _]
    rw [h 0 0 (by omega) (by omega), detF_one (f := minF 0 f) fun i j hi hj => by
      show f (skip 0 i) (j + 1) = _
      rw [show skip 0 i = i + 1 from rfl, h (i + 1) (j + 1) (by omega) (by omega)]
      unfold oneAt; by_cases e : i = j
      · rw [if_pos e, if_pos (by omega)]
      · rw [if_neg e, if_neg (by omega)]]
    exact one_gm (a := 1) (by omega)
end Go.Proofs.Ythblmkailhdhlaa.Mat
/- What Gauss makes, in plain Lean: the inverse on both sides, or none where the determinant is nothing. -/
namespace Go.Proofs.Ythblmkailhdhlaa.Mat
set_option linter.unusedVariables false
open Go.RowKit Go.Proofs.Ythblmkailhdhlaa.F Go.Proofs.Ythblmkailhdhlaa.Gf Go.Proofs.YthblmkailhdhlaaW.PrintWords
/-- What holds of the two matrices while the rows are worked on. -/
structure GI (n : Nat) (m f g : Nat → Nat → Nat) : Prop where
  ml : ∀ i j, m i j < 256
  fl : ∀ i j, f i j < 256
  gl : ∀ i j, g i j < 256
  left : ∀ i j, i < n → j < n → mulF n g m i j = f i j
  right : ∃ P : Nat → Nat → Nat, (∀ i j, P i j < 256) ∧ (∀ i j, i < n → j < n → mulF n P f i j = m i j) ∧ ∀ i j, i < n → j < n → mulF n P g i j = oneAt i j
  dz : detF n f = 0 ↔ detF n m = 0
theorem mulF_congr {n : Nat} {f f' g g' : Nat → Nat → Nat} {i j : Nat} (h1 : ∀ t, t < n → f i t = f' i t) (h2 : ∀ t, t < n → g t j = g' t j) : mulF n f g i j = mulF n f' g' i j :=
  sg_congr fun t ht => by rw [h1 t ht, h2 t ht]
theorem GI.congr {n : Nat} {m f g f' g' : Nat → Nat → Nat} (h : GI n m f g) (hf : ∀ i j, f' i j < 256) (hg : ∀ i j, g' i j < 256)
    (h1 : ∀ i j, i < n → j < n → f' i j = f i j) (h2 : ∀ i j, i < n → j < n → g' i j = g i j) : GI n m f' g' := by
  obtain ⟨P, p1, p2, p3⟩ := h.right
  refine ⟨h.ml, hf, hg, fun i j hi hj => ?_, ⟨P, p1, fun i j hi hj => ?_, fun i j hi hj => ?_⟩, ?_⟩
  · rw [h1 i j hi hj, ← h.left i j hi hj]; exact mulF_congr (fun t ht => h2 i t hi ht) fun _ _ => rfl
  · rw [← p2 i j hi hj]; exact mulF_congr (fun _ _ => rfl) fun t ht => h1 t j ht hj
  · rw [← p3 i j hi hj]; exact mulF_congr (fun _ _ => rfl) fun t ht => h2 t j ht hj
  · rw [detF_congr h1]; exact h.dz
theorem sg_put (h : Nat → Nat) (A : Nat) {n c : Nat} (hc : c < n) : sg (fun t => h t ^^^ (if t = c then A else 0)) n = sg h n ^^^ A := by
  rw [sg_xor, sg_only (f := fun t => if t = c then A else 0) hc fun i _ hne => if_neg hne]
  rw [if_pos rfl]
theorem xor_three (a b : Nat) : (a ^^^ b) ^^^ b = a := by rw [Nat.xor_assoc, xor_same, xor_zero]
theorem col_add {n i c x : Nat} {P h : Nat → Nat → Nat} (hP : ∀ i j, P i j < 256) (hh : ∀ i j, h i j < 256) (hi : i < n) (hc : c < n) (hne : i ≠ c) (hx : x < 256) (r j : Nat) :
    mulF n (fun r t => if t = c then P r c ^^^ gm (P r i) x else P r t) (addF i c x h) r j = mulF n P h r j := by
  have e : ∀ t, t < n → gm (if t = c then P r c ^^^ gm (P r i) x else P r t) (addF i c x h t j) =
      (gm (P r t) (h t j) ^^^ (if t = c then gm (gm (P r i) x) (h c j) else 0)) ^^^ (if t = i then gm (P r i) (gm x (h c j)) else 0) := by
    intro t ht
    unfold addF
    by_cases h1 : t = c
    · subst h1
      rw [if_pos rfl, if_neg (fun z => hne z.symm), if_pos rfl, if_neg (fun z => hne z.symm), xor_zero, xor_gm (hh _ _) (hP _ _) (gm_lt _ _)]
    · rw [if_neg h1, if_neg h1, xor_zero]
      by_cases h2 : t = i
      · subst h2
        rw [if_pos rfl, if_pos rfl, gm_xor (hP _ _) (hh _ _) (gm_lt _ _)]
      · rw [if_neg h2, if_neg h2, xor_zero]
  show sg _ n = sg _ n
  rw [sg_congr e, sg_put _ _ hi, sg_put _ _ hc, gm_assoc, xor_three]
theorem GI.add {n i c x : Nat} {m f g : Nat → Nat → Nat} (h : GI n m f g) (hi : i < n) (hc : c < n) (hne : i ≠ c) (hx : x < 256) : GI n m (addF i c x f) (addF i c x g) := by
  obtain ⟨P, p1, p2, p3⟩ := h.right
  refine ⟨h.ml, addF_lt h.fl, addF_lt h.gl, fun r j hr hj => ?_, ⟨fun r t => if t = c then P r c ^^^ gm (P r i) x else P r t, fun r t => ?_, fun r j hr hj => ?_, fun r j hr hj => ?_⟩, ?_⟩
  · by_cases e : r = i
    · subst e
      have : mulF n (addF r c x g) m r j = sg (fun t => gm (g r t) (m t j) ^^^ gm x (gm (g c t) (m t j))) n := sg_congr fun t _ => by
        unfold addF; rw [if_pos rfl, xor_gm (h.ml _ _) (h.gl _ _) (gm_lt _ _), gm_assoc]
      rw [this, sg_xor, ← sg_gm hx fun _ _ => gm_lt _ _]
      have e1 := h.left r j hr hj
      have e2 := h.left c j hc hj
      unfold mulF at e1 e2
      rw [e1, e2]
      unfold addF; rw [if_pos rfl]
    · have : mulF n (addF i c x g) m r j = mulF n g m r j := mulF_congr (fun t _ => by unfold addF; rw [if_neg e]) fun _ _ => rfl
      rw [this, h.left r j hr hj]; unfold addF; rw [if_neg e]
  · show (if t = c then P r c ^^^ gm (P r i) x else P r t) < 256
    split
    · exact xor_lt (p1 _ _) (gm_lt _ _)
    · exact p1 _ _
  · rw [col_add p1 h.fl hi hc hne hx, p2 r j hr hj]
  · rw [col_add p1 h.gl hi hc hne hx, p3 r j hr hj]
  · rw [detF_addF hi hc hne hx h.fl]; exact h.dz
theorem col_sca {n c x : Nat} {P h : Nat → Nat → Nat} (hh : ∀ i j, h i j < 256) (hc : c < n) (hx : x < 256) (hx0 : x ≠ 0) (r j : Nat) :
    mulF n (fun r t => if t = c then gm (P r c) (gd 1 x) else P r t) (scaF c x h) r j = mulF n P h r j := by
  refine sg_congr fun t _ => ?_
  show gm (if t = c then gm (P r c) (gd 1 x) else P r t) (if t = c then gm (h t j) x else h t j) = _
  by_cases e : t = c
  · subst e
    rw [if_pos rfl, if_pos rfl, gm_assoc, gm_comm (h t j) x, ← gm_assoc (a := gd 1 x), gd_gm (by omega) hx hx0, one_gm (hh _ _)]
  · rw [if_neg e, if_neg e]
theorem GI.sca {n c x : Nat} {m f g : Nat → Nat → Nat} (h : GI n m f g) (hc : c < n) (hx : x < 256) (hx0 : x ≠ 0) : GI n m (scaF c x f) (scaF c x g) := by
  obtain ⟨P, p1, p2, p3⟩ := h.right
  refine ⟨h.ml, scaF_lt h.fl, scaF_lt h.gl, fun r j hr hj => ?_, ⟨fun r t => if t = c then gm (P r c) (gd 1 x) else P r t, fun r t => ?_, fun r j hr hj => ?_, fun r j hr hj => ?_⟩, ?_⟩
  · by_cases e : r = c
    · subst e
      have : mulF n (scaF r x g) m r j = sg (fun t => gm (gm (g r t) (m t j)) x) n := sg_congr fun t _ => by
        unfold scaF; rw [if_pos rfl, gm_assoc, gm_comm x, ← gm_assoc]
      rw [this, ← gm_sg hx fun _ _ => gm_lt _ _]
      have e1 := h.left r j hr hj
      unfold mulF at e1
      rw [e1]
      unfold scaF; rw [if_pos rfl]
    · have : mulF n (scaF c x g) m r j = mulF n g m r j := mulF_congr (fun t _ => by unfold scaF; rw [if_neg e]) fun _ _ => rfl
      rw [this, h.left r j hr hj]; unfold scaF; rw [if_neg e]
  · show (if t = c then gm (P r c) (gd 1 x) else P r t) < 256
    split
    · exact gm_lt _ _
    · exact p1 _ _
  · rw [col_sca h.fl hc hx hx0, p2 r j hr hj]
  · rw [col_sca h.gl hc hx hx0, p3 r j hr hj]
  · rw [detF_scaF hc hx h.fl]
    refine Iff.trans ⟨fun z => ?_, fun z => ?_⟩ h.dz
    · by_cases e : detF n f = 0
      · exact e
      · exact absurd z (gm_ne e hx0)
    · rw [z, zero_gm]
/-- Rows c and p in each other's places. -/
def swF (c p : Nat) (f : Nat → Nat → Nat) : Nat → Nat → Nat := fun r j => if r = p then f c j else if r = c then f p j else f r j
theorem swF_adds {c p : Nat} (hne : c ≠ p) {f : Nat → Nat → Nat} (hf : ∀ i j, f i j < 256) : swF c p f = addF p c 1 (addF c p 1 (addF p c 1 f)) := by
  funext r j
  have h1 : ∀ r j, addF p c 1 f r j = if r = p then f p j ^^^ f c j else f r j := fun r j => by
    unfold addF; by_cases e : r = p
    · rw [if_pos e, if_pos e, one_gm (hf _ _), e]
    · rw [if_neg e, if_neg e]
  have h2 : ∀ r j, addF c p 1 (addF p c 1 f) r j = if r = p then f p j ^^^ f c j else if r = c then f p j else f r j := fun r j => by
    show (if r = c then addF p c 1 f r j ^^^ gm 1 (addF p c 1 f p j) else addF p c 1 f r j) = _
    rw [h1, h1, if_pos rfl, one_gm (xor_lt (hf _ _) (hf _ _))]
    by_cases e : r = c
    · subst e
      rw [if_pos rfl, if_neg hne, if_neg hne, if_pos rfl, Nat.xor_comm (f p j), ← Nat.xor_assoc, xor_same, zero_xor]
    · rw [if_neg e]; split
      · rfl
      · rfl
  have h3 : addF p c 1 (addF c p 1 (addF p c 1 f)) r j = if r = p then addF c p 1 (addF p c 1 f) r j ^^^ gm 1 (addF c p 1 (addF p c 1 f) c j) else addF c p 1 (addF p c 1 f) r j := rfl
  rw [h3, h2, h2, if_neg hne, if_pos rfl, one_gm (hf _ _)]
  unfold swF
  by_cases e : r = p
  · rw [if_pos e, if_pos e, if_pos e, Nat.xor_comm (f p j), xor_three]
  · rw [if_neg e, if_neg e, if_neg e]
theorem swF_lt {c p : Nat} {f : Nat → Nat → Nat} (hf : ∀ i j, f i j < 256) (i j : Nat) : swF c p f i j < 256 := by
  unfold swF; split
  · exact hf _ _
  · split
    · exact hf _ _
    · exact hf _ _
theorem GI.swap {n c p : Nat} {m f g : Nat → Nat → Nat} (h : GI n m f g) (hc : c < n) (hp : p < n) : GI n m (swF c p f) (swF c p g) := by
  by_cases hne : c = p
  · subst hne
    have e : ∀ f : Nat → Nat → Nat, swF c c f = f := fun f => by
      funext r j; unfold swF; by_cases e : r = c
      · rw [if_pos e, e]
      · rw [if_neg e, if_neg e]
    rw [e, e]; exact h
  · rw [swF_adds hne h.fl, swF_adds hne h.gl]
    exact ((h.add hp hc (Ne.symm hne) (by omega)).add hc hp hne (by omega)).add hp hc (Ne.symm hne) (by omega)
/-! The same of the lists. -/
theorem Square.lt {n : Nat} {M : List (List Nat)} (h : Square n M) (i j : Nat) : Mat.el M i j < 256 := h.rect.lt i j
theorem el_set {M : List (List Nat)} {i : Nat} (hi : i < M.length) (l : List Nat) (r j : Nat) : el (M.set i l) r j = if r = i then l.getD j 0 else el M r j := by
  unfold el
  rw [List.getD_eq_getElem?_getD (l := M.set i l), List.getElem?_set]
  by_cases e : i = r
  · rw [if_pos e, if_pos e.symm]
    rw [if_pos hi]; rfl
  · rw [if_neg e, if_neg (fun z => e z.symm), ← List.getD_eq_getElem?_getD]
theorem el_swapL {n : Nat} {M : List (List Nat)} (h : Square n M) {c p : Nat} (hc : c < n) (hp : p < n) (r j : Nat) : el (swapL M c p) r j = swF c p (el M) r j := by
  have e : (swapL M c p).getD r [] = if r = p then M.getD c [] else if r = c then M.getD p [] else M.getD r [] := by
    rw [List.getD_eq_getElem?_getD, swapL_get (by rw [h.1]; exact hc) (by rw [h.1]; exact hp)]
    split
    · rw [← List.getD_eq_getElem?_getD]
    · split
      · rw [← List.getD_eq_getElem?_getD]
      · rw [← List.getD_eq_getElem?_getD]
  show ((swapL M c p).getD r []).getD j 0 = _
  rw [e]
  unfold swF
  split
  · rfl
  · split
    · rfl
    · rfl
theorem map_getD (l : List Nat) (x j : Nat) : (l.map (gm · x)).getD j 0 = gm (l.getD j 0) x := by
  by_cases hj : j < l.length
  · rw [getD_at (by simp; omega), getD_at hj, List.getElem_map]
  · rw [getD_none (by simp; omega), getD_none hj, zero_gm]
theorem el_scale {n : Nat} {M : List (List Nat)} (h : Square n M) {c x : Nat} (hc : c < n) (r j : Nat) : el (scale M c x) r j = scaF c x (el M) r j := by
  unfold scale
  rw [el_set (by rw [h.1]; exact hc), map_getD]
  unfold scaF
  by_cases e : r = c
  · rw [if_pos e, if_pos e, e]; rfl
  · rw [if_neg e, if_neg e]
theorem el_addTo {n : Nat} {M : List (List Nat)} (h : Square n M) {i c x : Nat} (hi : i < n) (hc : c < n) (r : Nat) {j : Nat} (hj : j < n) : el (addTo' M i c x) r j = addF i c x (el M) r j := by
  unfold addTo'
  obtain ⟨l1, _, e1, q1, _⟩ := h.row hi
  obtain ⟨l2, _, e2, q2, _⟩ := h.row hc
  rw [el_set (by rw [h.1]; exact hi), addRow_getD (c := n) (by rw [e1, q1]) (by rw [e2, q2]) hj]
  unfold addF
  by_cases e : r = i
  · rw [if_pos e, if_pos e, e]; rfl
  · rw [if_neg e, if_neg e]
theorem Square.scale {n : Nat} {M : List (List Nat)} (h : Square n M) {c x : Nat} (hc : c < n) : Square n (scale M c x) := by
  obtain ⟨l, _, e, q, _⟩ := h.row hc
  exact h.set c ⟨by rw [List.length_map, e, q], map_lt _ _⟩
theorem Square.addTo {n : Nat} {M : List (List Nat)} (h : Square n M) {i c x : Nat} (hi : i < n) (hc : c < n) : Square n (addTo' M i c x) := by
  obtain ⟨l1, _, e1, q1, b1⟩ := h.row hi
  obtain ⟨l2, _, e2, q2, _⟩ := h.row hc
  exact h.set i ⟨by rw [e1, e2, addRow_len _ _ _ (by omega), q1], by rw [e1]; exact addRow_lt b1⟩
/-- What holds of both lists. -/
structure GL (n : Nat) (m : Nat → Nat → Nat) (S : List (List Nat) × List (List Nat)) : Prop where
  s1 : Square n S.1
  s2 : Square n S.2
  gi : GI n m (el S.1) (el S.2)
theorem GL.rid {n c i : Nat} {m : Nat → Nat → Nat} {S : List (List Nat) × List (List Nat)} (h : GL n m S) (hc : c < n) (hi : i < n) : GL n m (rid c S i) := by
  unfold Mat.rid
  by_cases e : i ≠ c ∧ el S.1 i c ≠ 0
  · rw [if_pos e]
    refine ⟨h.s1.addTo hi hc, h.s2.addTo hi hc, ?_⟩
    exact (h.gi.add hi hc e.1 (h.s1.lt i c)).congr (Square.lt (h.s1.addTo hi hc)) (Square.lt (h.s2.addTo hi hc)) (fun r j _ hj => el_addTo h.s1 hi hc r hj) (fun r j _ hj => el_addTo h.s2 hi hc r hj)
  · rw [if_neg e]; exact h
/-- What rid makes of the left one's places, where row c has a 1 in column c. -/
theorem rid_el {n c i : Nat} {S : List (List Nat) × List (List Nat)} (h1 : Square n S.1) (hc : c < n) (hi : i < n) (hcc : el S.1 c c = 1) (r : Nat) {j : Nat} (hj : j < n) :
    el (rid c S i).1 r j = if r = i ∧ i ≠ c then el S.1 i j ^^^ gm (el S.1 i c) (el S.1 c j) else el S.1 r j := by
  unfold Mat.rid
  by_cases e : i ≠ c ∧ el S.1 i c ≠ 0
  · rw [if_pos e]
    show el (addTo' S.1 i c (el S.1 i c)) r j = _
    rw [el_addTo h1 hi hc r hj]
    unfold addF
    by_cases e2 : r = i
    · subst e2; rw [if_pos rfl, if_pos ⟨rfl, e.1⟩]
    · rw [if_neg e2, if_neg (fun z => e2 z.1)]
  · rw [if_neg e]
    by_cases e2 : r = i ∧ i ≠ c
    · rw [if_pos e2]
      have : el S.1 i c = 0 := by
        by_cases z : el S.1 i c = 0
        · exact z
        · exact absurd ⟨e2.2, z⟩ e
      rw [this, zero_gm, xor_zero, e2.1]
    · rw [if_neg e2]
theorem rids_ok {n c : Nat} {m : Nat → Nat → Nat} (hc : c < n) : ∀ d i (S : List (List Nat) × List (List Nat)), i + d = n → GL n m S → el S.1 c c = 1 → (∀ j, j < c → ∀ r, r < n → el S.1 r j = oneAt r j) → (∀ r, r < i → el S.1 r c = oneAt r c) →
    GL n m (rids c d i S) ∧ (∀ j, j < c + 1 → ∀ r, r < n → el (rids c d i S).1 r j = oneAt r j)
  | 0, i, S, hd, h, hcc, hj, hr => by
    refine ⟨h, fun j hj' r hrn => ?_⟩
    show el S.1 r j = _
    by_cases e : j < c
    · exact hj j e r hrn
    · obtain rfl : j = c := by omega
      exact hr r (by omega)
  | d + 1, i, S, hd, h, hcc, hj, hr => by
    have hi : i < n := by omega
    have hz : ∀ j, j < c → el S.1 c j = 0 := fun j hjc => by rw [hj j hjc c hc]; unfold oneAt; rw [if_neg (by omega)]
    refine rids_ok hc d (i + 1) (rid c S i) (by omega) (h.rid hc hi) ?_ ?_ ?_
    · rw [rid_el h.s1 hc hi hcc c hc, if_neg (fun z => z.2 z.1.symm), hcc]
    · intro j hjc r hrn
      rw [rid_el h.s1 hc hi hcc r (by omega)]
      by_cases e : r = i ∧ i ≠ c
      · rw [if_pos e, hz j hjc, gm_zero, xor_zero, ← e.1]; exact hj j hjc r hrn
      · rw [if_neg e]; exact hj j hjc r hrn
    · intro r hri
      rw [rid_el h.s1 hc hi hcc r hc]
      by_cases e : r = i ∧ i ≠ c
      · rw [if_pos e, hcc, gm_one (h.s1.lt i c), xor_same]
        unfold oneAt; rw [if_neg (by omega)]
      · rw [if_neg e]
        by_cases e2 : r = c
        · subst e2; rw [hcc]; unfold oneAt; rw [if_pos rfl]
        · exact hr r (by omega)
theorem pivN_none {L : List (List Nat)} {c : Nat} : ∀ {d i : Nat}, pivN L c d i = none → ∀ r, i ≤ r → r < i + d → el L r c = 0
  | 0, i, h, r, h1, h2 => by omega
  | d + 1, i, h, r, h1, h2 => by
    unfold pivN at h
    by_cases h0 : el L i c = 0
    · rw [if_pos h0] at h
      by_cases e : r = i
      · rw [e]; exact h0
      · exact pivN_none h r (by omega) (by omega)
    · rw [if_neg h0] at h; cases h
theorem lead_ok {n c p : Nat} {m : Nat → Nat → Nat} {S : List (List Nat) × List (List Nat)} (h : GL n m S) (hc : c < n) (hp : p < n) (hcp : c ≤ p) (h0 : el S.1 p c ≠ 0) (hj : ∀ j, j < c → ∀ r, r < n → el S.1 r j = oneAt r j) :
    GL n m (lead c p S) ∧ el (lead c p S).1 c c = 1 ∧ ∀ j, j < c → ∀ r, r < n → el (lead c p S).1 r j = oneAt r j := by
  have s1 := h.s1.swap c p
  have s2 := h.s2.swap c p
  have ec : ∀ j, el (swapL S.1 c p) c j = el S.1 p j := fun j => by
    rw [el_swapL h.s1 hc hp]; unfold swF
    by_cases e : c = p
    · rw [if_pos e, e]
    · rw [if_neg e, if_pos rfl]
  have hv : el (swapL S.1 c p) c c ≠ 0 := by rw [ec]; exact h0
  have hvl : el (swapL S.1 c p) c c < 256 := s1.lt _ _
  have hx : (dq 1 (el (swapL S.1 c p) c c)).1 = gd 1 (el (swapL S.1 c p) c c) := by unfold dq; rw [if_neg hv]
  have hg := gd_gm (a := 1) (by omega) hvl hv
  have hgne : gd 1 (el (swapL S.1 c p) c c) ≠ 0 := fun z => by rw [z, zero_gm] at hg; omega
  unfold Mat.lead
  rw [hx]
  have g1 : GI n m (el (swapL S.1 c p)) (el (swapL S.2 c p)) := (h.gi.swap hc hp).congr s1.lt s2.lt (fun r j _ _ => el_swapL h.s1 hc hp r j) (fun r j _ _ => el_swapL h.s2 hc hp r j)
  generalize hV : el (swapL S.1 c p) c c = v at *
  have g2 := (g1.sca hc (gd_lt 1 v) hgne).congr (Square.lt (s1.scale (x := gd 1 v) hc)) (Square.lt (s2.scale (x := gd 1 v) hc)) (fun r j _ _ => el_scale s1 hc r j) (fun r j _ _ => el_scale s2 hc r j)
  refine ⟨⟨s1.scale hc, s2.scale hc, g2⟩, ?_, ?_⟩
  · show el (scale (swapL S.1 c p) c (gd 1 v)) c c = 1
    rw [el_scale s1 hc]; unfold scaF; rw [if_pos rfl, hV, gm_comm]; exact hg
  · intro j hjc r hr
    show el (scale (swapL S.1 c p) c (gd 1 v)) r j = _
    rw [el_scale s1 hc]; unfold scaF
    by_cases e : r = c
    · rw [if_pos e, e, ec, hj j hjc p hp]
      unfold oneAt; rw [if_neg (by omega), if_neg (by omega), zero_gm]
    · rw [if_neg e, el_swapL h.s1 hc hp]; unfold swF
      by_cases e2 : r = p
      · rw [if_pos e2, hj j hjc c hc, e2]; unfold oneAt; rw [if_neg (by omega), if_neg (by omega)]
      · rw [if_neg e2, if_neg e]; exact hj j hjc r hr
/-- Something that the matrix makes nothing of. -/
def Ker (n : Nat) (m : Nat → Nat → Nat) : Prop := ∃ (v : Nat → Nat) (c : Nat), (∀ t, v t < 256) ∧ c < n ∧ v c = 1 ∧ ∀ i, i < n → sg (fun t => gm (m i t) (v t)) n = 0
theorem ker_of {n c : Nat} {m f g : Nat → Nat → Nat} (h : GI n m f g) (hc : c < n) (hj : ∀ j, j < c → ∀ r, r < n → f r j = oneAt r j) (hz : ∀ r, c ≤ r → r < n → f r c = 0) : Ker n m := by
  let v : Nat → Nat := fun t => if t < c then f t c else if t = c then 1 else 0
  have hv : ∀ t, v t < 256 := fun t => by show (if t < c then f t c else if t = c then 1 else 0) < 256; split; exact h.fl _ _; split <;> omega
  have vc : v c = 1 := by show (if c < c then f c c else if c = c then 1 else 0) = 1; rw [if_neg (by omega), if_pos rfl]
  have vl : ∀ t, t < c → v t = f t c := fun t ht => if_pos ht
  have vg : ∀ t, c < t → v t = 0 := fun t ht => by show (if t < c then f t c else if t = c then 1 else 0) = 0; rw [if_neg (by omega), if_neg (by omega)]
  have fv : ∀ i, i < n → sg (fun t => gm (f i t) (v t)) n = 0 := by
    intro i hi
    by_cases e : i < c
    · rw [sg_two e hc fun t ht h1 h2 => ?_]
      · rw [hj i e i hi, vl i e, vc, gm_one (h.fl _ _)]
        unfold oneAt; rw [if_pos rfl, one_gm (h.fl _ _), xor_same]
      · show gm (f i t) (v t) = 0
        by_cases e2 : t < c
        · rw [hj t e2 i hi]; unfold oneAt; rw [if_neg (by omega), zero_gm]
        · rw [vg t (by omega), gm_zero]
    · rw [sg_congr (g := fun _ => 0) fun t ht => ?_]
      · exact sg_zero n
      · show gm (f i t) (v t) = 0
        by_cases e2 : t < c
        · rw [hj t e2 i hi]; unfold oneAt; rw [if_neg (by omega), zero_gm]
        · by_cases e3 : t = c
          · rw [e3, hz i (by omega) hi, zero_gm]
          · rw [vg t (by omega), gm_zero]
  refine ⟨v, c, hv, hc, vc, fun i hi => ?_⟩
  obtain ⟨P, p1, p2, p3⟩ := h.right
  have e1 : sg (fun t => gm (m i t) (v t)) n = mulF n (mulF n P f) (fun t _ => v t) i 0 := sg_congr fun t ht => by rw [p2 i t hi ht]
  rw [e1, mulF_assoc _ _ _ _ _ p1 h.fl (fun t _ => hv t)]
  show sg (fun s => gm (P i s) (sg (fun t => gm (f s t) (v t)) n)) n = 0
  rw [sg_congr (g := fun _ => 0) fun s hs => by rw [fv s hs, gm_zero]]
  exact sg_zero n
theorem gauss_ok {n : Nat} {m : Nat → Nat → Nat} : ∀ d c (S : List (List Nat) × List (List Nat)), c + d = n → GL n m S → (∀ j, j < c → ∀ r, r < n → el S.1 r j = oneAt r j) →
    (gauss d c S = none ∧ detF n m = 0 ∧ Ker n m) ∨ ∃ T, gauss d c S = some T ∧ GL n m T ∧ ∀ j, j < n → ∀ r, r < n → el T.1 r j = oneAt r j
  | 0, c, S, hd, h, hj => .inr ⟨S, rfl, h, by rw [show n = c by omega] at hj ⊢; exact hj⟩
  | d + 1, c, S, hd, h, hj => by
    have hl : S.1.length = n := h.s1.1
    unfold gauss
    cases hp : pivN S.1 c (S.1.length - c) c with
    | none =>
      refine .inl ⟨rfl, ?_⟩
      have := pivN_none hp
      exact ⟨h.gi.dz.1 (detF_none (c := c) (by omega) hj fun i hi hin => this i hi (by omega)), ker_of h.gi (by omega) hj fun i hi hin => this i hi (by omega)⟩
    | some p =>
      obtain ⟨h1, h2, h3⟩ := pivN_lt hp
      obtain ⟨k1, k2, k3⟩ := lead_ok h (by omega) (by omega) h1 h3 hj
      rw [hl]
      obtain ⟨k4, k5⟩ := rids_ok (by omega) n 0 (lead c p S) (by omega) k1 k2 k3 (fun r hr => by omega)
      exact gauss_ok d (c + 1) _ (by omega) k4 k5
/-- Gauss, in the whole. -/
theorem gauss_all {n : Nat} {M : List (List Nat)} (h : Square n M) (hn : 0 < n) :
    (gauss n 0 (M, grid n n oneAt) = none ∧ detF n (el M) = 0 ∧ Ker n (el M)) ∨
    ∃ T, gauss n 0 (M, grid n n oneAt) = some T ∧ detF n (el M) ≠ 0 ∧ Square n T.2 ∧ mulM T.2 M = grid n n oneAt ∧ mulM M T.2 = grid n n oneAt := by
  have h1 : Square n (grid n n oneAt) := one_rect n
  have e1 : ∀ f : Nat → Nat → Nat, (∀ i j, f i j < 256) → ∀ i j, i < n → j < n → mulF n (el (grid n n oneAt)) f i j = f i j := fun f hf i j hi hj => by
    unfold mulF
    rw [sg_congr (g := fun t => gm (oneAt i t) (f t j)) fun t ht => by rw [el_grid hi ht]]
    exact sg_one (x := fun t => f t j) (fun t => hf t j) hi
  have g0 : GL n (el M) (M, grid n n oneAt) := by
    refine ⟨h, h1, h.lt, h.lt, h1.lt, fun i j hi hj => e1 _ h.lt i j hi hj, ⟨el (grid n n oneAt), h1.lt, fun i j hi hj => e1 _ h.lt i j hi hj, fun i j hi hj => ?_⟩, Iff.rfl⟩
    rw [e1 _ h1.lt i j hi hj, el_grid hi hj]
  rcases gauss_ok n 0 _ (by omega) g0 (fun j hj => by omega) with ⟨a, b⟩ | ⟨T, a, b, c⟩
  · exact .inl ⟨a, b⟩
  · refine .inr ⟨T, a, fun z => ?_, b.s2, ?_, ?_⟩
    · have := b.gi.dz.2 z
      rw [detF_one fun i j hi hj => c j hj i hi] at this
      omega
    · refine (mulM_rect b.s2.rect h.rect hn).ext h1.rect fun i j hi hj => ?_
      rw [el_mulM b.s2.rect h.rect hn hi hj, b.gi.left i j hi hj, c j hj i hi, el_grid hi hj]
    · obtain ⟨P, p1, p2, p3⟩ := b.gi.right
      have pm : ∀ i t, i < n → t < n → P i t = el M i t := fun i t hi ht => by
        rw [← p2 i t hi ht]
        symm
        have : mulF n P (el T.1) i t = mulF n P oneAt i t := mulF_congr (fun _ _ => rfl) fun s hs => c t ht s hs
        rw [this]
        exact sg_one' (x := fun s => P i s) (fun s => p1 i s) ht
      refine (mulM_rect h.rect b.s2.rect hn).ext h1.rect fun i j hi hj => ?_
      rw [el_mulM h.rect b.s2.rect hn hi hj, el_grid hi hj, ← p3 i j hi hj]
      exact mulF_congr (fun t ht => (pm i t hi ht).symm) fun _ _ => rfl
/-- Where a matrix has something on its left that makes the one, it makes something of whatever is something. -/
theorem no_ker {n : Nat} {M N : List (List Nat)} (h : Square n M) (hN : Square n N) (hn : 0 < n) (e : mulM N M = grid n n oneAt) : ¬ Ker n (el M) := by
  rintro ⟨v, c, hv, hc, vc, hz⟩
  have h1 : mulF n (mulF n (el N) (el M)) (fun t _ => v t) c 0 = v c := by
    have : mulF n (mulF n (el N) (el M)) (fun t _ => v t) c 0 = sg (fun t => gm (oneAt c t) (v t)) n := sg_congr fun t ht => by
      rw [← el_mulM hN.rect h.rect hn hc ht, e, el_grid hc ht]
    rw [this]; exact sg_one hv hc
  rw [mulF_assoc _ _ _ _ _ hN.lt h.lt (fun t _ => hv t)] at h1
  have h2 : mulF n (el N) (mulF n (el M) (fun t _ => v t)) c 0 = 0 := by
    show sg (fun s => gm (el N c s) (sg (fun t => gm (el M s t) (v t)) n)) n = 0
    rw [sg_congr (g := fun _ => 0) fun s hs => by rw [hz s hs, gm_zero]]
    exact sg_zero n
  rw [h2, vc] at h1
  omega
end Go.Proofs.Ythblmkailhdhlaa.Mat
/- What ref02's Mul (as printed) comes to. -/
namespace Go.Proofs.Ythblmkailhdhlaa.Mat
set_option linter.unusedVariables false
open Go.RowKit Go.Proofs.Ythblmkailhdhlaa.F Go.Proofs.Ythblmkailhdhlaa.R Go.Proofs.Ythblmkailhdhlaa.G Go.Proofs.Ythblmkailhdhlaa.P Go.Proofs.Ythblmkailhdhlaa.Given Go.Proofs.Ythblmkailhdhlaa.Gf Go.Proofs.YthblmkailhdhlaaW.PrintWords
theorem mints_getD (M : List (List Nat)) (i : Nat) : (mints M).getD i [] = ints (M.getD i []) := by
  unfold mints
  rw [List.getD_eq_getElem?_getD, List.getD_eq_getElem?_getD, List.getElem?_map]
  cases M[i]? <;> rfl
theorem ints_getD (l : List Nat) (j : Nat) : (ints l).getD j 0 = ((l.getD j 0 : Nat) : Int) := by
  unfold ints
  rw [List.getD_eq_getElem?_getD, List.getD_eq_getElem?_getD, List.getElem?_map]
  cases l[j]? <;> rfl
theorem mints_at (M : List (List Nat)) (i j : Nat) : ((mints M).getD i []).getD j 0 = ((el M i j : Nat) : Int) := by rw [mints_getD, ints_getD]; rfl
theorem mayP_rect {l : List (List Int)} (h : mayP l) (hk : okM l) : Rect l.length (l.getD 0 []).length (mnats l) := by
  refine ⟨mnats_len l, fun r hr => ?_⟩
  obtain ⟨r', hr', rfl⟩ := List.mem_map.1 hr
  refine ⟨?_, mnats_bytes hk _ hr⟩
  unfold nats
  rw [List.length_map, h.2.2.2.2 r' hr']
end Go.Proofs.Ythblmkailhdhlaa.Mat
/- Products of matrices, as lists of numbers. -/
namespace Go.Proofs.Ythblmkailhdhlaa.Mat
set_option linter.unusedVariables false
open Go.RowKit Go.Proofs.Ythblmkailhdhlaa.F Go.Proofs.Ythblmkailhdhlaa.R Go.Proofs.Ythblmkailhdhlaa.G Go.Proofs.Ythblmkailhdhlaa.P Go.Proofs.Ythblmkailhdhlaa.Given Go.Proofs.Ythblmkailhdhlaa.Gf Go.Proofs.YthblmkailhdhlaaW.PrintWords
theorem okM_mints {M : List (List Nat)} (h : Bytes M) : okM (mints M) := by
  intro r hr x hx
  obtain ⟨l, hl, rfl⟩ := List.mem_map.1 hr
  obtain ⟨y, hy, rfl⟩ := List.mem_map.1 hx
  have := h l hl y hy
  omega
theorem nats_ints (l : List Nat) : nats (ints l) = l := by
  unfold nats ints
  rw [List.map_map]
  conv => rhs; rw [← List.map_id l]
  exact List.map_congr_left fun x _ => Int.toNat_natCast x
theorem mnats_mints (M : List (List Nat)) : mnats (mints M) = M := by
  unfold mnats mints
  rw [List.map_map]
  conv => rhs; rw [← List.map_id M]
  exact List.map_congr_left fun l _ => nats_ints l
theorem rect_mayN {n c : Nat} {M : List (List Nat)} (h : Rect n c M) (hn : 1 ≤ n ∧ n ≤ 64) (hc : 1 ≤ c ∧ c ≤ 4096) : mayN M := by
  have hh := h.head (by omega)
  refine ⟨by rw [h.1]; omega, by rw [h.1]; omega, by omega, by omega, fun r hr => by rw [hh]; exact (h.2 r hr).1⟩
theorem rect_may {n c : Nat} {M : List (List Nat)} (h : Rect n c M) (hn : 1 ≤ n ∧ n ≤ 64) (hc : 1 ≤ c ∧ c ≤ 4096) : mayP (mints M) := (mayN_iff M).2 (rect_mayN h hn hc)
theorem mul_rect {n m c : Nat} {A B : List (List Nat)} (hA : Rect n m A) (hB : Rect m c B) (hn : 1 ≤ n ∧ n ≤ 64) (hm : 1 ≤ m ∧ m ≤ 64) (hc : 1 ≤ c ∧ c ≤ 4096) :
    mat_Mul.f (mints A) (mints B) = some (mints (mulM A B), 0) := by
  unfold mat_Mul.f
  rw [if_pos ⟨okM_mints hA.bytes, okM_mints hB.bytes⟩, if_pos ⟨rect_may hA hn (by omega), rect_may hB hm hc, by rw [mints_head, ints_len, hA.head (by omega), mints_len, hB.1]⟩, mnats_mints, mnats_mints]
theorem one_f {n : Nat} (hn : 1 ≤ n ∧ n ≤ 64) : mat_One.f (n : Int) = some (mints (grid n n oneAt), 0) := by
  unfold mat_One.f
  rw [if_pos (by omega), Int.toNat_natCast]
end Go.Proofs.Ythblmkailhdhlaa.Mat
/- Cauchy: of the one's rows and Cauchy's behind them, as many as there are columns make nothing of nothing but nothing. -/
namespace Go.Proofs.Ythblmkailhdhlaa.Mat
set_option linter.unusedVariables false
open Go.Proofs.Ythblmkailhdhlaa.F Go.Proofs.Ythblmkailhdhlaa.Gf
def cnt (p : Nat → Bool) : Nat → Nat
  | 0 => 0
  | n + 1 => cnt p n + (if p n then 1 else 0)
theorem cnt_le (p : Nat → Bool) : ∀ n, cnt p n ≤ n
  | 0 => Nat.le_refl _
  | n + 1 => by
    have := cnt_le p n
    show cnt p n + _ ≤ n + 1
    split <;> omega
theorem cnt_congr {p q : Nat → Bool} : ∀ {n : Nat}, (∀ t, t < n → p t = q t) → cnt p n = cnt q n
  | 0, _ => rfl
  | n + 1, h => by
    show cnt p n + _ = cnt q n + _
    rw [cnt_congr fun t ht => h t (by omega), h n (by omega)]
theorem cnt_put {p q : Nat → Bool} {k : Nat} (hp : p k = false) (hq : q k = true) : ∀ {n : Nat}, k < n → (∀ t, t < n → t ≠ k → q t = p t) → cnt q n = cnt p n + 1
  | n + 1, hk, h => by
    show cnt q n + _ = cnt p n + _ + 1
    by_cases e : k = n
    · subst e
      rw [cnt_congr (p := q) (q := p) fun t ht => h t (by omega) (by omega), hp, hq]
      simp
    · rw [cnt_put hp hq (by omega) fun t ht hne => h t (by omega) hne, h n (by omega) (by omega)]
      omega
theorem cnt_pos {p : Nat → Bool} {k : Nat} (hp : p k = true) : ∀ {n : Nat}, k < n → 0 < cnt p n
  | n + 1, hk => by
    show 0 < cnt p n + _
    by_cases e : k = n
    · subst e; rw [hp]; simp
    · have := cnt_pos hp (show k < n by omega); omega
/-- As many as are told of are none. -/
theorem cnt_none {c : Nat} : ∀ (U : List Nat) (p : Nat → Bool), U.Nodup → (∀ u ∈ U, u < c ∧ p u = false) → cnt p c + U.length ≤ c
  | [], p, _, _ => cnt_le p c
  | u :: U, p, hn, h => by
    have hu := h u List.mem_cons_self
    rw [List.nodup_cons] at hn
    let q : Nat → Bool := fun t => p t || t == u
    have hq : q u = true := by simp [q]
    have h1 : cnt q c = cnt p c + 1 := cnt_put hu.2 hq hu.1 fun t _ hne => by simp [q, hne]
    have h2 := cnt_none U q hn.2 fun t ht => by
      have := h t (List.mem_cons_of_mem _ ht)
      refine ⟨this.1, ?_⟩
      have hne : t ≠ u := fun e => hn.1 (e ▸ ht)
      simp [q, this.2, hne]
    rw [h1] at h2
    rw [List.length_cons]
    omega
/-- One through x and t. -/
def qu (x t : Nat) : Nat := gd 1 (x ^^^ t)
theorem xor_ne0 {a b : Nat} (h : a ≠ b) : a ^^^ b ≠ 0 := fun z => h (xor_eq z)
theorem qu_gm {x t : Nat} (hx : x < 256) (ht : t < 256) (hne : x ≠ t) : gm (qu x t) (x ^^^ t) = 1 := gd_gm (by omega) (xor_lt hx ht) (xor_ne0 hne)
theorem qu_lt (x t : Nat) : qu x t < 256 := gd_lt _ _
theorem qu_ne {x t : Nat} (hx : x < 256) (ht : t < 256) (hne : x ≠ t) : qu x t ≠ 0 := fun z => by
  have := qu_gm hx ht hne
  rw [z, zero_gm] at this
  omega
theorem xor_mid (a b c : Nat) : (a ^^^ c) ^^^ (b ^^^ c) = a ^^^ b := by
  rw [xor4, xor_same, xor_zero]
theorem gm_swap (a b c : Nat) : gm a (gm b c) = gm b (gm a c) := by rw [← gm_assoc, gm_comm a b, gm_assoc]
theorem key {x x0 t t0 V : Nat} (hx : x < 256) (hx0 : x0 < 256) (ht : t < 256) (ht0 : t0 < 256) (hV : V < 256) (h1 : x ≠ t) (h2 : x0 ≠ t) :
    gm (x ^^^ t0) (gm (qu x t) V) ^^^ gm (x0 ^^^ t0) (gm (qu x0 t) V) = gm (x ^^^ x0) (gm (qu x t) (gm (gm V (t0 ^^^ t)) (qu x0 t))) := by
  have hA := qu_gm hx ht h1
  have hB := qu_gm hx0 ht h2
  have ha : x ^^^ t < 256 := xor_lt hx ht
  have hb : x0 ^^^ t < 256 := xor_lt hx0 ht
  have hd : t0 ^^^ t < 256 := xor_lt ht0 ht
  have e1 : x ^^^ t0 = (x ^^^ t) ^^^ (t0 ^^^ t) := (xor_mid x t0 t).symm
  have e2 : x0 ^^^ t0 = (x0 ^^^ t) ^^^ (t0 ^^^ t) := (xor_mid x0 t0 t).symm
  have e3 : x ^^^ x0 = (x ^^^ t) ^^^ (x0 ^^^ t) := (xor_mid x x0 t).symm
  have lA := qu_lt x t
  have lB := qu_lt x0 t
  rw [e1, e2, e3]
  generalize qu x t = A at *
  generalize qu x0 t = B at *
  generalize x ^^^ t = a at *
  generalize x0 ^^^ t = b at *
  generalize t0 ^^^ t = d at *
  have l1 : gm (a ^^^ d) (gm A V) = V ^^^ gm d (gm A V) := by
    rw [xor_gm (gm_lt _ _) ha hd, ← gm_assoc, gm_comm a A, hA, one_gm hV]
  have l2 : gm (b ^^^ d) (gm B V) = V ^^^ gm d (gm B V) := by
    rw [xor_gm (gm_lt _ _) hb hd, ← gm_assoc, gm_comm b B, hB, one_gm hV]
  rw [l1, l2, xor4, xor_same, zero_xor, xor_gm (gm_lt _ _) ha hb, ← gm_assoc (a := a), gm_comm a A, hA, one_gm (gm_lt _ _)]
  have r2 : gm b (gm A (gm (gm V d) B)) = gm A (gm V d) := by
    rw [gm_swap b A, gm_comm (gm V d) B, ← gm_assoc (a := b), gm_comm b B, hB, one_gm (gm_lt _ _)]
  rw [r2, Nat.xor_comm]
  rw [gm_comm V d, gm_assoc, gm_comm V B, gm_swap d A V]
theorem cau_supp {c : Nat} (hc : c ≤ 256) : ∀ (X : List Nat) (v : Nat → Nat), X.Nodup → (∀ x ∈ X, c ≤ x ∧ x < 256) → (∀ t, v t < 256) → (∃ t, t < c ∧ v t ≠ 0) → (∀ x ∈ X, sg (fun t => gm (qu x t) (v t)) c = 0) →
    X.length < cnt (fun t => v t != 0) c
  | [], v, _, _, _, ⟨t, ht, h0⟩, _ => cnt_pos (p := fun t => v t != 0) (k := t) (bne_iff_ne.2 h0) ht
  | x0 :: X, v, hn, hX, hv, ⟨t0, ht0, h0⟩, hz => by
    rw [List.nodup_cons] at hn
    obtain ⟨hx0c, hx0⟩ := hX x0 List.mem_cons_self
    let w : Nat → Nat := fun t => gm (gm (v t) (t0 ^^^ t)) (qu x0 t)
    have hw : ∀ t, w t < 256 := fun t => gm_lt _ _
    have w0 : w t0 = 0 := by show gm (gm (v t0) (t0 ^^^ t0)) (qu x0 t0) = 0; rw [xor_same, gm_zero, zero_gm]
    have wne : ∀ t, t < c → t ≠ t0 → (w t ≠ 0 ↔ v t ≠ 0) := fun t ht hne => by
      constructor
      · intro h z; exact h (by show gm (gm (v t) _) _ = 0; rw [z, zero_gm, zero_gm])
      · intro h; exact gm_ne (gm_ne h (xor_ne0 (Ne.symm hne))) (qu_ne hx0 (by omega) (by omega))
    have hc1 : cnt (fun t => v t != 0) c = cnt (fun t => w t != 0) c + 1 := cnt_put (p := fun t => w t != 0) (q := fun t => v t != 0) (k := t0) (by simp [w0]) (by simp [h0]) ht0 fun t ht hne => by
      have := wne t ht hne
      by_cases z : v t = 0
      · have : w t = 0 := by
          by_cases y : w t = 0
          · exact y
          · exact absurd z (this.1 y)
        show (v t != 0) = (w t != 0)
        rw [z, this]
      · have := this.2 z
        show (v t != 0) = (w t != 0)
        rw [bne_iff_ne.2 z, bne_iff_ne.2 this]
    have hsome : ∃ t, t < c ∧ w t ≠ 0 := by
      by_cases e : ∃ t, t < c ∧ w t ≠ 0
      · exact e
      · exfalso
        have hall : ∀ t, t < c → t ≠ t0 → v t = 0 := fun t ht hne => by
          by_cases z : v t = 0
          · exact z
          · exact absurd ⟨t, ht, (wne t ht hne).2 z⟩ e
        have := hz x0 List.mem_cons_self
        rw [sg_only ht0 fun t ht hne => by show gm (qu x0 t) (v t) = 0; rw [hall t ht hne, gm_zero]] at this
        exact gm_ne (qu_ne hx0 (by omega) (by omega)) h0 this
    have hzw : ∀ x ∈ X, sg (fun t => gm (qu x t) (w t)) c = 0 := by
      intro x hx
      obtain ⟨hxc, hxl⟩ := hX x (List.mem_cons_of_mem _ hx)
      have hne : x ≠ x0 := fun e => hn.1 (e ▸ hx)
      have e1 : gm (x ^^^ t0) (sg (fun t => gm (qu x t) (v t)) c) ^^^ gm (x0 ^^^ t0) (sg (fun t => gm (qu x0 t) (v t)) c) = gm (x ^^^ x0) (sg (fun t => gm (qu x t) (w t)) c) := by
        rw [sg_gm (xor_lt hxl (by omega)) fun _ _ => gm_lt _ _, sg_gm (xor_lt hx0 (by omega)) fun _ _ => gm_lt _ _, sg_gm (xor_lt hxl hx0) fun _ _ => gm_lt _ _, ← sg_xor]
        exact sg_congr fun t ht => key hxl hx0 (by omega) (by omega) (hv t) (by omega) (by omega)
      rw [hz x (List.mem_cons_of_mem _ hx), hz x0 List.mem_cons_self, gm_zero, gm_zero, xor_zero] at e1
      by_cases z : sg (fun t => gm (qu x t) (w t)) c = 0
      · exact z
      · exact absurd e1.symm (gm_ne (xor_ne0 hne) z)
    have := cau_supp hc X w hn.2 (fun x hx => hX x (List.mem_cons_of_mem _ hx)) hw hsome hzw
    rw [hc1, List.length_cons]
    omega
/-- The rows, by their numbers: the one's, then Cauchy's. -/
def allAt (c : Nat) (k t : Nat) : Nat := if k < c then oneAt k t else cauAt c (k - c) t
theorem allAt_lt (c k t : Nat) : allAt c k t < 256 := by
  unfold allAt; split
  · exact oneAt_lt _ _
  · exact dq_lt _ _
theorem nodup_map_range {K : Nat → Nat} : ∀ n, (∀ i j, i < n → j < n → K i = K j → i = j) → ((List.range n).map K).Nodup
  | 0, _ => by simp
  | n + 1, h => by
    rw [List.range_succ, List.map_append, List.nodup_append]
    refine ⟨nodup_map_range n fun i j hi hj => h i j (by omega) (by omega), by simp, fun a ha b hb => ?_⟩
    obtain ⟨i, hi, rfl⟩ := List.mem_map.1 ha
    obtain rfl : b = K n := by simpa using hb
    intro e
    have := h i n (by have := List.mem_range.1 hi; omega) (by omega) e
    have := List.mem_range.1 hi
    omega
theorem filter_split {α : Type} (p : α → Bool) : ∀ L : List α, L.length = (L.filter p).length + (L.filter (fun k => !p k)).length
  | [] => rfl
  | x :: L => by
    have := filter_split p L
    by_cases h : p x = true
    · rw [List.filter_cons_of_pos h, List.filter_cons_of_neg (by simp [h])]; simp only [List.length_cons]; omega
    · rw [List.filter_cons_of_neg h, List.filter_cons_of_pos (by simp [h])]; simp only [List.length_cons]; omega
theorem rows_no_ker {c more : Nat} (hc : c + more ≤ 256) {K : Nat → Nat} (hK : ∀ i, i < c → K i < c + more) (hi : ∀ i j, i < c → j < c → K i = K j → i = j) :
    ¬ Ker c (fun i t => allAt c (K i) t) := by
  rintro ⟨v, q, hv, hq, vq, hz⟩
  have hnd := nodup_map_range c hi
  have hz' : ∀ k ∈ (List.range c).map K, k < c + more ∧ sg (fun t => gm (allAt c k t) (v t)) c = 0 := by
    intro k hk
    obtain ⟨i, hi, rfl⟩ := List.mem_map.1 hk
    have := List.mem_range.1 hi
    exact ⟨hK i this, hz i this⟩
  have hlen : ((List.range c).map K).length = c := by simp
  generalize (List.range c).map K = L at *
  have hu := cnt_none (c := c) (L.filter (fun k => decide (k < c))) (fun t => v t != 0) (hnd.filter _) (fun u hu => by
    obtain ⟨h1, h2⟩ := List.mem_filter.1 hu
    have h2 := of_decide_eq_true h2
    refine ⟨h2, ?_⟩
    have := (hz' u h1).2
    rw [sg_congr (g := fun t => gm (oneAt u t) (v t)) fun t _ => by unfold allAt; rw [if_pos h2], sg_one hv h2] at this
    simp [this])
  have hx := cau_supp (show c ≤ 256 by omega) (L.filter (fun k => !decide (k < c))) v (hnd.filter _) (fun x hx => by
    obtain ⟨h1, h2⟩ := List.mem_filter.1 hx
    have h2 : ¬ x < c := by simpa using h2
    have := (hz' x h1).1
    omega) hv ⟨q, hq, by omega⟩ (fun x hx => by
    obtain ⟨h1, h2⟩ := List.mem_filter.1 hx
    have h2 : ¬ x < c := by simpa using h2
    have := (hz' x h1).2
    rw [← this]
    refine sg_congr fun t ht => ?_
    unfold allAt
    rw [if_neg h2]
    unfold cauAt dq qu
    rw [show c + (x - c) = x by omega, if_neg (xor_ne0 (by omega))])
  have := filter_split (fun k => decide (k < c)) L
  omega
end Go.Proofs.Ythblmkailhdhlaa.Mat
/- slices.Clone of bytes. -/
namespace Go.Proofs.Ythblmkailhdhlaa.Given
set_option linter.unusedVariables false
open Go.RowKit Go.Proofs.Ythblmkailhdhlaa.F Go.Proofs.Ythblmkailhdhlaa.Mat Go.Proofs.YthblmkailhdhlaaW.PrintWords
def slices_Clone.f (l : List Int) : Option (List Int) := if l.length < 140737488355328 then some l else none
theorem info5c : (Try.prog.info? 5).map (fun i => (i.zero, i.size, i.bytes)) = some (some (.int .u8 0), 1, 1) := by kernel_rfl
set_option maxRecDepth 100000 in
set_option maxHeartbeats 4000000 in
theorem slices_Clone.calls (A0 : Option Addr) (c0 : Nat) (l0 : List Int) (r : List Int) (w : World) (hr0 : (Kd.int .u8).C w A0 l0.length l0) (hc0 : l0.length ≤ c0) (h : slices_Clone.f l0 = some r) :
    Calls Try.prog 75 #[.slice A0 l0.length c0] w fun e w' => ∃ v0_ : Value, e = .returned v0_ ∧ (Kd.int .u8).R 5 w' w.heap.size (fun _ => True) v0_ r ∧ Below w.heap.size w w' := by
  unfold slices_Clone.f at h
  by_cases hl : l0.length < 140737488355328
  · rw [if_pos hl] at h
    injection h with h
    subst h
    have HR := Lib.hid hr0
    clear hr0
    have q43 : ∀ (w : World) (a : Option Addr) (n c n' c' : Nat), (binOp .eql 43 (.slice a n c) (.slice none n' c')).run Try.prog w = .ok (.bool a.isNone) w := fun w a n c n' c' => Lib.run_eql_slice_nil w _ _ a n c n' c' Try.underlying43
    cases A0 with
    | none =>
      have e0 : l0 = [] := by
        by_cases z : 0 < l0.length
        · obtain ⟨ad, e, _⟩ := HR.out.2.2 z; cases e
        · exact List.length_eq_zero_iff.1 (by omega)
      subst e0
      go_enter Try.func75, Try.ntmps75
      go_wp2_with fail
      go_ret
      exact ⟨_, rfl, Kd.R_nil _ _ _ _ _, Below.refl _ _⟩
    | some ad =>
      have hempty : ∀ w1 : World, (Kd.int .u8).R 5 (w1.alloc (.cells #[] 5)) w1.heap.size (fun _ => True) (.slice (some ⟨w1.heap.size, 0, none⟩) 0 0) [] := fun w1 => by
        have hr : RowIs (w1.alloc (.cells #[] 5)) w1.heap.size [] := by
          show (Array.push _ _)[_]? = _
          rw [Array.getElem?_push, if_pos rfl]; rfl
        exact row_kd hr (Nat.le_refl _) (by simp) trivial
      have HE := Lib.hid hempty
      clear hempty
      go_enter Try.func75, Try.ntmps75
      go_wp2_with (at_builtin; refine Kd.R_append_rows (Kd.int .u8) (w0 := w) w.heap.size rfl (.tmp 5) (.tmp 6) 43 5 (.int .u8 0) 1 rfl Try.underlying43 info5c rfl (by decide) (by omega) (.slice (some ⟨w.heap.size, 0, none⟩) 0 0) ([] : List Int) l0 _ _ _ (fun _ => True) (fun _ => False) rfl rfl ?aO ?aR (fun _ _ h => h) (fun _ h => h.elim) ?aF ?aB ?aS ?aL ?_)
      case aO => exact HE.out w
      case aR => exact Kd.C_below HR.out ((Below.refl _ w).alloc (Nat.le_refl _) _)
      case aF => exact fun _ _ => trivial
      case aB => exact (Below.refl _ w).alloc (Nat.le_refl _) _
      case aS => rw [sz_alloc]; omega
      case aL => simp only [List.length_nil]; omega
      intro v1 w1 ho hb hg hat
      go_wp2_with fail
      go_ret
      exact ⟨_, rfl, ho, hb⟩
  · rw [if_neg hl] at h; cases h
end Go.Proofs.Ythblmkailhdhlaa.Given
