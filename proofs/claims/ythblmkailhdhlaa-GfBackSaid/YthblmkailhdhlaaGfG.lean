/- The law GfBack of chapter 1 (gf), walked. -/
import Derived.Test.YthblmkailhdhlaaGfD
namespace Go.Proofs.Ythblmkailhdhlaa.Gf
set_option linter.unusedVariables false
open Go.RowKit Go.Proofs.Ythblmkailhdhlaa.F

set_option maxRecDepth 100000 in
set_option maxHeartbeats 4000000 in
theorem GfBack_zero (a b : Nat) (ha : a < 256) (hb : b < 256) (hz : b = 0) (w : World) :
    Calls Try.prog 5 #[.int .u8 a, .int .u8 b] w fun e w' => e = .returned (.bool true) ∧ Below w.heap.size w w' := by
  have hy : ((b : Int) == 0) = true := by subst hz; rfl
  have HM : Hid (Value.int .u8 ((gm a b : Nat) : Int) = .int .u8 0) := by
    show _ = _
    rw [hz, gm_zero]; rfl
  have HD : Hid ((Value.tuple #[.int .u8 (dq 0 b).1, .int .i64 (dq 0 b).2]) = .tuple #[.int .u8 0, .int .i64 8]) := by
    show _ = _
    unfold dq; rw [if_pos hz]; rfl
  clear hz
  go_enter Try.func5, Try.ntmps5
  go_wp2_with fail
  refine (awake_calls _).mono ?_
  rintro e w1 ⟨rfl, hb1⟩
  have HB1 := Lib.hid hb1
  clear hb1
  go_wp2_with fail
  refine (new_calls _).mono ?_
  rintro e w2 ⟨rfl, ht, hb2⟩
  have HT := Lib.hid ht
  have HB2 := Lib.hid (HB1.out.trans (hb2.mono HB1.out.size))
  clear ht hb2
  go_wp2_with fail
  refine (turned (mul_n _ w1.heap.size (by exact HT.out) a b ha hb) HM.out).mono ?_
  rintro e w3 ⟨rfl, n_, rfl⟩
  go_wp2_with fail
  refine (turned (div_n _ w1.heap.size (by exact HT.out) 0 b (by omega) hb) HD.out).mono ?_
  rintro e w3 ⟨rfl, n_, rfl⟩
  go_wp2_with fail
  go_ret
  exact ⟨rfl, by repeat (first | exact HB2.out | apply below_drewN')⟩

theorem gd_eq {a b : Nat} (ha : a < 256) (hb : b < 256) (hb0 : b ≠ 0) : gm a (gd 1 b) = gd a b := by
  refine gm_cancel (gm_lt _ _) (gd_lt _ _) hb hb0 ?_
  rw [gm_assoc, gd_gm (by decide) hb hb0, gm_one ha, gd_gm ha hb hb0]

set_option maxRecDepth 100000 in
set_option maxHeartbeats 4000000 in
theorem GfBack_some (a b : Nat) (ha : a < 256) (hb : b < 256) (hz : b ≠ 0) (w : World) :
    Calls Try.prog 5 #[.int .u8 a, .int .u8 b] w fun e w' => e = .returned (.bool true) ∧ Below w.heap.size w w' := by
  have hy : ((b : Int) == 0) = false := by simp; exact hz
  obtain ⟨p, hp⟩ : ∃ p : Nat, p = gm a b := ⟨_, rfl⟩
  obtain ⟨d, hd⟩ : ∃ d : Nat, d = gd a b := ⟨_, rfl⟩
  obtain ⟨i, hi⟩ : ∃ i : Nat, i = gd 1 b := ⟨_, rfl⟩
  have hpl : p < 256 := hp ▸ gm_lt _ _
  have hdl : d < 256 := hd ▸ gd_lt _ _
  have hil : i < 256 := hi ▸ gd_lt _ _
  have HM : Hid (Value.int .u8 ((gm a b : Nat) : Int) = .int .u8 (p : Int)) := by show _ = _; rw [hp]
  have HD : Hid ((Value.tuple #[.int .u8 (dq p b).1, .int .i64 (dq p b).2]) = .tuple #[.int .u8 (a : Int), .int .i64 0]) := by
    show _ = _
    unfold dq; rw [if_neg hz, hp, gm_gd ha hb hz]; rfl
  have HD2 : Hid ((Value.tuple #[.int .u8 (dq a b).1, .int .i64 (dq a b).2]) = .tuple #[.int .u8 (d : Int), .int .i64 0]) := by
    show _ = _
    unfold dq; rw [if_neg hz, hd]; rfl
  have HI : Hid ((Value.tuple #[.int .u8 (dq 1 b).1, .int .i64 (dq 1 b).2]) = .tuple #[.int .u8 (i : Int), .int .i64 0]) := by
    show _ = _
    unfold dq; rw [if_neg hz, hi]; rfl
  have HM2 : Hid (Value.int .u8 ((gm d b : Nat) : Int) = .int .u8 (a : Int)) := by show _ = _; rw [hd, gd_gm ha hb hz]
  have HM3 : Hid (Value.int .u8 ((gm i b : Nat) : Int) = .int .u8 1) := by show _ = _; rw [hi, gd_gm (by decide) hb hz]; rfl
  have HM4 : Hid (Value.int .u8 ((gm a i : Nat) : Int) = .int .u8 (d : Int)) := by show _ = _; rw [hi, hd, gd_eq ha hb hz]
  have hpa : p ≠ 0 ∨ a = 0 := by
    by_cases h : a = 0
    · exact .inr h
    · exact .inl (hp ▸ gm_ne h hz)
  clear hp hd hi
  have hq : ((p : Int) != 0) = true ∨ (((p : Int) != 0) = false ∧ ((a : Int) == 0) = true) := by
    by_cases h : p = 0
    · subst h
      rcases hpa with h | rfl
      · exact absurd rfl h
      · exact .inr ⟨rfl, rfl⟩
    · left; simp; exact h
  clear hpa hz
  rcases hq with hq | ⟨hq, hr⟩
  all_goals
    go_enter Try.func5, Try.ntmps5
    go_wp2_with fail
    refine (awake_calls _).mono ?_
    rintro e w1 ⟨rfl, hb1⟩
    have HB1 := Lib.hid hb1
    clear hb1
    go_wp2_with fail
    refine (new_calls _).mono ?_
    rintro e w2 ⟨rfl, ht, hb2⟩
    have HT := Lib.hid ht
    have HB2 := Lib.hid (HB1.out.trans (hb2.mono HB1.out.size))
    clear ht hb2
    go_wp2_with fail
    refine (turned (mul_n _ w1.heap.size (by exact HT.out) a b ha hb) HM.out).mono ?_
    rintro e w3 ⟨rfl, n_, rfl⟩
    go_wp2_with fail
    refine (turned (div_n _ w1.heap.size (by exact HT.out) p b hpl hb) HD.out).mono ?_
    rintro e w3 ⟨rfl, n_, rfl⟩
    go_wp2_with fail
    refine (turned (div_n _ w1.heap.size (by exact HT.out) a b ha hb) HD2.out).mono ?_
    rintro e w3 ⟨rfl, n_, rfl⟩
    go_wp2_with fail
    refine (turned (inv_n _ w1.heap.size (by exact HT.out) b hb) HI.out).mono ?_
    rintro e w3 ⟨rfl, n_, rfl⟩
    go_wp2_with fail
    refine (turned (mul_n _ w1.heap.size (by exact HT.out) d b hdl hb) HM2.out).mono ?_
    rintro e w3 ⟨rfl, n_, rfl⟩
    go_wp2_with fail
    refine (turned (mul_n _ w1.heap.size (by exact HT.out) i b hil hb) HM3.out).mono ?_
    rintro e w3 ⟨rfl, n_, rfl⟩
    go_wp2_with fail
    refine (turned (mul_n _ w1.heap.size (by exact HT.out) a i ha hil) HM4.out).mono ?_
    rintro e w3 ⟨rfl, n_, rfl⟩
    go_wp2_with fail
    go_ret
    exact ⟨rfl, by repeat (first | exact HB2.out | apply below_drewN')⟩

theorem GfBack_walk (a0 a1 : Int) (w0 : (Lit.int .u8 a0).wf = true) (w1 : (Lit.int .u8 a1).wf = true) (w : World) :
    Calls Try.prog 5 #[.int .u8 a0, .int .u8 a1] w fun e w' => e = .returned (.bool true) ∧ Below w.heap.size w w' := by
  obtain ⟨a, rfl, ha⟩ := bytes w0
  obtain ⟨b, rfl, hb⟩ := bytes w1
  by_cases h : b = 0
  · exact GfBack_zero a b ha hb h w
  · exact GfBack_some a b ha hb h w
end Go.Proofs.Ythblmkailhdhlaa.Gf
