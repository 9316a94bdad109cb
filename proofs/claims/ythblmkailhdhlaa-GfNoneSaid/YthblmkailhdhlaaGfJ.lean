/- The law GfNone of chapter 1 (gf), walked. -/
import Derived.Test.YthblmkailhdhlaaGfD
namespace Go.Proofs.Ythblmkailhdhlaa.Gf
set_option linter.unusedVariables false
open Go.RowKit Go.Proofs.Ythblmkailhdhlaa.F

section
variable (w : World) (p : Option Addr) (hp : FieldAt w p)
include hp
theorem mul_m (a b : Nat) (ha : a < 256) (hb : b < 256) : Calls Try.prog 32 #[.pointer p, .int .u8 a, .int .u8 b] w fun e w' => e = .returned (.int .u8 (gm a b : Nat)) ∧ Below w.heap.size w w' :=
  mul_any w p hp a b (by omega) (by omega) (by omega) (by omega)
theorem div_m (a b : Nat) (ha : a < 256) (hb : b < 256) : Calls Try.prog 25 #[.pointer p, .int .u8 a, .int .u8 b] w fun e w' => e = .returned (.tuple #[.int .u8 (dq a b).1, .int .i64 (dq a b).2]) ∧ Below w.heap.size w w' :=
  div_any w p hp a b (by omega) (by omega) (by omega) (by omega)
theorem log_m (a : Nat) (ha : a < 256) : Calls Try.prog 28 #[.pointer p, .int .u8 a] w fun e w' => e = .returned (.tuple #[.int .i64 (lq a).1, .int .i64 (lq a).2]) ∧ Below w.heap.size w w' :=
  log_any w p hp a (by omega) (by omega)
end
theorem drew_below {w w' : World} (h : ∃ n, w' = w.drewN n) : Below w.heap.size w w' := by
  obtain ⟨n, rfl⟩ := h
  exact below_drewN' n (Below.refl _ _)
theorem zero_at (w : World) : FieldAt (w.alloc (.cells Try.zeroCells39 39)) (some ⟨w.heap.size, 0, none⟩) := by
  refine .inr (.inr ⟨w.heap.size, rfl, ?_⟩)
  show (w.heap.push _)[_]? = _
  simp

set_option maxRecDepth 100000 in
set_option maxHeartbeats 8000000 in
theorem GfNone_walk (a0 a1 a2 : Int) (w0 : (Lit.int .u8 a0).wf = true) (w1 : (Lit.int .u8 a1).wf = true) (w2 : (Lit.int .i64 a2).wf = true) (w : World) :
    Calls Try.prog 7 #[.int .u8 a0, .int .u8 a1, .int .i64 a2] w fun e w' => e = .returned (.bool true) ∧ Below w.heap.size w w' := by
  obtain ⟨a, rfl, ha⟩ := bytes w0
  obtain ⟨b, rfl, hb⟩ := bytes w1
  obtain ⟨m, hm⟩ : ∃ m : Nat, m = gm a b := ⟨_, rfl⟩
  obtain ⟨x, hx⟩ : ∃ x : Nat, x = pw (rest a2) := ⟨_, rfl⟩
  obtain ⟨d, hd⟩ : ∃ d : Nat × Nat, d = dq a b := ⟨_, rfl⟩
  obtain ⟨l, hl⟩ : ∃ l : Nat × Nat, l = lq a := ⟨_, rfl⟩
  obtain ⟨d1, d2⟩ := d
  obtain ⟨l1, l2⟩ := l
  have HM : Hid (Value.int .u8 ((gm a b : Nat) : Int) = .int .u8 (m : Int)) := by show _ = _; rw [hm]
  have HX : Hid (Value.int .u8 ((pw (rest a2) : Nat) : Int) = .int .u8 (x : Int)) := by show _ = _; rw [hx]
  have HD : Hid ((Value.tuple #[.int .u8 (dq a b).1, .int .i64 (dq a b).2]) = .tuple #[.int .u8 (d1 : Int), .int .i64 (d2 : Int)]) := by show _ = _; rw [← hd]
  have HL : Hid ((Value.tuple #[.int .i64 (lq a).1, .int .i64 (lq a).2]) = .tuple #[.int .i64 (l1 : Int), .int .i64 (l2 : Int)]) := by show _ = _; rw [← hl]
  clear w0 w1 w2 hm hx hd hl
  go_enter Try.func7, Try.ntmps7
  go_wp2_with fail
  refine (awake_calls _).mono ?_
  rintro e w1 ⟨rfl, hb1⟩
  have HB1 := Lib.hid ((hb1.alloc hb1.size (.cells Try.zeroCells39 39)))
  have HF1' := Lib.hid (zero_at w1)
  clear hb1
  go_wp2_with fail
  refine (turned (div_m _ none (.inl rfl) a b ha hb) HD.out).mono ?_
  rintro e w2 ⟨rfl, hb2⟩
  have HB2 := Lib.hid (HB1.out.trans (hb2.mono HB1.out.size))
  have HF2' := Lib.hid (HF1'.out.below hb2)
  clear hb2 HB1 HF1'
  go_wp2_with fail
  refine (turned (div_m _ (some ⟨w1.heap.size, 0, none⟩) (by exact HF2'.out) a b ha hb) HD.out).mono ?_
  rintro e w3 ⟨rfl, hb3⟩
  have HB3 := Lib.hid (HB2.out.trans (hb3.mono HB2.out.size))
  have HF3' := Lib.hid (HF2'.out.below hb3)
  clear hb3 HB2 HF2'
  go_wp2_with fail
  refine (turned (log_m _ none (.inl rfl) a ha) HL.out).mono ?_
  rintro e w4 ⟨rfl, hb4⟩
  have HB4 := Lib.hid (HB3.out.trans (hb4.mono HB3.out.size))
  have HF4' := Lib.hid (HF3'.out.below hb4)
  clear hb4 HB3 HF3'
  go_wp2_with fail
  refine (turned (log_m _ (some ⟨w1.heap.size, 0, none⟩) (by exact HF4'.out) a ha) HL.out).mono ?_
  rintro e w5 ⟨rfl, hb5⟩
  have HB5 := Lib.hid (HB4.out.trans (hb5.mono HB4.out.size))
  have HF5' := Lib.hid (HF4'.out.below hb5)
  clear hb5 HB4 HF4'
  go_wp2_with fail
  refine (turned ((refmul_n _ a b ha hb).mono fun e w' h => ⟨h.1, drew_below h.2⟩) HM.out).mono ?_
  rintro e w6 ⟨rfl, hb6⟩
  have HB6 := Lib.hid (HB5.out.trans (hb6.mono HB5.out.size))
  have HF6' := Lib.hid (HF5'.out.below hb6)
  clear hb6 HB5 HF5'
  go_wp2_with fail
  refine (turned ((refexp_n _ a2).mono fun e w' h => ⟨h.1, drew_below h.2⟩) HX.out).mono ?_
  rintro e w7 ⟨rfl, hb7⟩
  have HB7 := Lib.hid (HB6.out.trans (hb7.mono HB6.out.size))
  have HF7' := Lib.hid (HF6'.out.below hb7)
  clear hb7 HB6 HF6'
  go_wp2_with fail
  refine (turned (mul_m _ none (.inl rfl) a b ha hb) HM.out).mono ?_
  rintro e w8 ⟨rfl, hb8⟩
  have HB8 := Lib.hid (HB7.out.trans (hb8.mono HB7.out.size))
  have HF8' := Lib.hid (HF7'.out.below hb8)
  clear hb8 HB7 HF7'
  go_wp2_with fail
  refine (turned (mul_m _ (some ⟨w1.heap.size, 0, none⟩) (by exact HF8'.out) a b ha hb) HM.out).mono ?_
  rintro e w9 ⟨rfl, hb9⟩
  have HB9 := Lib.hid (HB8.out.trans (hb9.mono HB8.out.size))
  have HF9' := Lib.hid (HF8'.out.below hb9)
  clear hb9 HB8 HF8'
  go_wp2_with fail
  refine (turned (exp_any _ none (.inl rfl) a2) HX.out).mono ?_
  rintro e w10 ⟨rfl, hb10⟩
  have HB10 := Lib.hid (HB9.out.trans (hb10.mono HB9.out.size))
  have HF10' := Lib.hid (HF9'.out.below hb10)
  clear hb10 HB9 HF9'
  go_wp2_with fail
  refine (turned (exp_any _ (some ⟨w1.heap.size, 0, none⟩) (by exact HF10'.out) a2) HX.out).mono ?_
  rintro e w11 ⟨rfl, hb11⟩
  have HB11 := Lib.hid (HB10.out.trans (hb11.mono HB10.out.size))
  have HF11' := Lib.hid (HF10'.out.below hb11)
  clear hb11 HB10 HF10'
  go_wp2_with fail
  go_ret
  exact ⟨rfl, HB11.out⟩
end Go.Proofs.Ythblmkailhdhlaa.Gf
