/- The contracts of gf and of its reference over natural numbers, as the laws use them. -/
import Derived.Test.YthblmkailhdhlaaGfC
import Derived.Test.YthblmkailhdhlaaR
namespace Go.Proofs.Ythblmkailhdhlaa.Gf
set_option linter.unusedVariables false
open Go.RowKit Go.Proofs.Ythblmkailhdhlaa.F Go.Proofs.Ythblmkailhdhlaa.R Go.Proofs.Ythblmkailhdhlaa.G Go.Proofs.YthblmkailhdhlaaW.PrintWords

/-- A contract with another post. -/
theorem turned {P : Program} {f : Nat} {xs : Array Value} {w : World} {v v' : Value} {R : World → Prop} (h : Calls P f xs w fun e w' => e = .returned v ∧ R w') (hv : v = v') :
    Calls P f xs w fun e w' => e = .returned v' ∧ R w' := hv ▸ h

section
variable (w : World) (c : Nat) (hc : Tab w c)
include hc
theorem mul_n (a b : Nat) (ha : a < 256) (hb : b < 256) : Calls Try.prog 32 #[.pointer (some ⟨c, 0, none⟩), .int .u8 a, .int .u8 b] w fun e w' => e = .returned (.int .u8 (gm a b : Nat)) ∧ ∃ n, w' = w.drewN n :=
  mul_tab w c hc a b (by omega) (by omega) (by omega) (by omega)
theorem div_n (a b : Nat) (ha : a < 256) (hb : b < 256) : Calls Try.prog 25 #[.pointer (some ⟨c, 0, none⟩), .int .u8 a, .int .u8 b] w fun e w' => e = .returned (.tuple #[.int .u8 (dq a b).1, .int .i64 (dq a b).2]) ∧ ∃ n, w' = w.drewN n :=
  div_tab w c hc a b (by omega) (by omega) (by omega) (by omega)
theorem inv_n (a : Nat) (ha : a < 256) : Calls Try.prog 27 #[.pointer (some ⟨c, 0, none⟩), .int .u8 a] w fun e w' => e = .returned (.tuple #[.int .u8 (dq 1 a).1, .int .i64 (dq 1 a).2]) ∧ ∃ n, w' = w.drewN n :=
  inv_tab w c hc a (by omega) (by omega)
theorem log_n (a : Nat) (ha : a < 256) : Calls Try.prog 28 #[.pointer (some ⟨c, 0, none⟩), .int .u8 a] w fun e w' => e = .returned (.tuple #[.int .i64 (lq a).1, .int .i64 (lq a).2]) ∧ ∃ n, w' = w.drewN n :=
  log_tab w c hc a (by omega) (by omega)
end
theorem add_n (w : World) (p : Option Addr) (a b : Nat) (ha : a < 256) (hb : b < 256) : Calls Try.prog 34 #[.pointer p, .int .u8 a, .int .u8 b] w fun e w' => e = .returned (.int .u8 (a ^^^ b : Nat)) ∧ ∃ n, w' = w.drewN n :=
  (add_calls w p a b ha hb).mono fun e w' ⟨he, hw⟩ => ⟨he, 0, hw ▸ rfl⟩

theorem refmul_n (w : World) (a b : Nat) (ha : a < 256) (hb : b < 256) : Calls Try.prog 33 #[.int .u8 a, .int .u8 b] w fun e w' => e = .returned (.int .u8 (gm a b : Nat)) ∧ ∃ n, w' = w.drewN n :=
  (quartermasterref01_Mul.calls 70 a b _ w (mul_f ha hb (by omega))).mono fun e w' ⟨he, hw⟩ => ⟨he, hw.out⟩
theorem refadd_n (w : World) (a b : Nat) (ha : a < 256) (hb : b < 256) : Calls Try.prog 35 #[.int .u8 a, .int .u8 b] w fun e w' => e = .returned (.int .u8 (a ^^^ b : Nat)) ∧ ∃ n, w' = w.drewN n :=
  (quartermasterref01_Add.calls 70 a b _ w (add_f ha hb (by omega))).mono fun e w' ⟨he, hw⟩ => ⟨he, hw.out⟩
theorem refdiv_n (w : World) (a b : Nat) (ha : a < 256) (hb : b < 256) : Calls Try.prog 26 #[.int .u8 a, .int .u8 b] w fun e w' => e = .returned (.tuple #[.int .u8 (dq a b).1, .int .i64 (dq a b).2]) ∧ ∃ n, w' = w.drewN n := by
  have h := div_f ha hb (show 400 ≤ 400 by omega)
  have h' : (if b = 0 then ((0, 8) : Int × Int) else (((gd a b : Nat) : Int), 0)) = ((((dq a b).1 : Nat) : Int), (((dq a b).2 : Nat) : Int)) := by
    unfold dq
    by_cases hb0 : b = 0
    · rw [if_pos hb0, if_pos hb0]; rfl
    · rw [if_neg hb0, if_neg hb0]; rfl
  rw [h'] at h
  exact (quartermasterref01_Div.calls 400 a b _ _ w h).mono fun e w' ⟨he, hw⟩ => ⟨he, hw.out⟩
theorem reflog_n (w : World) (a : Nat) (ha : a < 256) : Calls Try.prog 29 #[.int .u8 a] w fun e w' => e = .returned (.tuple #[.int .i64 (lq a).1, .int .i64 (lq a).2]) ∧ ∃ n, w' = w.drewN n := by
  have h := log_f ha (show 400 ≤ 400 by omega)
  have h' : (if a = 0 then ((0, 8) : Int × Int) else (((lg a : Nat) : Int), 0)) = ((((lq a).1 : Nat) : Int), (((lq a).2 : Nat) : Int)) := by
    unfold lq
    by_cases hb0 : a = 0
    · rw [if_pos hb0, if_pos hb0]; rfl
    · rw [if_neg hb0, if_neg hb0]; rfl
  rw [h'] at h
  exact (quartermasterref01_Log.calls 400 a _ _ w h).mono fun e w' ⟨he, hw⟩ => ⟨he, hw.out⟩
theorem refexp_n (w : World) (n : Int) : Calls Try.prog 31 #[.int .i64 n] w fun e w' => e = .returned (.int .u8 (pw (rest n))) ∧ ∃ n, w' = w.drewN n :=
  (quartermasterref01_Exp.calls 400 n _ w (exp_f (rest_lt n) (rest_of n) (by omega))).mono fun e w' ⟨he, hw⟩ => ⟨he, hw.out⟩

theorem bytes {n : Int} (h : (Lit.int .u8 n).wf = true) : ∃ a : Nat, n = a ∧ a < 256 := by
  have h' : 0 ≤ n ∧ n ≤ 255 := by
    simp [Lit.wf, IntKind.min, IntKind.max, IntKind.signed, IntKind.bits] at h
    omega
  exact ⟨n.toNat, by omega, by omega⟩
theorem ints {n : Int} (h : (Lit.int .i64 n).wf = true) : -9223372036854775808 ≤ n ∧ n ≤ 9223372036854775807 := by
  simp [Lit.wf, IntKind.min, IntKind.max, IntKind.signed, IntKind.bits] at h
  omega

set_option maxRecDepth 100000 in
set_option maxHeartbeats 2000000 in
theorem GfSums_walk (a0 a1 : Int) (w0 : (Lit.int .u8 a0).wf = true) (w1 : (Lit.int .u8 a1).wf = true) (w : World) :
    Calls Try.prog 8 #[.int .u8 a0, .int .u8 a1] w fun e w' => e = .returned (.bool true) ∧ Below w.heap.size w w' := by
  obtain ⟨a, rfl, ha⟩ := bytes w0
  obtain ⟨b, rfl, hb⟩ := bytes w1
  clear w0 w1
  go_enter Try.func8, Try.ntmps8
  go_wp2_with fail
  refine (awake_calls _).mono ?_
  rintro e w1 ⟨rfl, hb1⟩
  have HB1 := Lib.hid hb1
  clear hb1
  go_wp2_with fail
  refine (new_calls _).mono ?_
  rintro e w2 ⟨rfl, ht, hb2⟩
  have HT := Lib.hid ht
  have HB2 := Lib.hid (HB1.out.trans (hb2.mono HB1.out.size))
  clear ht hb2
  go_wp2_with fail
  refine (add_n _ _ a b ha hb).mono ?_
  rintro e w3 ⟨rfl, n1, rfl⟩
  go_wp2_with fail
  refine (refadd_n _ a b ha hb).mono ?_
  rintro e w3 ⟨rfl, n2, rfl⟩
  go_wp2_with fail
  refine (mul_n _ w1.heap.size (by exact HT.out) a b ha hb).mono ?_
  rintro e w3 ⟨rfl, n3, rfl⟩
  go_wp2_with fail
  refine (refmul_n _ a b ha hb).mono ?_
  rintro e w3 ⟨rfl, n4, rfl⟩
  go_wp2_with fail
  go_ret
  exact ⟨rfl, by repeat (first | exact HB2.out | apply below_drewN')⟩
end Go.Proofs.Ythblmkailhdhlaa.Gf
