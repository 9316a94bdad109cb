/- The examples of chapter 1 (awake), walked. -/
import Derived.Test.YthblmkailhdhlaaGfB
namespace Go.Proofs.Ythblmkailhdhlaa.Gf
set_option linter.unusedVariables false
open Go.RowKit Go.Proofs.Ythblmkailhdhlaa.F

theorem ex1 : gm 2 128 = 29 := by decide +kernel
theorem ex2 : gm 3 7 = 9 := by decide +kernel
theorem ex3 : dq 1 2 = (142, 0) := by decide +kernel
theorem ex4 : pw (rest 8) = 29 := by decide +kernel
theorem ex5 : lq 29 = (8, 0) := by decide +kernel

theorem exp_tab (w : World) (c : Nat) (hc : Tab w c) (n : Int) :
    Calls Try.prog 30 #[.pointer (some ⟨c, 0, none⟩), .int .i64 n] w fun e w' => e = .returned (.int .u8 (pw (rest n))) ∧ ∃ n, w' = w.drewN n := by
  refine (exp_some w _ n (fun _ w1 => w = w1) ?_).mono fun e w' ⟨he, n, c, w1, hr, hw⟩ => ⟨he, n, by rw [hw, ← hr]⟩
  exact (tables_tab w c hc).mono fun e w' ⟨he, hw⟩ => ⟨c, he, hw ▸ hc, hw⟩
theorem log_tab (w : World) (c : Nat) (hc : Tab w c) (a : Int) (ha0 : 0 ≤ a) (ha : a < 256) :
    Calls Try.prog 28 #[.pointer (some ⟨c, 0, none⟩), .int .u8 a] w fun e w' => e = .returned (.tuple #[.int .i64 (lq a.toNat).1, .int .i64 (lq a.toNat).2]) ∧ ∃ n, w' = w.drewN n := by
  obtain ⟨a, rfl⟩ := Int.eq_ofNat_of_zero_le ha0
  rw [Int.toNat_natCast]
  unfold lq
  by_cases h : a = 0
  · rw [if_pos h]
    exact (log_zero w _ a h).mono fun e w' ⟨he, hw⟩ => ⟨he, 0, hw ▸ rfl⟩
  · rw [if_neg h]
    refine (log_some w _ a (by omega) h (fun _ w1 => w = w1) ?_).mono fun e w' ⟨he, n, c, w1, hr, hw⟩ => ⟨he, n, by rw [hw, ← hr]⟩
    exact (tables_tab w c hc).mono fun e w' ⟨he, hw⟩ => ⟨c, he, hw ▸ hc, hw⟩

/-- A contract whose answer is known. -/
theorem known {P : Program} {f : Nat} {xs : Array Value} {w : World} {v v' : Value} {R : World → Prop} (h : Calls P f xs w fun e w' => e = .returned v ∧ R w') (hv : v = v') :
    Calls P f xs w fun e w' => e = .returned v' ∧ R w' := hv ▸ h

theorem Tab.drewN {w : World} {c : Nat} (h : Tab w c) (n : Nat) : Tab (w.drewN n) c := h

set_option maxRecDepth 100000 in
set_option maxHeartbeats 2000000 in
theorem awake_calls (w : World) : Calls Try.prog 23 #[] w fun e w' => e = .returned (.bool true) ∧ Below w.heap.size w w' := by
  go_enter Try.func23, Try.ntmps23
  go_wp2_with fail
  refine (new_calls _).mono ?_
  rintro e w1 ⟨rfl, ht, hb⟩
  have HT := Lib.hid ht
  have HB := Lib.hid hb
  clear ht hb
  go_wp2_with fail
  refine (known (inv_tab _ w.heap.size (by exact HT.out) 2 (by omega) (by omega)) (v' := .tuple #[.int .u8 142, .int .i64 0]) (by rw [show (2 : Int).toNat = 2 from rfl, ex3]; rfl)).mono ?_
  rintro e w2 ⟨rfl, n2, rfl⟩
  go_wp2_with fail
  refine (known (log_tab _ w.heap.size (by exact HT.out) 29 (by omega) (by omega)) (v' := .tuple #[.int .i64 8, .int .i64 0]) (by rw [show (29 : Int).toNat = 29 from rfl, ex5]; rfl)).mono ?_
  rintro e w2 ⟨rfl, n3, rfl⟩
  go_wp2_with fail
  refine (known (mul_tab _ w.heap.size (by exact HT.out) 2 128 (by omega) (by omega) (by omega) (by omega)) (v' := .int .u8 29) (by rw [show (2 : Int).toNat = 2 from rfl, show (128 : Int).toNat = 128 from rfl, ex1]; rfl)).mono ?_
  rintro e w2 ⟨rfl, n4, rfl⟩
  go_wp2_with fail
  refine (known (mul_tab _ w.heap.size (by exact HT.out) 3 7 (by omega) (by omega) (by omega) (by omega)) (v' := .int .u8 9) (by rw [show (3 : Int).toNat = 3 from rfl, show (7 : Int).toNat = 7 from rfl, ex2]; rfl)).mono ?_
  rintro e w2 ⟨rfl, n5, rfl⟩
  go_wp2_with fail
  refine (known (exp_tab _ w.heap.size (by exact HT.out) 8) (v' := .int .u8 29) (by rw [ex4]; rfl)).mono ?_
  rintro e w2 ⟨rfl, n6, rfl⟩
  go_wp2_with fail
  go_ret
  exact ⟨rfl, by repeat (first | exact HB.out | apply below_drewN')⟩

end Go.Proofs.Ythblmkailhdhlaa.Gf
