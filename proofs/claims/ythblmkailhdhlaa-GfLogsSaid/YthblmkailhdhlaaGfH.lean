/- The law GfLogs of chapter 1 (gf), walked. -/
import Derived.Test.YthblmkailhdhlaaGfD
namespace Go.Proofs.Ythblmkailhdhlaa.Gf
set_option linter.unusedVariables false
open Go.RowKit Go.Proofs.Ythblmkailhdhlaa.F

set_option maxRecDepth 100000 in
set_option maxHeartbeats 4000000 in
theorem GfLogs_out (n m : Int) (h : n < -1000000 ∨ (-1000000 ≤ n ∧ 1000000 < n) ∨ (-1000000 ≤ n ∧ n ≤ 1000000 ∧ m < -1000000) ∨ (-1000000 ≤ n ∧ n ≤ 1000000 ∧ -1000000 ≤ m ∧ 1000000 < m)) (w : World) :
    Calls Try.prog 6 #[.int .i64 n, .int .i64 m] w fun e w' => e = .returned (.bool true) ∧ Below w.heap.size w w' := by
  rcases h with h | ⟨h, h1⟩ | ⟨h, h1, h2⟩ | ⟨h, h1, h2, h3⟩
  all_goals
    go_enter Try.func6, Try.ntmps6
    go_wp2_with fail
    refine (awake_calls _).mono ?_
    rintro e w1 ⟨rfl, hb1⟩
    have HB1 := Lib.hid hb1
    clear hb1
    go_wp2_with fail
    go_ret
    exact ⟨rfl, HB1.out⟩

theorem rest_add (n m : Int) : gm (pw (rest n)) (pw (rest m)) = pw (rest (n + m)) := by
  rw [gm_eq (pw_ne' _) (pw_ne' _), lg_pw, lg_pw, pw_add_mod, Nat.add_comm (rest n), pw_add_mod]
  have h : (rest m + rest n) % 255 = rest (n + m) := by unfold rest; omega
  rw [← h, pw_mod]

set_option maxRecDepth 100000 in
set_option maxHeartbeats 4000000 in
theorem GfLogs_in (n m : Int) (h1 : -1000000 ≤ n) (h2 : n ≤ 1000000) (h3 : -1000000 ≤ m) (h4 : m ≤ 1000000) (w : World) :
    Calls Try.prog 6 #[.int .i64 n, .int .i64 m] w fun e w' => e = .returned (.bool true) ∧ Below w.heap.size w w' := by
  obtain ⟨k, hk⟩ : ∃ k : Nat, k = rest n := ⟨_, rfl⟩
  obtain ⟨x, hx⟩ : ∃ x : Nat, x = pw (rest n) := ⟨_, rfl⟩
  obtain ⟨y, hy⟩ : ∃ y : Nat, y = pw (rest m) := ⟨_, rfl⟩
  obtain ⟨z, hz⟩ : ∃ z : Nat, z = pw (rest (n + m)) := ⟨_, rfl⟩
  have hkl : k < 255 := hk ▸ rest_lt n
  have hxl : x < 256 := hx ▸ pw_lt _
  have hyl : y < 256 := hy ▸ pw_lt _
  have HX : Hid (Value.int .u8 ((pw (rest n) : Nat) : Int) = .int .u8 (x : Int)) := by show _ = _; rw [hx]
  have HY : Hid (Value.int .u8 ((pw (rest m) : Nat) : Int) = .int .u8 (y : Int)) := by show _ = _; rw [hy]
  have HZ : Hid (Value.int .u8 ((pw (rest (n + m)) : Nat) : Int) = .int .u8 (z : Int)) := by show _ = _; rw [hz]
  have HM : Hid (Value.int .u8 ((gm x y : Nat) : Int) = .int .u8 (z : Int)) := by show _ = _; rw [hx, hy, hz, rest_add]
  have HL : Hid ((Value.tuple #[.int .i64 (lq x).1, .int .i64 (lq x).2]) = .tuple #[.int .i64 (k : Int), .int .i64 0]) := by
    show _ = _
    unfold lq
    rw [if_neg (by rw [hx]; exact pw_ne' _), hx, lg_pw, hk, Nat.mod_eq_of_lt (rest_lt n)]; rfl
  have hr : ((n - (k : Int)).tmod 255 == 0) = true := by
    have : (n - (k : Int)) % 255 = 0 := by rw [hk]; unfold rest; omega
    have : (n - (k : Int)).tmod 255 = 0 := by
      rw [← Int.dvd_iff_tmod_eq_zero]
      exact Int.dvd_of_emod_eq_zero this
    rw [this]; rfl
  have hk0 : (0 : Int) ≤ k := by omega
  have hk1 : (k : Int) < 255 := by omega
  clear hx hy hz hk hkl
  go_enter Try.func6, Try.ntmps6
  go_wp2_with fail
  refine (awake_calls _).mono ?_
  rintro e w1 ⟨rfl, hb1⟩
  have HB1 := Lib.hid hb1
  clear hb1
  go_wp2_with fail
  refine (new_calls _).mono ?_
  rintro e w2 ⟨rfl, ht, hb2⟩
  have HT := Lib.hid ht
  have HB2 := Lib.hid (HB1.out.trans (hb2.mono HB1.out.size))
  clear ht hb2
  go_wp2_with fail
  refine (turned (exp_tab _ w1.heap.size (by exact HT.out) n) HX.out).mono ?_
  rintro e w3 ⟨rfl, n_, rfl⟩
  go_wp2_with fail
  refine (turned (log_n _ w1.heap.size (by exact HT.out) x hxl) HL.out).mono ?_
  rintro e w3 ⟨rfl, n_, rfl⟩
  go_wp2_with fail
  refine (turned (exp_tab _ w1.heap.size (by exact HT.out) (n + m)) HZ.out).mono ?_
  rintro e w3 ⟨rfl, n_, rfl⟩
  go_wp2_with fail
  refine (turned (exp_tab _ w1.heap.size (by exact HT.out) n) HX.out).mono ?_
  rintro e w3 ⟨rfl, n_, rfl⟩
  go_wp2_with fail
  refine (turned (exp_tab _ w1.heap.size (by exact HT.out) m) HY.out).mono ?_
  rintro e w3 ⟨rfl, n_, rfl⟩
  go_wp2_with fail
  refine (turned (mul_n _ w1.heap.size (by exact HT.out) x y hxl hyl) HM.out).mono ?_
  rintro e w3 ⟨rfl, n_, rfl⟩
  go_wp2_with fail
  go_ret
  exact ⟨rfl, by repeat (first | exact HB2.out | apply below_drewN')⟩

theorem GfLogs_walk (a0 a1 : Int) (w0 : (Lit.int .i64 a0).wf = true) (w1 : (Lit.int .i64 a1).wf = true) (w : World) :
    Calls Try.prog 6 #[.int .i64 a0, .int .i64 a1] w fun e w' => e = .returned (.bool true) ∧ Below w.heap.size w w' := by
  by_cases h : -1000000 ≤ a0 ∧ a0 ≤ 1000000 ∧ -1000000 ≤ a1 ∧ a1 ≤ 1000000
  · exact GfLogs_in a0 a1 h.1 h.2.1 h.2.2.1 h.2.2.2 w
  · exact GfLogs_out a0 a1 (by omega) w
end Go.Proofs.Ythblmkailhdhlaa.Gf
