/- Walks over package gf: tables, and the methods. -/
import Derived.Test.YthblmkailhdhlaaGfA
import Derived.Deep.QuietTactic
import Derived.BigQuiet
import Derived.WalkSmall
namespace Go.Proofs.Ythblmkailhdhlaa.Gf
set_option linter.unusedVariables false
open Go.RowKit Go.Proofs.Ythblmkailhdhlaa.F

set_option maxRecDepth 100000 in
set_option maxHeartbeats 1000000 in
theorem tables_tab (w : World) (b : Nat) (h : Tab w b) :
    Calls Try.prog 59 #[.pointer (some ⟨b, 0, none⟩)] w fun e w' => e = .returned (.pointer (some ⟨b, 0, none⟩)) ∧ w = w' := by
  have hm := h.made
  clear h
  go_enter Try.func59, Try.ntmps59
  go_wp2_with fail
  go_ret
  exact ⟨rfl, rfl⟩

set_option maxRecDepth 100000 in
set_option maxHeartbeats 1000000 in
/-- Whatever the address leads to: the tables come back. -/
theorem tables_any (w : World) (p : Option Addr) (h : FieldAt w p) :
    Calls Try.prog 59 #[.pointer p] w fun e w' => ∃ b, e = .returned (.pointer (some ⟨b, 0, none⟩)) ∧ Tab w' b ∧ Below w.heap.size w w' := by
  rcases h with rfl | ⟨b, rfl, h⟩ | ⟨b, rfl, h⟩
  · go_enter Try.func59, Try.ntmps59
    go_wp2_with fail
    refine (new_calls _).mono ?_
    rintro e w1 ⟨rfl, ht, hb⟩
    have HT := Lib.hid ht
    have HB := Lib.hid hb
    clear ht hb
    go_wp2_with fail
    go_ret
    exact ⟨_, rfl, HT.out, HB.out⟩
  · exact (tables_tab w b h).mono fun e w' ⟨he, hw⟩ => ⟨b, he, hw ▸ h, hw ▸ Below.refl _ _⟩
  · have hm := zero_made h
    clear h
    go_enter Try.func59, Try.ntmps59
    go_wp2_with fail
    refine (new_calls _).mono ?_
    rintro e w1 ⟨rfl, ht, hb⟩
    have HT := Lib.hid ht
    have HB := Lib.hid hb
    clear ht hb
    go_wp2_with fail
    go_ret
    exact ⟨_, rfl, HT.out, HB.out⟩

theorem u8_xor' (a b : Nat) (ha : a < 256) (hb : b < 256) : bits .xor .u8 (a : Int) (b : Int) = ((a ^^^ b : Nat) : Int) := u8_xor_nat a b ha hb

set_option maxRecDepth 100000 in
set_option maxHeartbeats 1000000 in
theorem add_calls (w : World) (p : Option Addr) (a b : Nat) (ha : a < 256) (hb : b < 256) :
    Calls Try.prog 34 #[.pointer p, .int .u8 a, .int .u8 b] w fun e w' => e = .returned (.int .u8 ((a ^^^ b : Nat) : Int)) ∧ w = w' := by
  have hx := u8_xor' a b ha hb
  go_enter Try.func34, Try.ntmps34
  go_wp2_with fail
  go_ret
  exact ⟨rfl, rfl⟩

set_option maxRecDepth 100000 in
set_option maxHeartbeats 1000000 in
theorem mul_zero (w : World) (p : Option Addr) (a b : Nat) (h : a = 0 ∨ b = 0) :
    Calls Try.prog 32 #[.pointer p, .int .u8 a, .int .u8 b] w fun e w' => e = .returned (.int .u8 (gm a b)) ∧ w = w' := by
  have h0 : gm a b = 0 := by unfold gm; rw [if_pos h]
  rw [h0]
  clear h0
  by_cases h1 : a = 0
  · have hz : ((a : Int) == 0) = true := by subst h1; rfl
    clear h h1
    go_enter Try.func32, Try.ntmps32
    go_wp2_with fail
    go_ret
    exact ⟨rfl, rfl⟩
  · have h2 : b = 0 := by omega
    have hz : ((a : Int) == 0) = false := by simp; exact h1
    have hy : ((b : Int) == 0) = true := by subst h2; rfl
    clear h h1 h2
    go_enter Try.func32, Try.ntmps32
    go_wp2_with fail
    go_ret
    exact ⟨rfl, rfl⟩

set_option maxRecDepth 100000 in
set_option maxHeartbeats 1000000 in
theorem mul_some (w : World) (p : Option Addr) (a b : Nat) (ha : a < 256) (hb : b < 256) (ha0 : a ≠ 0) (hb0 : b ≠ 0) (R : Nat → World → Prop)
    (ht : Calls Try.prog 59 #[.pointer p] w fun e w' => ∃ c, e = .returned (.pointer (some ⟨c, 0, none⟩)) ∧ Tab w' c ∧ R c w') :
    Calls Try.prog 32 #[.pointer p, .int .u8 a, .int .u8 b] w fun e w' => e = .returned (.int .u8 (gm a b)) ∧ ∃ n c w1, R c w1 ∧ w' = w1.drewN n := by
  have hg : gm a b = pw (lg a + lg b) := by unfold gm; rw [if_neg (by omega)]
  rw [hg]
  have HT := Lib.hid ht
  have hz : ((a : Int) == 0) = false := by simp; exact ha0
  have hy : ((b : Int) == 0) = false := by simp; exact hb0
  have la := lg_lt ha ha0
  have lb := lg_lt hb hb0
  clear hg ht ha0 hb0
  go_enter Try.func32, Try.ntmps32
  go_wp2_with fail
  refine HT.out.mono ?_
  rintro e w1 ⟨c, rfl, ht, hr⟩
  have h1 := ht.log ha
  have h2 := ht.log hb
  have h3 := ht.exp (i := lg a + lg b) (by omega)
  have HR := Lib.hid hr
  clear ht hr
  go_wp2_with fail
  go_quiet (fail)
  go_wp2_with fail
  go_ret
  exact ⟨rfl, _, c, w1, HR.out, rfl⟩


set_option maxRecDepth 100000 in
set_option maxHeartbeats 1000000 in
theorem div_zero (w : World) (p : Option Addr) (a b : Nat) (h : b = 0) :
    Calls Try.prog 25 #[.pointer p, .int .u8 a, .int .u8 b] w fun e w' => e = .returned (.tuple #[.int .u8 0, .int .i64 8]) ∧ w = w' := by
  have hy : ((b : Int) == 0) = true := by subst h; rfl
  clear h
  go_enter Try.func25, Try.ntmps25
  go_wp2_with fail
  go_ret2
  exact ⟨rfl, rfl⟩
set_option maxRecDepth 100000 in
set_option maxHeartbeats 1000000 in
theorem div_none (w : World) (p : Option Addr) (a b : Nat) (h : b ≠ 0) (h' : a = 0) :
    Calls Try.prog 25 #[.pointer p, .int .u8 a, .int .u8 b] w fun e w' => e = .returned (.tuple #[.int .u8 0, .int .i64 0]) ∧ w = w' := by
  have hy : ((b : Int) == 0) = false := by simp; exact h
  have hz : ((a : Int) == 0) = true := by subst h'; rfl
  clear h h'
  go_enter Try.func25, Try.ntmps25
  go_wp2_with fail
  go_ret2
  exact ⟨rfl, rfl⟩
set_option maxRecDepth 100000 in
set_option maxHeartbeats 1000000 in
theorem div_some (w : World) (p : Option Addr) (a b : Nat) (ha : a < 256) (hb : b < 256) (ha0 : a ≠ 0) (hb0 : b ≠ 0) (R : Nat → World → Prop)
    (ht : Calls Try.prog 59 #[.pointer p] w fun e w' => ∃ c, e = .returned (.pointer (some ⟨c, 0, none⟩)) ∧ Tab w' c ∧ R c w') :
    Calls Try.prog 25 #[.pointer p, .int .u8 a, .int .u8 b] w fun e w' => e = .returned (.tuple #[.int .u8 (gd a b), .int .i64 0]) ∧ ∃ n c w1, R c w1 ∧ w' = w1.drewN n := by
  have hg : gd a b = pw (lg a + 255 - lg b) := by unfold gd; rw [if_neg (by omega)]
  rw [hg]
  have HT := Lib.hid ht
  have hz : ((a : Int) == 0) = false := by simp; exact ha0
  have hy : ((b : Int) == 0) = false := by simp; exact hb0
  have la := lg_lt ha ha0
  have lb := lg_lt hb hb0
  clear hg ht ha0 hb0
  go_enter Try.func25, Try.ntmps25
  go_wp2_with fail
  refine HT.out.mono ?_
  rintro e w1 ⟨c, rfl, ht, hr⟩
  have h1 := ht.log ha
  have h2 := ht.log hb
  have h3 := ht.exp (i := lg a + 255 - lg b) (by omega)
  have HR := Lib.hid hr
  clear ht hr
  go_wp2_with fail
  go_quiet (fail)
  go_wp2_with fail
  go_ret2
  exact ⟨rfl, _, c, w1, HR.out, rfl⟩

set_option maxRecDepth 100000 in
set_option maxHeartbeats 1000000 in
theorem log_zero (w : World) (p : Option Addr) (a : Nat) (h : a = 0) :
    Calls Try.prog 28 #[.pointer p, .int .u8 a] w fun e w' => e = .returned (.tuple #[.int .i64 0, .int .i64 8]) ∧ w = w' := by
  have hy : ((a : Int) == 0) = true := by subst h; rfl
  clear h
  go_enter Try.func28, Try.ntmps28
  go_wp2_with fail
  go_ret2
  exact ⟨rfl, rfl⟩
set_option maxRecDepth 100000 in
set_option maxHeartbeats 1000000 in
theorem log_some (w : World) (p : Option Addr) (a : Nat) (ha : a < 256) (ha0 : a ≠ 0) (R : Nat → World → Prop)
    (ht : Calls Try.prog 59 #[.pointer p] w fun e w' => ∃ c, e = .returned (.pointer (some ⟨c, 0, none⟩)) ∧ Tab w' c ∧ R c w') :
    Calls Try.prog 28 #[.pointer p, .int .u8 a] w fun e w' => e = .returned (.tuple #[.int .i64 (lg a), .int .i64 0]) ∧ ∃ n c w1, R c w1 ∧ w' = w1.drewN n := by
  have HT := Lib.hid ht
  have hz : ((a : Int) == 0) = false := by simp; exact ha0
  clear ht ha0
  go_enter Try.func28, Try.ntmps28
  go_wp2_with fail
  refine HT.out.mono ?_
  rintro e w1 ⟨c, rfl, ht, hr⟩
  have h1 := ht.log ha
  have HR := Lib.hid hr
  clear ht hr
  go_wp2_with fail
  go_ret2
  exact ⟨rfl, 0, c, w1, HR.out, rfl⟩

/-- A number's place in a round of 255. -/
def rest (n : Int) : Nat := (n % 255).toNat
theorem rest_lt (n : Int) : rest n < 255 := by unfold rest; omega
theorem rest_of (n : Int) : (if n.tmod 255 < 0 then n.tmod 255 + 255 else n.tmod 255) = (rest n : Int) := by
  have h : (n.tmod 255 : Int) = if 0 ≤ n then n % 255 else -((-n) % 255) := by
    by_cases h0 : 0 ≤ n
    · rw [if_pos h0, Int.tmod_eq_emod_of_nonneg h0]
    · rw [if_neg h0]
      have := Int.neg_tmod (-n) 255
      rw [Int.neg_neg] at this
      rw [this, Int.tmod_eq_emod_of_nonneg (by omega)]
  rw [h]
  unfold rest
  split <;> split <;> omega
set_option maxRecDepth 100000 in
set_option maxHeartbeats 1000000 in
theorem exp_some (w : World) (p : Option Addr) (n : Int) (R : Nat → World → Prop)
    (ht : Calls Try.prog 59 #[.pointer p] w fun e w' => ∃ c, e = .returned (.pointer (some ⟨c, 0, none⟩)) ∧ Tab w' c ∧ R c w') :
    Calls Try.prog 30 #[.pointer p, .int .i64 n] w fun e w' => e = .returned (.int .u8 (pw (rest n))) ∧ ∃ n c w1, R c w1 ∧ w' = w1.drewN n := by
  have hr := rest_of n
  have hl := rest_lt n
  have HT := Lib.hid ht
  clear ht
  by_cases hneg : n.tmod 255 < 0
  · rw [if_pos hneg] at hr
    have he : wrap64 (n.tmod 255 + 255) = (rest n : Int) := by rw [← hr]; unfold wrap64; omega
    have HE := Lib.hid he
    clear he hr
    go_enter Try.func30, Try.ntmps30
    go_wp2_with fail
    rw [HE.out]
    refine HT.out.mono ?_
    rintro e w1 ⟨c, rfl, ht, hr⟩
    have h1 := ht.exp (i := rest n) (by omega)
    have HR := Lib.hid hr
    clear ht hr
    go_wp2_with fail
    go_ret
    exact ⟨rfl, 0, c, w1, HR.out, rfl⟩
  · rw [if_neg hneg] at hr
    have HE := Lib.hid hr
    clear hr
    go_enter Try.func30, Try.ntmps30
    go_wp2_with fail
    rw [HE.out]
    refine HT.out.mono ?_
    rintro e w1 ⟨c, rfl, ht, hr⟩
    have h1 := ht.exp (i := rest n) (by omega)
    have HR := Lib.hid hr
    clear ht hr
    go_wp2_with fail
    go_ret
    exact ⟨rfl, 0, c, w1, HR.out, rfl⟩

/-! ### The contracts: over numbers that are bytes; whatever the address leads to. -/
theorem below_drewN' {B : Nat} {a w : World} (n : Nat) (h : Below B a w) : Below B a (w.drewN n) := by induction n with | zero => exact h | succ n ih => exact ih.drew

theorem mul_any (w : World) (p : Option Addr) (hp : FieldAt w p) (a b : Int) (ha0 : 0 ≤ a) (ha : a < 256) (hb0 : 0 ≤ b) (hb : b < 256) :
    Calls Try.prog 32 #[.pointer p, .int .u8 a, .int .u8 b] w fun e w' => e = .returned (.int .u8 (gm a.toNat b.toNat)) ∧ Below w.heap.size w w' := by
  obtain ⟨a, rfl⟩ := Int.eq_ofNat_of_zero_le ha0
  obtain ⟨b, rfl⟩ := Int.eq_ofNat_of_zero_le hb0
  rw [Int.toNat_natCast, Int.toNat_natCast]
  by_cases h : a = 0 ∨ b = 0
  · exact (mul_zero w p a b h).mono fun e w' ⟨he, hw⟩ => ⟨he, hw ▸ Below.refl _ _⟩
  · refine (mul_some w p a b (by omega) (by omega) (by omega) (by omega) (fun _ w1 => Below w.heap.size w w1) ?_).mono fun e w' ⟨he, n, c, w1, hr, hw⟩ => ⟨he, hw ▸ below_drewN' n hr⟩
    exact (tables_any w p hp).mono fun e w' ⟨c, he, ht, hb⟩ => ⟨c, he, ht, hb⟩
theorem mul_tab (w : World) (c : Nat) (hc : Tab w c) (a b : Int) (ha0 : 0 ≤ a) (ha : a < 256) (hb0 : 0 ≤ b) (hb : b < 256) :
    Calls Try.prog 32 #[.pointer (some ⟨c, 0, none⟩), .int .u8 a, .int .u8 b] w fun e w' => e = .returned (.int .u8 (gm a.toNat b.toNat)) ∧ ∃ n, w' = w.drewN n := by
  obtain ⟨a, rfl⟩ := Int.eq_ofNat_of_zero_le ha0
  obtain ⟨b, rfl⟩ := Int.eq_ofNat_of_zero_le hb0
  rw [Int.toNat_natCast, Int.toNat_natCast]
  by_cases h : a = 0 ∨ b = 0
  · exact (mul_zero w _ a b h).mono fun e w' ⟨he, hw⟩ => ⟨he, 0, hw ▸ rfl⟩
  · refine (mul_some w _ a b (by omega) (by omega) (by omega) (by omega) (fun _ w1 => w = w1) ?_).mono fun e w' ⟨he, n, c, w1, hr, hw⟩ => ⟨he, n, by rw [hw, ← hr]⟩
    exact (tables_tab w c hc).mono fun e w' ⟨he, hw⟩ => ⟨c, he, hw ▸ hc, hw⟩
/-- What Div answers: the quotient, the error. -/
def dq (a b : Nat) : Nat × Nat := if b = 0 then (0, 8) else (gd a b, 0)
theorem div_any (w : World) (p : Option Addr) (hp : FieldAt w p) (a b : Int) (ha0 : 0 ≤ a) (ha : a < 256) (hb0 : 0 ≤ b) (hb : b < 256) :
    Calls Try.prog 25 #[.pointer p, .int .u8 a, .int .u8 b] w fun e w' => e = .returned (.tuple #[.int .u8 (dq a.toNat b.toNat).1, .int .i64 (dq a.toNat b.toNat).2]) ∧ Below w.heap.size w w' := by
  obtain ⟨a, rfl⟩ := Int.eq_ofNat_of_zero_le ha0
  obtain ⟨b, rfl⟩ := Int.eq_ofNat_of_zero_le hb0
  rw [Int.toNat_natCast, Int.toNat_natCast]
  unfold dq
  by_cases h : b = 0
  · rw [if_pos h]
    exact (div_zero w p a b h).mono fun e w' ⟨he, hw⟩ => ⟨he, hw ▸ Below.refl _ _⟩
  · rw [if_neg h]
    by_cases h1 : a = 0
    · rw [show gd a b = 0 from if_pos (.inl h1)]
      exact (div_none w p a b h h1).mono fun e w' ⟨he, hw⟩ => ⟨he, hw ▸ Below.refl _ _⟩
    · refine (div_some w p a b (by omega) (by omega) (by omega) (by omega) (fun _ w1 => Below w.heap.size w w1) ?_).mono fun e w' ⟨he, n, c, w1, hr, hw⟩ => ⟨he, hw ▸ below_drewN' n hr⟩
      exact (tables_any w p hp).mono fun e w' ⟨c, he, ht, hb⟩ => ⟨c, he, ht, hb⟩
theorem div_tab (w : World) (c : Nat) (hc : Tab w c) (a b : Int) (ha0 : 0 ≤ a) (ha : a < 256) (hb0 : 0 ≤ b) (hb : b < 256) :
    Calls Try.prog 25 #[.pointer (some ⟨c, 0, none⟩), .int .u8 a, .int .u8 b] w fun e w' => e = .returned (.tuple #[.int .u8 (dq a.toNat b.toNat).1, .int .i64 (dq a.toNat b.toNat).2]) ∧ ∃ n, w' = w.drewN n := by
  obtain ⟨a, rfl⟩ := Int.eq_ofNat_of_zero_le ha0
  obtain ⟨b, rfl⟩ := Int.eq_ofNat_of_zero_le hb0
  rw [Int.toNat_natCast, Int.toNat_natCast]
  unfold dq
  by_cases h : b = 0
  · rw [if_pos h]
    exact (div_zero w _ a b h).mono fun e w' ⟨he, hw⟩ => ⟨he, 0, hw ▸ rfl⟩
  · rw [if_neg h]
    by_cases h1 : a = 0
    · rw [show gd a b = 0 from if_pos (.inl h1)]
      exact (div_none w _ a b h h1).mono fun e w' ⟨he, hw⟩ => ⟨he, 0, hw ▸ rfl⟩
    · refine (div_some w _ a b (by omega) (by omega) (by omega) (by omega) (fun _ w1 => w = w1) ?_).mono fun e w' ⟨he, n, c, w1, hr, hw⟩ => ⟨he, n, by rw [hw, ← hr]⟩
      exact (tables_tab w c hc).mono fun e w' ⟨he, hw⟩ => ⟨c, he, hw ▸ hc, hw⟩
set_option maxRecDepth 100000 in
set_option maxHeartbeats 1000000 in
theorem inv_any (w : World) (p : Option Addr) (hp : FieldAt w p) (a : Int) (ha0 : 0 ≤ a) (ha : a < 256) :
    Calls Try.prog 27 #[.pointer p, .int .u8 a] w fun e w' => e = .returned (.tuple #[.int .u8 (dq 1 a.toNat).1, .int .i64 (dq 1 a.toNat).2]) ∧ Below w.heap.size w w' := by
  have HP := Lib.hid hp
  clear hp
  go_enter Try.func27, Try.ntmps27
  go_wp2_with fail
  refine (div_any w p HP.out 1 a (by omega) (by omega) ha0 ha).mono ?_
  rintro e w1 ⟨rfl, hb⟩
  have HB := Lib.hid hb
  clear hb
  go_wp2_with fail
  go_ret2
  exact ⟨rfl, HB.out⟩
set_option maxRecDepth 100000 in
set_option maxHeartbeats 1000000 in
theorem inv_tab (w : World) (c : Nat) (hc : Tab w c) (a : Int) (ha0 : 0 ≤ a) (ha : a < 256) :
    Calls Try.prog 27 #[.pointer (some ⟨c, 0, none⟩), .int .u8 a] w fun e w' => e = .returned (.tuple #[.int .u8 (dq 1 a.toNat).1, .int .i64 (dq 1 a.toNat).2]) ∧ ∃ n, w' = w.drewN n := by
  have HP := Lib.hid hc
  clear hc
  go_enter Try.func27, Try.ntmps27
  go_wp2_with fail
  refine (div_tab w c HP.out 1 a (by omega) (by omega) ha0 ha).mono ?_
  rintro e w1 ⟨rfl, hb⟩
  have HB := Lib.hid hb
  clear hb
  go_wp2_with fail
  go_ret2
  exact ⟨rfl, HB.out⟩
/-- What Log answers. -/
def lq (a : Nat) : Nat × Nat := if a = 0 then (0, 8) else (lg a, 0)
theorem log_any (w : World) (p : Option Addr) (hp : FieldAt w p) (a : Int) (ha0 : 0 ≤ a) (ha : a < 256) :
    Calls Try.prog 28 #[.pointer p, .int .u8 a] w fun e w' => e = .returned (.tuple #[.int .i64 (lq a.toNat).1, .int .i64 (lq a.toNat).2]) ∧ Below w.heap.size w w' := by
  obtain ⟨a, rfl⟩ := Int.eq_ofNat_of_zero_le ha0
  rw [Int.toNat_natCast]
  unfold lq
  by_cases h : a = 0
  · rw [if_pos h]
    exact (log_zero w p a h).mono fun e w' ⟨he, hw⟩ => ⟨he, hw ▸ Below.refl _ _⟩
  · rw [if_neg h]
    refine (log_some w p a (by omega) h (fun _ w1 => Below w.heap.size w w1) ?_).mono fun e w' ⟨he, n, c, w1, hr, hw⟩ => ⟨he, hw ▸ below_drewN' n hr⟩
    exact (tables_any w p hp).mono fun e w' ⟨c, he, ht, hb⟩ => ⟨c, he, ht, hb⟩
theorem exp_any (w : World) (p : Option Addr) (hp : FieldAt w p) (n : Int) :
    Calls Try.prog 30 #[.pointer p, .int .i64 n] w fun e w' => e = .returned (.int .u8 (pw (rest n))) ∧ Below w.heap.size w w' := by
  refine (exp_some w p n (fun _ w1 => Below w.heap.size w w1) ?_).mono fun e w' ⟨he, n, c, w1, hr, hw⟩ => ⟨he, hw ▸ below_drewN' n hr⟩
  exact (tables_any w p hp).mono fun e w' ⟨c, he, ht, hb⟩ => ⟨c, he, ht, hb⟩
theorem add_any (w : World) (p : Option Addr) (a b : Int) (ha0 : 0 ≤ a) (ha : a < 256) (hb0 : 0 ≤ b) (hb : b < 256) :
    Calls Try.prog 34 #[.pointer p, .int .u8 a, .int .u8 b] w fun e w' => e = .returned (.int .u8 ((a.toNat ^^^ b.toNat : Nat) : Int)) ∧ w = w' := by
  obtain ⟨a, rfl⟩ := Int.eq_ofNat_of_zero_le ha0
  obtain ⟨b, rfl⟩ := Int.eq_ofNat_of_zero_le hb0
  rw [Int.toNat_natCast, Int.toNat_natCast]
  exact add_calls w p a b (by omega) (by omega)
theorem FieldAt.below {w w' : World} {p : Option Addr} (h : FieldAt w p) (hb : Below w.heap.size w w') : FieldAt w' p := by
  rcases h with rfl | ⟨b, rfl, h⟩ | ⟨b, rfl, h⟩
  · exact .inl rfl
  · exact .inr (.inl ⟨b, rfl, h.below hb⟩)
  · exact .inr (.inr ⟨b, rfl, (hb.block b (Array.getElem?_eq_some_iff.1 h).1).trans h⟩)
end Go.Proofs.Ythblmkailhdhlaa.Gf
