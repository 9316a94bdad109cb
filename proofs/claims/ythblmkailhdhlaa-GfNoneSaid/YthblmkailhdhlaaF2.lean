/- The field of 256 numbers, in plain Lean: sums and products may be taken in any order, and are spread over one another; the product of polynomials and its remainder. -/
import Derived.Test.YthblmkailhdhlaaF
namespace Go.Proofs.Ythblmkailhdhlaa.F

theorem xor_lt {a b : Nat} (ha : a < 256) (hb : b < 256) : a ^^^ b < 256 := Nat.xor_lt_two_pow (n := 8) ha hb
theorem xt_eq (a : Nat) : xt a = (2 * a) ^^^ (if 127 < a then 285 else 0) := by
  unfold xt
  by_cases h : 127 < a
  · rw [if_pos h, if_pos (by omega)]
  · rw [if_neg h, if_neg (by omega), Nat.xor_zero]
theorem big_xor : ∀ x y : Fin 256, (if 127 < x.val ^^^ y.val then 285 else 0) = (if 127 < x.val then 285 else 0) ^^^ (if 127 < y.val then 285 else 0) := by decide +kernel
theorem two_xor (x y : Nat) : 2 * (x ^^^ y) = (2 * x) ^^^ (2 * y) := by
  have := Nat.shiftLeft_xor_distrib (a := x) (b := y) (i := 1)
  simp only [Nat.shiftLeft_eq, Nat.pow_one] at this
  rw [Nat.mul_comm 2, Nat.mul_comm 2, Nat.mul_comm 2]; exact this
theorem xor4 (a b c d : Nat) : (a ^^^ b) ^^^ (c ^^^ d) = (a ^^^ c) ^^^ (b ^^^ d) := by
  simp only [Nat.xor_assoc]
  congr 1
  rw [← Nat.xor_assoc, Nat.xor_comm b c, Nat.xor_assoc]
theorem xt_xor {x y : Nat} (hx : x < 256) (hy : y < 256) : xt (x ^^^ y) = xt x ^^^ xt y := by
  rw [xt_eq, xt_eq, xt_eq, big_xor ⟨x, hx⟩ ⟨y, hy⟩, two_xor, xor4]

/-- Times two, so many times. -/
def it : Nat → Nat → Nat
  | 0, a => a
  | n + 1, a => xt (it n a)
theorem it_lt (n : Nat) {a : Nat} (h : a < 256) : it n a < 256 := by
  induction n with
  | zero => exact h
  | succ n ih => exact xt_lt ih
theorem it_xor (n : Nat) {x y : Nat} (hx : x < 256) (hy : y < 256) : it n (x ^^^ y) = it n x ^^^ it n y := by
  induction n with
  | zero => rfl
  | succ n ih => show xt _ = xt _ ^^^ xt _; rw [ih, xt_xor (it_lt n hx) (it_lt n hy)]
theorem it_xt (n a : Nat) : it n (xt a) = xt (it n a) := by
  induction n with
  | zero => rfl
  | succ n ih => show xt _ = xt _; rw [ih]; rfl
theorem it_zero (n : Nat) : it n 0 = 0 := by
  induction n with
  | zero => rfl
  | succ n ih => show xt _ = 0; rw [ih]; rfl
theorem it_pw (i j : Nat) : it i (pw j) = pw (j + i) := by
  induction i with
  | zero => rfl
  | succ n ih => show xt _ = xt (pw (j + n)); rw [ih]

/-- The product, bit by bit: of the first n bits. -/
def mk : Nat → Nat → Nat → Nat
  | 0, _, _ => 0
  | n + 1, a, b => mk n a b ^^^ (if b.testBit n then it n a else 0)
theorem mk_lt (n : Nat) {a b : Nat} (h : a < 256) : mk n a b < 256 := by
  induction n with
  | zero => exact (by decide : 0 < 256)
  | succ n ih =>
    refine xor_lt ih ?_
    split
    · exact it_lt _ h
    · decide
theorem mk_xor_left (n : Nat) {x y : Nat} (b : Nat) (hx : x < 256) (hy : y < 256) : mk n (x ^^^ y) b = mk n x b ^^^ mk n y b := by
  induction n with
  | zero => exact (Nat.xor_self 0).symm
  | succ n ih =>
    show _ ^^^ _ = (_ ^^^ _) ^^^ (_ ^^^ _)
    rw [ih, xor4]
    congr 1
    split
    · exact it_xor n hx hy
    · rfl
theorem mk_xor_right (n a x y : Nat) : mk n a (x ^^^ y) = mk n a x ^^^ mk n a y := by
  induction n with
  | zero => exact (Nat.xor_self 0).symm
  | succ n ih =>
    show _ ^^^ _ = (_ ^^^ _) ^^^ (_ ^^^ _)
    rw [ih, xor4, Nat.testBit_xor]
    congr 1
    cases x.testBit n <;> cases y.testBit n <;> simp
theorem mk_xt (n a b : Nat) (h : a < 256) : mk n (xt a) b = xt (mk n a b) := by
  induction n with
  | zero => rfl
  | succ n ih =>
    show _ ^^^ _ = xt (_ ^^^ _)
    have h1 : (if b.testBit n then it n a else 0) < 256 := by
      split
      · exact it_lt n h
      · decide
    rw [xt_xor (mk_lt n h) h1, ih]
    congr 1
    split
    · exact it_xt n a
    · rfl
theorem mk_one : ∀ b : Fin 256, mk 8 1 b.val = b.val := by decide +kernel
theorem mk_pw (i : Nat) {b : Nat} (h : b < 256) : mk 8 (pw i) b = it i b := by
  induction i with
  | zero => exact mk_one ⟨b, h⟩
  | succ n ih => show mk 8 (xt (pw n)) b = xt _; rw [mk_xt _ _ _ (pw_lt n), ih]
theorem mk_zero_left (n b : Nat) : mk n 0 b = 0 := by
  induction n with
  | zero => rfl
  | succ n ih => show _ ^^^ _ = 0; rw [ih, it_zero]; simp
theorem mk_zero_right (n a : Nat) : mk n a 0 = 0 := by
  induction n with
  | zero => rfl
  | succ n ih => show _ ^^^ _ = 0; rw [ih]; simp
theorem gm_mk {a b : Nat} (ha : a < 256) (hb : b < 256) : gm a b = mk 8 a b := by
  unfold gm
  by_cases h : a = 0 ∨ b = 0
  · rw [if_pos h]
    rcases h with rfl | rfl
    · rw [mk_zero_left]
    · rw [mk_zero_right]
  · rw [if_neg h]
    have h1 := mk_pw (lg a) hb
    rw [pw_lg ha (by omega)] at h1
    rw [h1]
    have h2 := it_pw (lg a) (lg b)
    rw [pw_lg hb (by omega)] at h2
    rw [h2, Nat.add_comm]

/-! ### It is a field. -/
theorem gm_lt (a b : Nat) : gm a b < 256 := by
  unfold gm
  split
  · decide
  · exact pw_lt _
theorem gm_comm (a b : Nat) : gm a b = gm b a := by
  unfold gm
  rw [Nat.add_comm]
  by_cases h : a = 0 ∨ b = 0
  · rw [if_pos h, if_pos h.symm]
  · rw [if_neg h, if_neg (fun h' => h h'.symm)]
theorem gm_zero (a : Nat) : gm a 0 = 0 := if_pos (.inr rfl)
theorem zero_gm (a : Nat) : gm 0 a = 0 := if_pos (.inl rfl)
theorem pw_ne' (i : Nat) : pw i ≠ 0 := by rw [← pw_mod]; exact pw_ne (Nat.mod_lt _ (by omega))
theorem gm_ne {a b : Nat} (ha : a ≠ 0) (hb : b ≠ 0) : gm a b ≠ 0 := by
  unfold gm
  rw [if_neg (by omega)]
  exact pw_ne' _
theorem gm_eq {a b : Nat} (ha : a ≠ 0) (hb : b ≠ 0) : gm a b = pw (lg a + lg b) := if_neg (by omega)
theorem pw_add_mod (i j : Nat) : pw (i % 255 + j) = pw (i + j) := by
  rw [← pw_mod (i % 255 + j), ← pw_mod (i + j), Nat.mod_add_mod]
theorem gm_assoc {a b c : Nat} : gm (gm a b) c = gm a (gm b c) := by
  by_cases ha : a = 0
  · subst ha; simp only [zero_gm]
  · by_cases hb : b = 0
    · subst hb; simp only [zero_gm, gm_zero]
    · by_cases hc : c = 0
      · subst hc; simp only [gm_zero]
      · rw [gm_eq (gm_ne ha hb) hc, gm_eq ha (gm_ne hb hc), gm_eq ha hb, gm_eq hb hc, lg_pw, lg_pw, pw_add_mod, Nat.add_comm (lg a) ((lg b + lg c) % 255), pw_add_mod]
        congr 1
        omega
theorem gm_one {a : Nat} (ha : a < 256) : gm a 1 = a := by
  rw [gm_comm, gm_mk (by decide) ha]
  exact mk_one ⟨a, ha⟩
theorem one_gm {a : Nat} (ha : a < 256) : gm 1 a = a := by rw [gm_comm]; exact gm_one ha
theorem gm_xor {a x y : Nat} (ha : a < 256) (hx : x < 256) (hy : y < 256) : gm a (x ^^^ y) = gm a x ^^^ gm a y := by
  rw [gm_mk ha hx, gm_mk ha hy, gm_mk ha (xor_lt hx hy), mk_xor_right]
theorem xor_gm {a x y : Nat} (ha : a < 256) (hx : x < 256) (hy : y < 256) : gm (x ^^^ y) a = gm x a ^^^ gm y a := by
  rw [gm_comm, gm_xor ha hx hy, gm_comm a x, gm_comm a y]
theorem gd_lt (a b : Nat) : gd a b < 256 := by
  unfold gd
  split
  · decide
  · exact pw_lt _
/-- What is divided may be multiplied again. -/
theorem gd_gm {a b : Nat} (ha : a < 256) (hb : b < 256) (hb0 : b ≠ 0) : gm (gd a b) b = a := by
  by_cases h : a = 0
  · subst h; rw [show gd 0 b = 0 from if_pos (.inl rfl), zero_gm]
  · have hg : gd a b = pw (lg a + 255 - lg b) := if_neg (by omega)
    have hb' := lg_lt hb hb0
    rw [gm_eq (by rw [hg]; exact pw_ne' _) hb0, hg, lg_pw, pw_add_mod, show lg a + 255 - lg b + lg b = lg a + 255 by omega, pw_add_255, pw_lg ha h]
/-- What is multiplied may be divided again. -/
theorem gm_cancel {a c b : Nat} (ha : a < 256) (hc : c < 256) (hb : b < 256) (hb0 : b ≠ 0) (h : gm a b = gm c b) : a = c := by
  have h1 : ∀ x, x < 256 → gm (gm x b) (gd 1 b) = x := by
    intro x hx
    rw [gm_assoc, gm_comm b, gd_gm (by decide) hb hb0, gm_one hx]
  rw [← h1 a ha, h, h1 c hc]
theorem gm_gd {a b : Nat} (ha : a < 256) (hb : b < 256) (hb0 : b ≠ 0) : gd (gm a b) b = a :=
  gm_cancel (gd_lt _ _) ha hb hb0 (gd_gm (gm_lt _ _) hb hb0)

/-! ### The product of two polynomials, and its remainder. -/
def pr : Nat → Nat → Nat → Nat
  | 0, _, _ => 0
  | n + 1, a, b => pr n a b ^^^ (if b.testBit n then a * 2 ^ n else 0)
/-- The remainder: the bits k + 7, .., 8 are taken away. -/
def rd : Nat → Nat → Nat
  | 0, n => n
  | k + 1, n => rd k (if n.testBit (k + 8) then n ^^^ (285 * 2 ^ k) else n)
theorem rd_xor (k : Nat) : ∀ x y, rd k (x ^^^ y) = rd k x ^^^ rd k y := by
  induction k with
  | zero => intro x y; rfl
  | succ k ih =>
    intro x y
    show rd k _ = rd k _ ^^^ rd k _
    rw [← ih, Nat.testBit_xor]
    congr 1
    cases x.testBit (k + 8) <;> cases y.testBit (k + 8) <;> simp
    · rw [Nat.xor_assoc]
    · rw [Nat.xor_assoc, Nat.xor_comm y, ← Nat.xor_assoc]
    · rw [xor4, Nat.xor_self, Nat.xor_zero]
theorem rd_shift : ∀ a : Fin 256, ∀ n : Fin 8, rd 8 (a.val * 2 ^ n.val) = it n.val a.val := by decide +kernel
theorem rd_zero : rd 8 0 = 0 := by decide +kernel
theorem rd_pr (n : Nat) (hn : n ≤ 8) {a : Nat} (b : Nat) (ha : a < 256) : rd 8 (pr n a b) = mk n a b := by
  induction n with
  | zero => exact rd_zero
  | succ n ih =>
    show rd 8 (_ ^^^ _) = _ ^^^ _
    rw [rd_xor, ih (by omega)]
    congr 1
    split
    · exact rd_shift ⟨a, ha⟩ ⟨n, by omega⟩
    · exact rd_zero
theorem gm_rd {a b : Nat} (ha : a < 256) (hb : b < 256) : gm a b = rd 8 (pr 8 a b) := by rw [rd_pr 8 (by omega) b ha, gm_mk ha hb]
theorem pr_lt (n : Nat) (hn : n ≤ 8) {a : Nat} (b : Nat) (ha : a < 256) : pr n a b < 2 ^ 16 := by
  induction n with
  | zero => exact (by decide : 0 < 2 ^ 16)
  | succ n ih =>
    refine Nat.xor_lt_two_pow (ih (by omega)) ?_
    split
    · have : a * 2 ^ n ≤ 255 * 2 ^ 7 := Nat.mul_le_mul (by omega) (Nat.pow_le_pow_right (by decide) (by omega))
      omega
    · decide
end Go.Proofs.Ythblmkailhdhlaa.F
