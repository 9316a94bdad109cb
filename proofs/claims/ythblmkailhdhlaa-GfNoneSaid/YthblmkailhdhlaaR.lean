/- What the document's answers for the field (quartermasterref01, as printed) come to: the field of F, F2. -/
import Derived.Test.YthblmkailhdhlaaG3
import Derived.Test.YthblmkailhdhlaaF2
namespace Go.Proofs.Ythblmkailhdhlaa.R
open Go.RowKit Go.Proofs.Ythblmkailhdhlaa.F Go.Proofs.Ythblmkailhdhlaa.G

theorem w64 {x : Int} (h : -9223372036854775808 ≤ x) (h' : x ≤ 9223372036854775807) : wrap64 x = x := by unfold wrap64; omega

theorem bit_l0 (j : Nat) (hj : j < 64) : ∀ (d i a k : Nat), i + d = j → d < k → a < 4611686018427387904 →
    quartermasterref01_bit.l0 k (a : Int) (j : Int) (i : Int) = some ((a / 2 ^ d % 2 : Nat) : Int) := by
  intro d
  induction d with
  | zero =>
    intro i a k h hk ha
    obtain ⟨k, rfl⟩ : ∃ m, k = m + 1 := ⟨k - 1, by omega⟩
    simp only [quartermasterref01_bit.l0]
    rw [if_neg (by omega), Int.tmod_eq_emod_of_nonneg (by omega), Nat.pow_zero, Nat.div_one]
    rfl
  | succ d ih =>
    intro i a k h hk ha
    obtain ⟨k, rfl⟩ : ∃ m, k = m + 1 := ⟨k - 1, by omega⟩
    simp only [quartermasterref01_bit.l0]
    rw [if_pos (by omega), Int.tdiv_eq_ediv_of_nonneg (by omega)]
    have h1 : (a : Int) / 2 = ((a / 2 : Nat) : Int) := by omega
    rw [h1, w64 (by omega) (by omega), w64 (by omega) (by omega)]
    have h2 : (i : Int) + 1 = ((i + 1 : Nat) : Int) := by omega
    rw [h2, ih (i + 1) (a / 2) k (by omega) (by omega) (by omega), Nat.div_div_eq_div_mul, Nat.pow_succ, Nat.mul_comm (2 ^ d)]
theorem bit_f {a j k : Nat} (hj : j < 64) (hk : j < k) (ha : a < 4611686018427387904) : quartermasterref01_bit.f k (a : Int) (j : Int) = some (((a.testBit j).toNat : Nat) : Int) := by
  unfold quartermasterref01_bit.f
  have := bit_l0 j hj j 0 a k (by omega) hk ha
  rw [show ((0 : Nat) : Int) = 0 from rfl] at this
  rw [this, Nat.testBit_eq_decide_div_mod_eq]
  have : a / 2 ^ j % 2 < 2 := Nat.mod_lt _ (by decide)
  congr 2
  by_cases h : a / 2 ^ j % 2 = 1
  · rw [decide_eq_true h, h]; rfl
  · rw [decide_eq_false h, Bool.toNat_false]; omega

theorem power_l0 (j : Nat) (hj : j < 62) : ∀ (d i k : Nat), i + d = j → d < k →
    quartermasterref01_power.l0 k (j : Int) ((2 ^ i : Nat) : Int) (i : Int) = some ((2 ^ j : Nat) : Int) := by
  intro d
  induction d with
  | zero =>
    intro i k h hk
    obtain ⟨k, rfl⟩ : ∃ m, k = m + 1 := ⟨k - 1, by omega⟩
    simp only [quartermasterref01_power.l0]
    rw [if_neg (by omega), show i = j by omega]
  | succ d ih =>
    intro i k h hk
    obtain ⟨k, rfl⟩ : ∃ m, k = m + 1 := ⟨k - 1, by omega⟩
    simp only [quartermasterref01_power.l0]
    have hp : 2 ^ i ≤ 2 ^ 61 := Nat.pow_le_pow_right (by decide) (by omega)
    have hi := ih (i + 1) k (by omega) (by omega)
    rw [Nat.pow_succ] at hi
    generalize 2 ^ i = p at *
    rw [if_pos (by omega), w64 (by omega) (by omega), w64 (by omega) (by omega)]
    have h1 : (p : Int) * 2 = ((p * 2 : Nat) : Int) := by omega
    have h2 : (i : Int) + 1 = ((i + 1 : Nat) : Int) := by omega
    rw [h1, h2, hi]
theorem power_f {j k : Nat} (hj : j < 62) (hk : j < k) : quartermasterref01_power.f k (j : Int) = some ((2 ^ j : Nat) : Int) :=
  power_l0 j hj j 0 k (by omega) hk

theorem mod_step (a i : Nat) : a % 2 ^ (i + 1) = a % 2 ^ i + (if a.testBit i then 2 ^ i else 0) := by
  have h : a % (2 ^ i * 2) = a % 2 ^ i + 2 ^ i * (a / 2 ^ i % 2) := Nat.mod_mul
  rw [Nat.pow_succ, h, Nat.testBit_eq_decide_div_mod_eq]
  have : a / 2 ^ i % 2 < 2 := Nat.mod_lt _ (by decide)
  by_cases h1 : a / 2 ^ i % 2 = 1
  · rw [decide_eq_true h1, h1, if_pos rfl, Nat.mul_one]
  · rw [decide_eq_false h1, if_neg (by decide), show a / 2 ^ i % 2 = 0 by omega, Nat.mul_zero]

theorem sum_l0 (a b : Nat) (ha : a < 2 ^ 16) (hb : b < 2 ^ 16) : ∀ (d i k : Nat), i + d = 16 → 17 + d < k →
    quartermasterref01_sum.l0 k (a : Int) (b : Int) (((a ^^^ b) % 2 ^ i : Nat) : Int) (i : Int) = some ((a ^^^ b : Nat) : Int) := by
  intro d
  induction d with
  | zero =>
    intro i k h hk
    obtain ⟨k, rfl⟩ : ∃ m, k = m + 1 := ⟨k - 1, by omega⟩
    simp only [quartermasterref01_sum.l0]
    rw [if_neg (by omega), show i = 16 by omega, Nat.mod_eq_of_lt (Nat.xor_lt_two_pow ha hb)]
  | succ d ih =>
    intro i k h hk
    obtain ⟨k, rfl⟩ : ∃ m, k = m + 1 := ⟨k - 1, by omega⟩
    simp only [quartermasterref01_sum.l0]
    have hp : 2 ^ i ≤ 2 ^ 15 := Nat.pow_le_pow_right (by decide) (by omega)
    have hm : (a ^^^ b) % 2 ^ i < 2 ^ i := Nat.mod_lt _ (Nat.pow_pos (by decide))
    rw [if_pos (by omega), bit_f (by omega) (by omega) (by omega), bit_f (by omega) (by omega) (by omega), power_f (by omega) (by omega)]
    simp only [Option.bind_some]
    have h2 : (i : Int) + 1 = ((i + 1 : Nat) : Int) := by omega
    have hs := mod_step (a ^^^ b) i
    rw [Nat.testBit_xor] at hs
    have hi := ih (i + 1) k (by omega) (by omega)
    rw [hs] at hi
    rw [w64 (x := (i : Int) + 1) (by omega) (by omega), h2]
    have hw : ∀ x y : Nat, x < 2 ^ 16 → y < 2 ^ 16 → wrap64 ((x : Int) + (y : Int)) = ((x + y : Nat) : Int) := fun x y hx hy => by rw [w64 (by omega) (by omega)]; omega
    rw [hw _ _ (by omega) (by omega)]
    cases h3 : a.testBit i <;> cases h4 : b.testBit i <;> rw [h3, h4] at hi
    · rw [if_pos rfl]; exact hi
    · rw [if_neg (by decide)]; exact hi
    · rw [if_neg (by decide)]; exact hi
    · rw [if_pos rfl]; exact hi
theorem sum_f {a b k : Nat} (ha : a < 2 ^ 16) (hb : b < 2 ^ 16) (hk : 40 ≤ k) : quartermasterref01_sum.f k (a : Int) (b : Int) = some ((a ^^^ b : Nat) : Int) := by
  have := sum_l0 a b ha hb 16 0 k (by omega) (by omega)
  rw [Nat.pow_zero, Nat.mod_one] at this
  exact this

theorem mul_l1 : ∀ (d n k : Nat), d ≤ 8 → n < 2 ^ 16 → 50 + d < k →
    quartermasterref01_Mul.l1 k (n : Int) ((d : Int) + 7) = some (((F.rd d n) % 256 : Nat) : Int) := by
  intro d
  induction d with
  | zero =>
    intro n k hd hn hk
    obtain ⟨k, rfl⟩ : ∃ m, k = m + 1 := ⟨k - 1, by omega⟩
    simp only [quartermasterref01_Mul.l1]
    rw [if_neg (by omega)]
    rfl
  | succ d ih =>
    intro n k hd hn hk
    obtain ⟨k, rfl⟩ : ∃ m, k = m + 1 := ⟨k - 1, by omega⟩
    simp only [quartermasterref01_Mul.l1]
    have hp : 2 ^ d ≤ 2 ^ 7 := Nat.pow_le_pow_right (by decide) (by omega)
    have h1 : (((d + 1 : Nat) : Int) + 7) = ((d + 8 : Nat) : Int) := by omega
    have h2 : ((d + 8 : Nat) : Int) - 8 = (d : Int) := by omega
    have h3 : ((d + 8 : Nat) : Int) - 1 = (d : Int) + 7 := by omega
    rw [h1, if_pos (by omega), bit_f (by omega) (by omega) (by omega)]
    simp only [Option.bind_some]
    rw [h2, h3, w64 (x := (d : Int)) (by omega) (by omega), w64 (x := (d : Int) + 7) (by omega) (by omega), power_f (by omega) (by omega)]
    simp only [Option.bind_some]
    have h5 : (285 : Int) * ((2 ^ d : Nat) : Int) = ((285 * 2 ^ d : Nat) : Int) := by omega
    rw [w64 (by omega) (by omega), h5, sum_f hn (by omega) (by omega)]
    simp only [Option.bind_some]
    show _ = some (((F.rd d (if n.testBit (d + 8) then n ^^^ (285 * 2 ^ d) else n)) % 256 : Nat) : Int)
    cases h6 : n.testBit (d + 8)
    · rw [if_neg (by decide), if_neg (by decide)]
      exact ih n k (by omega) hn (by omega)
    · rw [if_pos (by decide), if_pos rfl]
      exact ih _ k (by omega) (Nat.xor_lt_two_pow hn (by omega)) (by omega)
theorem mul_l0 (a b : Nat) (ha : a < 256) (hb : b < 256) : ∀ (d i k : Nat), i + d = 8 → 60 + d < k →
    quartermasterref01_Mul.l0 k (a : Int) (b : Int) ((pr i a b : Nat) : Int) (i : Int) = some (((F.rd 8 (pr 8 a b)) % 256 : Nat) : Int) := by
  intro d
  induction d with
  | zero =>
    intro i k h hk
    obtain ⟨k, rfl⟩ : ∃ m, k = m + 1 := ⟨k - 1, by omega⟩
    simp only [quartermasterref01_Mul.l0]
    rw [if_neg (by omega), show i = 8 by omega]
    exact mul_l1 8 _ k (by omega) (pr_lt 8 (by omega) b ha) (by omega)
  | succ d ih =>
    intro i k h hk
    obtain ⟨k, rfl⟩ : ∃ m, k = m + 1 := ⟨k - 1, by omega⟩
    simp only [quartermasterref01_Mul.l0]
    have hp : 2 ^ i ≤ 2 ^ 7 := Nat.pow_le_pow_right (by decide) (by omega)
    have hq : a * 2 ^ i ≤ 255 * 2 ^ 7 := Nat.mul_le_mul (by omega) hp
    have hn := pr_lt i (by omega) b ha
    have h2 : (i : Int) + 1 = ((i + 1 : Nat) : Int) := by omega
    rw [if_pos (by omega), w64 (x := (b : Int)) (by omega) (by omega), w64 (x := (a : Int)) (by omega) (by omega), bit_f (by omega) (by omega) (by omega)]
    simp only [Option.bind_some]
    rw [w64 (x := (i : Int) + 1) (by omega) (by omega), h2, power_f (by omega) (by omega)]
    simp only [Option.bind_some]
    have h5 : (a : Int) * ((2 ^ i : Nat) : Int) = ((a * 2 ^ i : Nat) : Int) := by rw [Int.natCast_mul]
    rw [h5, w64 (by omega) (by omega), sum_f hn (by omega) (by omega)]
    simp only [Option.bind_some]
    have hi := ih (i + 1) k (by omega) (by omega)
    have hs : pr (i + 1) a b = pr i a b ^^^ (if b.testBit i then a * 2 ^ i else 0) := rfl
    rw [hs] at hi
    cases h6 : b.testBit i <;> rw [h6] at hi
    · rw [if_neg (by decide)]
      rw [if_neg (by decide), Nat.xor_zero] at hi
      exact hi
    · rw [if_pos (by decide)]
      rw [if_pos rfl] at hi
      exact hi
theorem mul_f {a b k : Nat} (ha : a < 256) (hb : b < 256) (hk : 70 ≤ k) : quartermasterref01_Mul.f k (a : Int) (b : Int) = some ((gm a b : Nat) : Int) := by
  have := mul_l0 a b ha hb 8 0 k (by omega) (by omega)
  rw [← gm_rd ha hb, Nat.mod_eq_of_lt (gm_lt a b)] at this
  exact this
theorem add_f {a b k : Nat} (ha : a < 256) (hb : b < 256) (hk : 70 ≤ k) : quartermasterref01_Add.f k (a : Int) (b : Int) = some ((a ^^^ b : Nat) : Int) := by
  unfold quartermasterref01_Add.f
  rw [w64 (by omega) (by omega), w64 (by omega) (by omega), sum_f (by omega) (by omega) (by omega)]
  simp only [Option.bind_some]
  have := xor_lt ha hb
  rw [show ((a ^^^ b : Nat) : Int) % 256 = ((a ^^^ b : Nat) : Int) by omega]

theorem div_l0 (a b : Nat) (ha : a < 256) (hb : b < 256) (hb0 : b ≠ 0) : ∀ (d i k : Nat), i + d = gd a b → 80 + d < k →
    quartermasterref01_Div.l0 k (a : Int) (b : Int) (i : Int) = some (((gd a b : Nat) : Int), 0) := by
  intro d
  have hg := gd_lt a b
  induction d with
  | zero =>
    intro i k h hk
    obtain ⟨k, rfl⟩ : ∃ m, k = m + 1 := ⟨k - 1, by omega⟩
    simp only [quartermasterref01_Div.l0]
    rw [if_pos (by omega), show (i : Int) % 256 = (i : Int) by omega, mul_f (by omega) hb (by omega)]
    simp only [Option.bind_some]
    rw [show i = gd a b by omega, gd_gm ha hb hb0, if_pos rfl]
  | succ d ih =>
    intro i k h hk
    obtain ⟨k, rfl⟩ : ∃ m, k = m + 1 := ⟨k - 1, by omega⟩
    simp only [quartermasterref01_Div.l0]
    rw [if_pos (by omega), show (i : Int) % 256 = (i : Int) by omega, mul_f (by omega) hb (by omega)]
    simp only [Option.bind_some]
    have hne : ¬ gm i b = a := by
      intro he
      have := gd_gm ha hb hb0
      have := gm_cancel (a := i) (c := gd a b) (by omega) hg hb hb0 (he.trans this.symm)
      omega
    rw [if_neg (by omega), w64 (by omega) (by omega)]
    exact ih (i + 1) k (by omega) (by omega)
theorem div_f {a b k : Nat} (ha : a < 256) (hb : b < 256) (hk : 400 ≤ k) : quartermasterref01_Div.f k (a : Int) (b : Int) = some (if b = 0 then (0, 8) else (((gd a b : Nat) : Int), 0)) := by
  unfold quartermasterref01_Div.f
  by_cases h : b = 0
  · rw [if_pos (by omega), if_pos h]
  · rw [if_neg (by omega), if_neg h]
    have hg := gd_lt a b
    exact div_l0 a b ha hb h (gd a b) 0 k (by omega) (by omega)

theorem log_l0 (a : Nat) (ha : a < 256) (ha0 : a ≠ 0) : ∀ (d i k : Nat), i + d = lg a → 80 + d < k →
    quartermasterref01_Log.l0 k (a : Int) ((pw i : Nat) : Int) (i : Int) = some (((lg a : Nat) : Int), 0) := by
  intro d
  have hl := lg_lt ha ha0
  induction d with
  | zero =>
    intro i k h hk
    obtain ⟨k, rfl⟩ : ∃ m, k = m + 1 := ⟨k - 1, by omega⟩
    simp only [quartermasterref01_Log.l0]
    rw [if_pos (by omega), show i = lg a by omega, pw_lg ha ha0, if_pos rfl]
  | succ d ih =>
    intro i k h hk
    obtain ⟨k, rfl⟩ : ∃ m, k = m + 1 := ⟨k - 1, by omega⟩
    simp only [quartermasterref01_Log.l0]
    have hne : ¬ pw i = a := by
      intro he
      have := congrArg lg he
      rw [lg_pw, Nat.mod_eq_of_lt (by omega)] at this
      omega
    have hm := mul_f (pw_lt i) (show 2 < 256 by decide) (show 70 ≤ k by omega)
    rw [show ((2 : Nat) : Int) = 2 from rfl] at hm
    have h2 : gm (pw i) 2 = pw (i + 1) := by
      rw [show (2 : Nat) = pw 1 from rfl, gm_eq (pw_ne' _) (pw_ne' _), lg_pw, lg_pw, pw_add_mod]
    rw [if_pos (by omega), if_neg (by omega), hm]
    simp only [Option.bind_some]
    rw [w64 (by omega) (by omega), h2]
    exact ih (i + 1) k (by omega) (by omega)
theorem log_none : ∀ (d i k : Nat), i + d = 255 → 80 + d < k →
    quartermasterref01_Log.l0 k 0 ((pw i : Nat) : Int) (i : Int) = some (0, 8) := by
  intro d
  induction d with
  | zero =>
    intro i k h hk
    obtain ⟨k, rfl⟩ : ∃ m, k = m + 1 := ⟨k - 1, by omega⟩
    simp only [quartermasterref01_Log.l0]
    rw [if_neg (by omega)]
  | succ d ih =>
    intro i k h hk
    obtain ⟨k, rfl⟩ : ∃ m, k = m + 1 := ⟨k - 1, by omega⟩
    simp only [quartermasterref01_Log.l0]
    have hne := pw_ne' i
    have hm := mul_f (pw_lt i) (show 2 < 256 by decide) (show 70 ≤ k by omega)
    rw [show ((2 : Nat) : Int) = 2 from rfl] at hm
    have h2 : gm (pw i) 2 = pw (i + 1) := by
      rw [show (2 : Nat) = pw 1 from rfl, gm_eq (pw_ne' _) (pw_ne' _), lg_pw, lg_pw, pw_add_mod]
    rw [if_pos (by omega), if_neg (by omega), hm]
    simp only [Option.bind_some]
    rw [w64 (by omega) (by omega), h2]
    exact ih (i + 1) k (by omega) (by omega)
theorem log_f {a k : Nat} (ha : a < 256) (hk : 400 ≤ k) : quartermasterref01_Log.f k (a : Int) = some (if a = 0 then (0, 8) else (((lg a : Nat) : Int), 0)) := by
  unfold quartermasterref01_Log.f
  by_cases h : a = 0
  · subst h
    exact log_none 255 0 k (by omega) (by omega)
  · rw [if_neg h]
    have hl := lg_lt ha h
    exact log_l0 a ha h (lg a) 0 k (by omega) (by omega)

theorem exp_l0 (n : Nat) (hn : n < 255) : ∀ (d i k : Nat), i + d = n → 80 + d < k →
    quartermasterref01_Exp.l0 k (n : Int) ((pw i : Nat) : Int) (i : Int) = some ((pw n : Nat) : Int) := by
  intro d
  induction d with
  | zero =>
    intro i k h hk
    obtain ⟨k, rfl⟩ : ∃ m, k = m + 1 := ⟨k - 1, by omega⟩
    simp only [quartermasterref01_Exp.l0]
    rw [if_neg (by omega), show i = n by omega]
  | succ d ih =>
    intro i k h hk
    obtain ⟨k, rfl⟩ : ∃ m, k = m + 1 := ⟨k - 1, by omega⟩
    simp only [quartermasterref01_Exp.l0]
    have hm := mul_f (pw_lt i) (show 2 < 256 by decide) (show 70 ≤ k by omega)
    rw [show ((2 : Nat) : Int) = 2 from rfl] at hm
    have h2 : gm (pw i) 2 = pw (i + 1) := by
      rw [show (2 : Nat) = pw 1 from rfl, gm_eq (pw_ne' _) (pw_ne' _), lg_pw, lg_pw, pw_add_mod]
    rw [if_pos (by omega), hm]
    simp only [Option.bind_some]
    rw [w64 (by omega) (by omega), h2]
    exact ih (i + 1) k (by omega) (by omega)
theorem exp_f {m : Nat} {n : Int} {k : Nat} (hm : m < 255) (h : (if n.tmod 255 < 0 then n.tmod 255 + 255 else n.tmod 255) = (m : Int)) (hk : 400 ≤ k) : quartermasterref01_Exp.f k n = some ((pw m : Nat) : Int) := by
  unfold quartermasterref01_Exp.f
  have hx := exp_l0 m hm m 0 (k - 1) (by omega) (by omega)
  obtain ⟨k, rfl⟩ : ∃ m, k = m + 1 := ⟨k - 1, by omega⟩
  rw [show k + 1 - 1 = k by omega] at hx
  have hlo : -255 < n.tmod 255 := by
    have := Int.lt_tmod_of_pos n (show (0 : Int) < 255 by decide)
    omega
  by_cases h1 : n.tmod 255 < 0
  · rw [if_pos h1] at h ⊢
    simp only [quartermasterref01_Exp.j0]
    rw [h, w64 (by omega) (by omega)]
    exact hx
  · rw [if_neg h1] at h ⊢
    simp only [quartermasterref01_Exp.j0]
    rw [h]
    exact hx
end Go.Proofs.Ythblmkailhdhlaa.R
