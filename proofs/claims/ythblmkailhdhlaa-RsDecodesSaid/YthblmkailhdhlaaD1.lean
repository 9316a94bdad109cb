import Derived.Test.YthblmkailhdhlaaProg
import Derived.Below
import Derived.Deep.Draws
import Derived.Deep.AppendLies
import Derived.Maps.AppendAt
import Derived.OwnWalk
import Derived.Laws.BytesArg
import Derived.Laws.MakeOwn
import Derived.Laws.OwnMore
import Derived.Deep.OwnRows
import Derived.Tactics
import Derived.Lib.ConvBytes
import Derived.Laws.Slices
import Derived.WalkKit
import Derived.KernelRfl
import Derived.RowKit3
import Derived.Deep.LoopGhost
import Derived.Deep.QuietTactic
import Derived.BigQuiet
import Derived.WideLaws
import Derived.Deep.DeepCutAuto
import Derived.Deep.CutBlock
import Derived.Deep.RegionHeld3
import Derived.Laws.Rows
import Derived.Lib.AppendStr
import Derived.ArgAppend
import Derived.Laws.IdiomCopy
import Derived.OrdersHeld
import Derived.Laws.BitsLemmas
import Derived.RowKit
import Derived.Test.YthblmkailhdhlaaWWords
import Derived.Test.YthblmkailhdhlaaWLast
import Derived.Test.YthblmkailhdhlaaWTab
import Derived.Test.YthblmkailhdhlaaWQPut
import Derived.Test.YthblmkailhdhlaaWApart
import Derived.Test.YthblmkailhdhlaaWArr
import Derived.Test.YthblmkailhdhlaaWZeros
import Derived.Test.YthblmkailhdhlaaWFoot
import Derived.Test.YthblmkailhdhlaaWKept
import Derived.Test.YthblmkailhdhlaaWShare
import Derived.Test.YthblmkailhdhlaaWN
import Derived.Test.YthblmkailhdhlaaWRepsOne
import Derived.Test.YthblmkailhdhlaaWGuard
import Derived.Test.YthblmkailhdhlaaWNEv
import Derived.Test.YthblmkailhdhlaaWMore
import Derived.WalkSpells
import Derived.WalkLawsBesides
import Derived.Laws.BitsAllLaws
import Derived.Lib.Hide
import Derived.WalkSmall
/- The field of 256 numbers, in plain Lean: powers of two, logarithms, the product. -/
namespace Go.Proofs.Ythblmkailhdhlaa.F
/-- Times two. -/
def xt (a : Nat) : Nat := if 2 * a > 255 then (2 * a) ^^^ 285 else 2 * a
/-- Two's powers. -/
def pw : Nat → Nat
  | 0 => 1
  | n + 1 => xt (pw n)
theorem xt_lt {a : Nat} (h : a < 256) : xt a < 256 := by
  unfold xt
  split
  · have h1 : ∀ a : Fin 256, 2 * a.val > 255 → (2 * a.val) ^^^ 285 < 256 := by decide +kernel
    exact h1 ⟨a, h⟩ (by assumption)
  · omega
theorem pw_lt (n : Nat) : pw n < 256 := by
  induction n with
  | zero => decide
  | succ n ih => exact xt_lt ih
/-- What stands at a number's place among the powers, n of which have been laid. -/
def eAt (n i : Nat) : Nat := if i < n then pw i else if 255 ≤ i ∧ i < 255 + n then pw (i - 255) else 0
/-- Which power a number is, n of which have been laid. -/
def lAt : Nat → Nat → Nat
  | 0, _ => 0
  | n + 1, v => if v = pw n then n else lAt n v
theorem eAt_succ (n i : Nat) (hn : n < 255) (hi : i < 510) : eAt (n + 1) i = if i = n + 255 then pw n else if i = n then pw n else eAt n i := by
  unfold eAt
  by_cases h1 : i = n
  · subst h1; rw [if_pos (by omega), if_neg (by omega), if_pos rfl]
  · by_cases h2 : i = n + 255
    · subst h2; rw [if_neg (by omega), if_pos (by omega), if_pos rfl, show n + 255 - 255 = n by omega]
    · rw [if_neg h2, if_neg h1]
      by_cases h3 : i < n
      · rw [if_pos h3, if_pos (by omega)]
      · rw [if_neg h3, if_neg (by omega)]
        by_cases h4 : 255 ≤ i ∧ i < 255 + n
        · rw [if_pos h4, if_pos (by omega)]
        · rw [if_neg h4, if_neg (by omega)]
/-- The powers, one behind the other. -/
def pws : Nat → Nat → List Nat
  | 0, _ => []
  | k + 1, a => a :: pws k (xt a)
theorem pws_get (k : Nat) : ∀ (m i : Nat), i < k → (pws k (pw m))[i]? = some (pw (m + i)) := by
  induction k with
  | zero => intro m i h; omega
  | succ k ih =>
    intro m i h
    cases i with
    | zero => rfl
    | succ i =>
      show (pws k (xt (pw m)))[i]? = _
      rw [show xt (pw m) = pw (m + 1) from rfl, ih (m + 1) i (by omega), show m + 1 + i = m + (i + 1) by omega]
theorem lAt_spec (v : Nat) : ∀ n, (∃ i, i < n ∧ pw i = v) → lAt n v < n ∧ pw (lAt n v) = v
  | 0, ⟨i, h, _⟩ => by omega
  | n + 1, ⟨i, h, e⟩ => by
    unfold lAt
    by_cases hv : v = pw n
    · rw [if_pos hv]; exact ⟨by omega, hv.symm⟩
    · rw [if_neg hv]
      have hi : i ≠ n := fun h' => hv (by rw [← e, h'])
      obtain ⟨h1, h2⟩ := lAt_spec v n ⟨i, by omega, e⟩
      exact ⟨by omega, h2⟩
theorem pws_mem : ∀ v : Fin 256, v.val ≠ 0 → v.val ∈ pws 255 1 := by decide +kernel
theorem pws_pos : ∀ x ∈ pws 255 1, x ≠ 0 := by decide +kernel
theorem pws_nodup : (pws 255 1).Nodup := by decide +kernel
theorem pws_len (k : Nat) : ∀ a, (pws k a).length = k := by
  induction k with
  | zero => intro a; rfl
  | succ k ih => intro a; simp [pws, ih]
theorem pw_onto {v : Nat} (h : v < 256) (h0 : v ≠ 0) : ∃ i, i < 255 ∧ pw i = v := by
  have := pws_mem ⟨v, h⟩ h0
  obtain ⟨i, hi, e⟩ := List.getElem_of_mem this
  rw [pws_len] at hi
  refine ⟨i, hi, ?_⟩
  have h1 := pws_get 255 0 i hi
  rw [show pw 0 = 1 from rfl, Nat.zero_add, List.getElem?_eq_getElem (by rw [pws_len]; exact hi)] at h1
  injection h1 with h1
  rw [← h1]; exact e
theorem pw_ne {i : Nat} (h : i < 255) : pw i ≠ 0 := by
  have h1 := pws_get 255 0 i h
  rw [show pw 0 = 1 from rfl, Nat.zero_add] at h1
  exact pws_pos _ (List.mem_of_getElem? h1)
theorem pw_inj {i j : Nat} (hi : i < 255) (hj : j < 255) (h : pw i = pw j) : i = j := by
  have h1 := pws_get 255 0 i hi
  have h2 := pws_get 255 0 j hj
  rw [show pw 0 = 1 from rfl, Nat.zero_add] at h1 h2
  rw [← h] at h2
  obtain ⟨a1, b1⟩ := List.getElem?_eq_some_iff.1 h1
  obtain ⟨a2, b2⟩ := List.getElem?_eq_some_iff.1 h2
  exact (List.getElem_inj pws_nodup).1 (b1.trans b2.symm)
theorem pw_255 : pw 255 = 1 := by
  have h : ∀ k m, pw (m + k) = (Nat.repeat xt k (pw m)) := by
    intro k
    induction k with
    | zero => intro m; rfl
    | succ k ih => intro m; show xt (pw (m + k)) = xt _; rw [ih]
  rw [show (255 : Nat) = 0 + 255 by rfl, h]
  decide +kernel
theorem pw_add_255 (n : Nat) : pw (n + 255) = pw n := by
  induction n with
  | zero => exact pw_255
  | succ n ih => rw [show n + 1 + 255 = (n + 255) + 1 by omega]; show xt _ = xt _; rw [ih]
theorem pw_mod (n : Nat) : pw (n % 255) = pw n := by
  have h : ∀ q r, pw (r + 255 * q) = pw r := by
    intro q
    induction q with
    | zero => intro r; rfl
    | succ q ih => intro r; rw [show r + 255 * (q + 1) = (r + 255 * q) + 255 by omega, pw_add_255, ih]
  have := h (n / 255) (n % 255)
  rw [Nat.mod_add_div] at this
  exact this.symm
/-- Which power a number is. -/
def lg (v : Nat) : Nat := lAt 255 v
theorem lg_lt {v : Nat} (h : v < 256) (h0 : v ≠ 0) : lg v < 255 := (lAt_spec v 255 (pw_onto h h0)).1
theorem pw_lg {v : Nat} (h : v < 256) (h0 : v ≠ 0) : pw (lg v) = v := (lAt_spec v 255 (pw_onto h h0)).2
theorem lg_pw (i : Nat) : lg (pw i) = i % 255 := by
  have h : pw i ≠ 0 := by rw [← pw_mod]; exact pw_ne (Nat.mod_lt _ (by omega))
  refine pw_inj (lg_lt (pw_lt i) h) (Nat.mod_lt _ (by omega)) ?_
  rw [pw_lg (pw_lt i) h, pw_mod]
theorem eAt_255 {i : Nat} (h : i < 510) : eAt 255 i = pw i := by
  unfold eAt
  by_cases h1 : i < 255
  · rw [if_pos h1]
  · rw [if_neg h1, if_pos (by omega), ← pw_add_255, show i - 255 + 255 = i by omega]
/-- The product. -/
def gm (a b : Nat) : Nat := if a = 0 ∨ b = 0 then 0 else pw (lg a + lg b)
/-- The quotient. -/
def gd (a b : Nat) : Nat := if a = 0 ∨ b = 0 then 0 else pw (lg a + 255 - lg b)
end Go.Proofs.Ythblmkailhdhlaa.F
/- The field of 256 numbers, in plain Lean: sums and products may be taken in any order, and are spread over one another; the product of polynomials and its remainder. -/
namespace Go.Proofs.Ythblmkailhdhlaa.F
theorem xor_lt {a b : Nat} (ha : a < 256) (hb : b < 256) : a ^^^ b < 256 := Nat.xor_lt_two_pow (n := 8) ha hb
theorem xt_eq (a : Nat) : xt a = (2 * a) ^^^ (if 127 < a then 285 else 0) := by
  unfold xt
  by_cases h : 127 < a
  · rw [if_pos h, if_pos (by omega)]
  · rw [if_neg h, if_neg (by omega), Nat.xor_zero]
theorem big_xor : ∀ x y : Fin 256, (if 127 < x.val ^^^ y.val then 285 else 0) = (if 127 < x.val then 285 else 0) ^^^ (if 127 < y.val then 285 else 0) := by decide +kernel
theorem two_xor (x y : Nat) : 2 * (x ^^^ y) = (2 * x) ^^^ (2 * y) := by
  have := Nat.shiftLeft_xor_distrib (a := x) (b := y) (i := 1)
  simp only [Nat.shiftLeft_eq, Nat.pow_one] at this
  rw [Nat.mul_comm 2, Nat.mul_comm 2, Nat.mul_comm 2]; exact this
theorem xor4 (a b c d : Nat) : (a ^^^ b) ^^^ (c ^^^ d) = (a ^^^ c) ^^^ (b ^^^ d) := by
  simp only [Nat.xor_assoc]
  congr 1
  rw [← Nat.xor_assoc, Nat.xor_comm b c, Nat.xor_assoc]
theorem xt_xor {x y : Nat} (hx : x < 256) (hy : y < 256) : xt (x ^^^ y) = xt x ^^^ xt y := by
  rw [xt_eq, xt_eq, xt_eq, big_xor ⟨x, hx⟩ ⟨y, hy⟩, two_xor, xor4]
/-- Times two, so many times. -/
def it : Nat → Nat → Nat
  | 0, a => a
  | n + 1, a => xt (it n a)
theorem it_lt (n : Nat) {a : Nat} (h : a < 256) : it n a < 256 := by
  induction n with
  | zero => exact h
  | succ n ih => exact xt_lt ih
theorem it_xt (n a : Nat) : it n (xt a) = xt (it n a) := by
  induction n with
  | zero => rfl
  | succ n ih => show xt _ = xt _; rw [ih]; rfl
theorem it_zero (n : Nat) : it n 0 = 0 := by
  induction n with
  | zero => rfl
  | succ n ih => show xt _ = 0; rw [ih]; rfl
theorem it_pw (i j : Nat) : it i (pw j) = pw (j + i) := by
  induction i with
  | zero => rfl
  | succ n ih => show xt _ = xt (pw (j + n)); rw [ih]
/-- The product, bit by bit: of the first n bits. -/
def mk : Nat → Nat → Nat → Nat
  | 0, _, _ => 0
  | n + 1, a, b => mk n a b ^^^ (if b.testBit n then it n a else 0)
theorem mk_lt (n : Nat) {a b : Nat} (h : a < 256) : mk n a b < 256 := by
  induction n with
  | zero => exact (by decide : 0 < 256)
  | succ n ih =>
    refine xor_lt ih ?_
    split
    · exact it_lt _ h
    · decide
theorem mk_xor_right (n a x y : Nat) : mk n a (x ^^^ y) = mk n a x ^^^ mk n a y := by
  induction n with
  | zero => exact (Nat.xor_self 0).symm
  | succ n ih =>
    show _ ^^^ _ = (_ ^^^ _) ^^^ (_ ^^^ _)
    rw [ih, xor4, Nat.testBit_xor]
    congr 1
    cases x.testBit n <;> cases y.testBit n <;> simp
theorem mk_xt (n a b : Nat) (h : a < 256) : mk n (xt a) b = xt (mk n a b) := by
  induction n with
  | zero => rfl
  | succ n ih =>
    show _ ^^^ _ = xt (_ ^^^ _)
    have h1 : (if b.testBit n then it n a else 0) < 256 := by
      split
      · exact it_lt n h
      · decide
    rw [xt_xor (mk_lt n h) h1, ih]
    congr 1
    split
    · exact it_xt n a
    · rfl
theorem mk_one : ∀ b : Fin 256, mk 8 1 b.val = b.val := by decide +kernel
theorem mk_pw (i : Nat) {b : Nat} (h : b < 256) : mk 8 (pw i) b = it i b := by
  induction i with
  | zero => exact mk_one ⟨b, h⟩
  | succ n ih => show mk 8 (xt (pw n)) b = xt _; rw [mk_xt _ _ _ (pw_lt n), ih]
theorem mk_zero_left (n b : Nat) : mk n 0 b = 0 := by
  induction n with
  | zero => rfl
  | succ n ih => show _ ^^^ _ = 0; rw [ih, it_zero]; simp
theorem mk_zero_right (n a : Nat) : mk n a 0 = 0 := by
  induction n with
  | zero => rfl
  | succ n ih => show _ ^^^ _ = 0; rw [ih]; simp
theorem gm_mk {a b : Nat} (ha : a < 256) (hb : b < 256) : gm a b = mk 8 a b := by
  unfold gm
  by_cases h : a = 0 ∨ b = 0
  · rw [if_pos h]
    rcases h with rfl | rfl
    · rw [mk_zero_left]
    · rw [mk_zero_right]
  · rw [if_neg h]
    have h1 := mk_pw (lg a) hb
    rw [pw_lg ha (by omega)] at h1
    rw [h1]
    have h2 := it_pw (lg a) (lg b)
    rw [pw_lg hb (by omega)] at h2
    rw [h2, Nat.add_comm]
/-! ### It is a field. -/
theorem gm_lt (a b : Nat) : gm a b < 256 := by
  unfold gm
  split
  · decide
  · exact pw_lt _
theorem gm_comm (a b : Nat) : gm a b = gm b a := by
  unfold gm
  rw [Nat.add_comm]
  by_cases h : a = 0 ∨ b = 0
  · rw [if_pos h, if_pos h.symm]
  · rw [if_neg h, if_neg (fun h' => h h'.symm)]
theorem gm_zero (a : Nat) : gm a 0 = 0 := if_pos (.inr rfl)
theorem zero_gm (a : Nat) : gm 0 a = 0 := if_pos (.inl rfl)
theorem pw_ne' (i : Nat) : pw i ≠ 0 := by rw [← pw_mod]; exact pw_ne (Nat.mod_lt _ (by omega))
theorem gm_ne {a b : Nat} (ha : a ≠ 0) (hb : b ≠ 0) : gm a b ≠ 0 := by
  unfold gm
  rw [if_neg (by omega)]
  exact pw_ne' _
theorem gm_eq {a b : Nat} (ha : a ≠ 0) (hb : b ≠ 0) : gm a b = pw (lg a + lg b) := if_neg (by omega)
theorem pw_add_mod (i j : Nat) : pw (i % 255 + j) = pw (i + j) := by
  rw [← pw_mod (i % 255 + j), ← pw_mod (i + j), Nat.mod_add_mod]
theorem gm_assoc {a b c : Nat} : gm (gm a b) c = gm a (gm b c) := by
  by_cases ha : a = 0
  · subst ha; simp only [zero_gm]
  · by_cases hb : b = 0
    · subst hb; simp only [zero_gm, gm_zero]
    · by_cases hc : c = 0
      · subst hc; simp only [gm_zero]
      · rw [gm_eq (gm_ne ha hb) hc, gm_eq ha (gm_ne hb hc), gm_eq ha hb, gm_eq hb hc, lg_pw, lg_pw, pw_add_mod, Nat.add_comm (lg a) ((lg b + lg c) % 255), pw_add_mod]
        congr 1
        omega
theorem gm_one {a : Nat} (ha : a < 256) : gm a 1 = a := by
  rw [gm_comm, gm_mk (by decide) ha]
  exact mk_one ⟨a, ha⟩
theorem one_gm {a : Nat} (ha : a < 256) : gm 1 a = a := by rw [gm_comm]; exact gm_one ha
theorem gm_xor {a x y : Nat} (ha : a < 256) (hx : x < 256) (hy : y < 256) : gm a (x ^^^ y) = gm a x ^^^ gm a y := by
  rw [gm_mk ha hx, gm_mk ha hy, gm_mk ha (xor_lt hx hy), mk_xor_right]
theorem xor_gm {a x y : Nat} (ha : a < 256) (hx : x < 256) (hy : y < 256) : gm (x ^^^ y) a = gm x a ^^^ gm y a := by
  rw [gm_comm, gm_xor ha hx hy, gm_comm a x, gm_comm a y]
theorem gd_lt (a b : Nat) : gd a b < 256 := by
  unfold gd
  split
  · decide
  · exact pw_lt _
/-- What is divided may be multiplied again. -/
theorem gd_gm {a b : Nat} (ha : a < 256) (hb : b < 256) (hb0 : b ≠ 0) : gm (gd a b) b = a := by
  by_cases h : a = 0
  · subst h; rw [show gd 0 b = 0 from if_pos (.inl rfl), zero_gm]
  · have hg : gd a b = pw (lg a + 255 - lg b) := if_neg (by omega)
    have hb' := lg_lt hb hb0
    rw [gm_eq (by rw [hg]; exact pw_ne' _) hb0, hg, lg_pw, pw_add_mod, show lg a + 255 - lg b + lg b = lg a + 255 by omega, pw_add_255, pw_lg ha h]
/-- What is multiplied may be divided again. -/
theorem gm_cancel {a c b : Nat} (ha : a < 256) (hc : c < 256) (hb : b < 256) (hb0 : b ≠ 0) (h : gm a b = gm c b) : a = c := by
  have h1 : ∀ x, x < 256 → gm (gm x b) (gd 1 b) = x := by
    intro x hx
    rw [gm_assoc, gm_comm b, gd_gm (by decide) hb hb0, gm_one hx]
  rw [← h1 a ha, h, h1 c hc]
theorem gm_gd {a b : Nat} (ha : a < 256) (hb : b < 256) (hb0 : b ≠ 0) : gd (gm a b) b = a :=
  gm_cancel (gd_lt _ _) ha hb hb0 (gd_gm (gm_lt _ _) hb hb0)
/-! ### The product of two polynomials, and its remainder. -/
def pr : Nat → Nat → Nat → Nat
  | 0, _, _ => 0
  | n + 1, a, b => pr n a b ^^^ (if b.testBit n then a * 2 ^ n else 0)
/-- The remainder: the bits k + 7, .., 8 are taken away. -/
def rd : Nat → Nat → Nat
  | 0, n => n
  | k + 1, n => rd k (if n.testBit (k + 8) then n ^^^ (285 * 2 ^ k) else n)
theorem rd_xor (k : Nat) : ∀ x y, rd k (x ^^^ y) = rd k x ^^^ rd k y := by
  induction k with
  | zero => intro x y; rfl
  | succ k ih =>
    intro x y
    show rd k _ = rd k _ ^^^ rd k _
    rw [← ih, Nat.testBit_xor]
    congr 1
    cases x.testBit (k + 8) <;> cases y.testBit (k + 8) <;> simp
    · rw [Nat.xor_assoc]
    · rw [Nat.xor_assoc, Nat.xor_comm y, ← Nat.xor_assoc]
    · rw [xor4, Nat.xor_self, Nat.xor_zero]
theorem rd_shift : ∀ a : Fin 256, ∀ n : Fin 8, rd 8 (a.val * 2 ^ n.val) = it n.val a.val := by decide +kernel
theorem rd_zero : rd 8 0 = 0 := by decide +kernel
theorem rd_pr (n : Nat) (hn : n ≤ 8) {a : Nat} (b : Nat) (ha : a < 256) : rd 8 (pr n a b) = mk n a b := by
  induction n with
  | zero => exact rd_zero
  | succ n ih =>
    show rd 8 (_ ^^^ _) = _ ^^^ _
    rw [rd_xor, ih (by omega)]
    congr 1
    split
    · exact rd_shift ⟨a, ha⟩ ⟨n, by omega⟩
    · exact rd_zero
theorem gm_rd {a b : Nat} (ha : a < 256) (hb : b < 256) : gm a b = rd 8 (pr 8 a b) := by rw [rd_pr 8 (by omega) b ha, gm_mk ha hb]
theorem pr_lt (n : Nat) (hn : n ≤ 8) {a : Nat} (b : Nat) (ha : a < 256) : pr n a b < 2 ^ 16 := by
  induction n with
  | zero => exact (by decide : 0 < 2 ^ 16)
  | succ n ih =>
    refine Nat.xor_lt_two_pow (ih (by omega)) ?_
    split
    · have : a * 2 ^ n ≤ 255 * 2 ^ 7 := Nat.mul_le_mul (by omega) (Nat.pow_le_pow_right (by decide) (by omega))
      omega
    · decide
end Go.Proofs.Ythblmkailhdhlaa.F
-- PRINTED by print.py (a twelfth state) out of the translation. Not trusted: Lean checks it.
namespace Go.Proofs.Ythblmkailhdhlaa.G
open Go.RowKit Go.Proofs.YthblmkailhdhlaaW.PrintWords Go.Proofs.YthblmkailhdhlaaW.PrintLast Go.Proofs.YthblmkailhdhlaaW.PrintMore
attribute [local go_sem] max2_int min2_int max_two min_two max_three min_three max_four min_four   -- for this text's walks alone
set_option linter.unusedVariables false
set_option linter.unusedSimpArgs false
-- the values' own types
end Go.Proofs.Ythblmkailhdhlaa.G
-- PRINTED by print.py (a twelfth state) out of the translation. Not trusted: Lean checks it.
namespace Go.Proofs.Ythblmkailhdhlaa.G
open Go.RowKit Go.Proofs.YthblmkailhdhlaaW.PrintWords Go.Proofs.YthblmkailhdhlaaW.PrintLast Go.Proofs.YthblmkailhdhlaaW.PrintMore
attribute [local go_sem] max2_int min2_int max_two min_two max_three min_three max_four min_four   -- for this text's walks alone
set_option linter.unusedVariables false
set_option linter.unusedSimpArgs false
-- NOT PRINTED: function 57 (gf_powers)
-- NOT PRINTED: function 24 (gf_New)
-- NOT PRINTED: function 59 (gf_Field_tables)
-- NOT PRINTED: function 25 (gf_Field_Div)
-- NOT PRINTED: function 27 (gf_Field_Inv)
-- NOT PRINTED: function 28 (gf_Field_Log)
-- NOT PRINTED: function 30 (gf_Field_Exp)
-- NOT PRINTED: function 32 (gf_Field_Mul)
-- NOT PRINTED: function 23 (quartermasterlaw01_awake)
/-! ### quartermasterref01_bit: function 60 -/
def quartermasterref01_bit.l0 : Nat → Int → Int → Int → Option (Int)
  | 0, _, _, _ => none
  | k + 1, x0, x1, x5 => if x5 < x1 then (quartermasterref01_bit.l0 k (wrap64 (Int.tdiv x0 2)) x1 (wrap64 (x5 + 1))) else (some (Int.tmod x0 2))
def quartermasterref01_bit.f (k : Nat) (a0 : Int) (a1 : Int) : Option (Int) := quartermasterref01_bit.l0 k a0 a1 0
set_option maxHeartbeats 8000000 in
set_option maxRecDepth 100000 in
theorem quartermasterref01_bit.calls (k : Nat) (a0 : Int) (a1 : Int) (r : Int) (w : World) (h : quartermasterref01_bit.f k a0 a1 = some r) :
    Calls Try.prog 60 #[.int .i64 a0, .int .i64 a1] w fun e w' => e = .returned (.int .i64 r) ∧ Drawn0 w w' := by
  have H : (quartermasterref01_bit.l0 k a0 a1 0) = some r := h
  clear h
  have H' := Aside0.mk H
  clear H
  go_enter Try.func60, Try.ntmps60
  go_wp2
  go_loopg [0, 5] k (fun kq v0 v5 w' => ∃ (x0_1 : Int) (x5_1 : Int), v0 = .int .i64 x0_1 ∧ v5 = .int .i64 x5_1 ∧ Aside0 (quartermasterref01_bit.l0 kq x0_1 a1 x5_1 = some r) ∧ Aside0 (kq ≤ k) ∧ Drawn0 w w')
  case atStart => exact ⟨(a0), (0), (by first | rfl | (simp; done) | (simp [*]; done)), (by first | rfl | (simp; done) | (simp [*]; done)), H', ⟨Nat.le_refl _⟩, by repeat (first | exact Drawn0.refl _ | apply Drawn0.step)⟩
  case round =>
    clear H'
    try clear p2
    obtain ⟨x0_1, x5_1, rfl, rfl, HA, HK1, ⟨m1, rfl⟩⟩ := hrel
    cases gk with
    | zero => exact absurd HA.out (by simp [quartermasterref01_bit.l0])
    | succ k1 =>
      have H := HA.out
      clear HA
      simp only [quartermasterref01_bit.l0] at H
      by_cases c3 : x5_1 < a1
      · rw [if_pos c3] at H
        have c3b0 : decide (x5_1 < a1) = true := decide_eq_true c3
        clear c3
        have H' := Aside0.mk H
        clear H
        go_wp2
        go_roundg k1
        case measure => have := HK1.out; omega
        case rel => exact ⟨(wrap64 (Int.tdiv x0_1 2)), (wrap64 (x5_1 + 1)), (by first | rfl | (simp; done) | (simp [*]; done)), (by first | rfl | (simp; done) | (simp [*]; done)), H', ⟨by have := HK1.out; omega⟩, by repeat (first | exact Drawn0.refl _ | apply Drawn0.step)⟩
      · rw [if_neg c3] at H
        have c3b0 : decide (x5_1 < a1) = false := decide_eq_false c3
        clear c3
        obtain rfl := Option.some.inj H
        go_wp2
        go_ret
        exact ⟨by first | rfl | (simp; done) | (simp [*]; done), by repeat (first | exact Drawn0.refl _ | apply Drawn0.step)⟩
/-! ### quartermasterref01_power: function 62 -/
def quartermasterref01_power.l0 : Nat → Int → Int → Int → Option (Int)
  | 0, _, _, _ => none
  | k + 1, x0, x3, x4 => if x4 < x0 then (quartermasterref01_power.l0 k x0 (wrap64 (x3 * 2)) (wrap64 (x4 + 1))) else (some x3)
def quartermasterref01_power.f (k : Nat) (a0 : Int) : Option (Int) := quartermasterref01_power.l0 k a0 1 0
set_option maxHeartbeats 8000000 in
set_option maxRecDepth 100000 in
theorem quartermasterref01_power.calls (k : Nat) (a0 : Int) (r : Int) (w : World) (h : quartermasterref01_power.f k a0 = some r) :
    Calls Try.prog 62 #[.int .i64 a0] w fun e w' => e = .returned (.int .i64 r) ∧ Drawn0 w w' := by
  have H : (quartermasterref01_power.l0 k a0 1 0) = some r := h
  clear h
  have H' := Aside0.mk H
  clear H
  go_enter Try.func62, Try.ntmps62
  go_wp2
  go_loopg [3, 4] k (fun kq v3 v4 w' => ∃ (x3_1 : Int) (x4_1 : Int), v3 = .int .i64 x3_1 ∧ v4 = .int .i64 x4_1 ∧ Aside0 (quartermasterref01_power.l0 kq a0 x3_1 x4_1 = some r) ∧ Aside0 (kq ≤ k) ∧ Drawn0 w w')
  case atStart => exact ⟨(1), (0), (by first | rfl | (simp; done) | (simp [*]; done)), (by first | rfl | (simp; done) | (simp [*]; done)), H', ⟨Nat.le_refl _⟩, by repeat (first | exact Drawn0.refl _ | apply Drawn0.step)⟩
  case round =>
    clear H'
    obtain ⟨x3_1, x4_1, rfl, rfl, HA, HK1, ⟨m1, rfl⟩⟩ := hrel
    cases gk with
    | zero => exact absurd HA.out (by simp [quartermasterref01_power.l0])
    | succ k1 =>
      have H := HA.out
      clear HA
      simp only [quartermasterref01_power.l0] at H
      by_cases c2 : x4_1 < a0
      · rw [if_pos c2] at H
        have c2b0 : decide (x4_1 < a0) = true := decide_eq_true c2
        clear c2
        have H' := Aside0.mk H
        clear H
        go_wp2
        go_roundg k1
        case measure => have := HK1.out; omega
        case rel => exact ⟨(wrap64 (x3_1 * 2)), (wrap64 (x4_1 + 1)), (by first | rfl | (simp; done) | (simp [*]; done)), (by first | rfl | (simp; done) | (simp [*]; done)), H', ⟨by have := HK1.out; omega⟩, by repeat (first | exact Drawn0.refl _ | apply Drawn0.step)⟩
      · rw [if_neg c2] at H
        have c2b0 : decide (x4_1 < a0) = false := decide_eq_false c2
        clear c2
        obtain rfl := Option.some.inj H
        go_wp2
        go_ret
        exact ⟨by first | rfl | (simp; done) | (simp [*]; done), by repeat (first | exact Drawn0.refl _ | apply Drawn0.step)⟩
/-! ### quartermasterref01_sum: function 61 -/
def quartermasterref01_sum.l0 : Nat → Int → Int → Int → Int → Option (Int)
  | 0, _, _, _, _ => none
  | k + 1, x0, x1, x5, x6 => if x6 < 16 then ((quartermasterref01_bit.f k x0 x6).bind fun t101 => ((quartermasterref01_bit.f k x1 x6).bind fun t102 => (if t101 = t102 then (quartermasterref01_sum.l0 k x0 x1 x5 (wrap64 (x6 + 1))) else ((quartermasterref01_power.f k x6).bind fun t103 => (quartermasterref01_sum.l0 k x0 x1 (wrap64 (x5 + t103)) (wrap64 (x6 + 1))))))) else (some x5)
def quartermasterref01_sum.f (k : Nat) (a0 : Int) (a1 : Int) : Option (Int) := quartermasterref01_sum.l0 k a0 a1 0 0
set_option maxHeartbeats 8000000 in
set_option maxRecDepth 100000 in
theorem quartermasterref01_sum.calls (k : Nat) (a0 : Int) (a1 : Int) (r : Int) (w : World) (h : quartermasterref01_sum.f k a0 a1 = some r) :
    Calls Try.prog 61 #[.int .i64 a0, .int .i64 a1] w fun e w' => e = .returned (.int .i64 r) ∧ Drawn0 w w' := by
  have H : (quartermasterref01_sum.l0 k a0 a1 0 0) = some r := h
  clear h
  have H' := Aside0.mk H
  clear H
  go_enter Try.func61, Try.ntmps61
  go_wp2
  go_loopg [5, 6] k (fun kq v5 v6 w' => ∃ (x5_1 : Int) (x6_1 : Int), v5 = .int .i64 x5_1 ∧ v6 = .int .i64 x6_1 ∧ Aside0 (quartermasterref01_sum.l0 kq a0 a1 x5_1 x6_1 = some r) ∧ Aside0 (kq ≤ k) ∧ Drawn0 w w')
  case atStart => exact ⟨(0), (0), (by first | rfl | (simp; done) | (simp [*]; done)), (by first | rfl | (simp; done) | (simp [*]; done)), H', ⟨Nat.le_refl _⟩, by repeat (first | exact Drawn0.refl _ | apply Drawn0.step)⟩
  case round =>
    clear H'
    try clear p2
    obtain ⟨x5_1, x6_1, rfl, rfl, HA, HK1, ⟨m1, rfl⟩⟩ := hrel
    cases gk with
    | zero => exact absurd HA.out (by simp [quartermasterref01_sum.l0])
    | succ k1 =>
      have H := HA.out
      clear HA
      simp only [quartermasterref01_sum.l0] at H
      by_cases c3 : x6_1 < 16
      · rw [if_pos c3] at H
        have c3b0 : decide (x6_1 < 16) = true := decide_eq_true c3
        clear c3
        replace H := Option.bind_eq_some_iff.mp H
        obtain ⟨t101, A40, H⟩ := H
        replace H : ((quartermasterref01_bit.f k1 a1 x6_1).bind fun t102 => (if t101 = t102 then (quartermasterref01_sum.l0 k1 a0 a1 x5_1 (wrap64 (x6_1 + 1))) else ((quartermasterref01_power.f k1 x6_1).bind fun t103 => (quartermasterref01_sum.l0 k1 a0 a1 (wrap64 (x5_1 + t103)) (wrap64 (x6_1 + 1)))))) = some r := H
        have A4 := Aside0.mk A40
        clear A40
        replace H := Option.bind_eq_some_iff.mp H
        obtain ⟨t102, A50, H⟩ := H
        replace H : (if t101 = t102 then (quartermasterref01_sum.l0 k1 a0 a1 x5_1 (wrap64 (x6_1 + 1))) else ((quartermasterref01_power.f k1 x6_1).bind fun t103 => (quartermasterref01_sum.l0 k1 a0 a1 (wrap64 (x5_1 + t103)) (wrap64 (x6_1 + 1))))) = some r := H
        have A5 := Aside0.mk A50
        clear A50
        by_cases c6 : t101 = t102
        · rw [if_pos c6] at H
          have c6b0 : (t101 == t102) = true := beq_iff_eq.mpr c6
          have c6b1 : (t101 != t102) = false := bne_eq_false_iff_eq.mpr c6
          clear c6
          have H' := Aside0.mk H
          clear H
          go_wp2_with (first | ((with_reducible refine gate_callee (f := 60) rfl ?_); refine goesL_ (some 13) rfl rfl Try.func60 (by kernel_rfl) rfl #[.int .i64 a0, .int .i64 x6_1] rfl (by (try simp only [List.map_toArray, List.map_cons, List.map_nil]); first | done | rfl | (simp only [List.length_drop, List.length_take]; rfl)) ?_; (with_reducible refine (quartermasterref01_bit.calls k1 a0 x6_1 t101 _ A4.out).mono ?_); rintro e w' ⟨rfl, ⟨nd, rfl⟩⟩; refine ⟨_, rfl, ?_⟩) | ((with_reducible refine gate_callee (f := 60) rfl ?_); refine goesL_ (some 16) rfl rfl Try.func60 (by kernel_rfl) rfl #[.int .i64 a1, .int .i64 x6_1] rfl (by (try simp only [List.map_toArray, List.map_cons, List.map_nil]); first | done | rfl | (simp only [List.length_drop, List.length_take]; rfl)) ?_; (with_reducible refine (quartermasterref01_bit.calls k1 a1 x6_1 t102 _ A5.out).mono ?_); rintro e w' ⟨rfl, ⟨nd, rfl⟩⟩; refine ⟨_, rfl, ?_⟩))
          go_roundg k1
          case measure => have := HK1.out; omega
          case rel => exact ⟨(x5_1), (wrap64 (x6_1 + 1)), (by first | rfl | (simp; done) | (simp [*]; done)), (by first | rfl | (simp; done) | (simp [*]; done)), H', ⟨by have := HK1.out; omega⟩, by repeat (first | exact Drawn0.refl _ | apply Drawn0.step)⟩
        · rw [if_neg c6] at H
          have c6b0 : (t101 == t102) = false := beq_eq_false_iff_ne.mpr c6
          have c6b1 : (t101 != t102) = true := bne_iff_ne.mpr c6
          replace H := Option.bind_eq_some_iff.mp H
          obtain ⟨t103, A70, H⟩ := H
          replace H : (quartermasterref01_sum.l0 k1 a0 a1 (wrap64 (x5_1 + t103)) (wrap64 (x6_1 + 1))) = some r := H
          have A7 := Aside0.mk A70
          clear A70
          have H' := Aside0.mk H
          clear H
          go_wp2_with (first | ((with_reducible refine gate_callee (f := 60) rfl ?_); refine goesL_ (some 13) rfl rfl Try.func60 (by kernel_rfl) rfl #[.int .i64 a0, .int .i64 x6_1] rfl (by (try simp only [List.map_toArray, List.map_cons, List.map_nil]); first | done | rfl | (simp only [List.length_drop, List.length_take]; rfl)) ?_; (with_reducible refine (quartermasterref01_bit.calls k1 a0 x6_1 t101 _ A4.out).mono ?_); rintro e w' ⟨rfl, ⟨nd, rfl⟩⟩; refine ⟨_, rfl, ?_⟩) | ((with_reducible refine gate_callee (f := 60) rfl ?_); refine goesL_ (some 16) rfl rfl Try.func60 (by kernel_rfl) rfl #[.int .i64 a1, .int .i64 x6_1] rfl (by (try simp only [List.map_toArray, List.map_cons, List.map_nil]); first | done | rfl | (simp only [List.length_drop, List.length_take]; rfl)) ?_; (with_reducible refine (quartermasterref01_bit.calls k1 a1 x6_1 t102 _ A5.out).mono ?_); rintro e w' ⟨rfl, ⟨nd, rfl⟩⟩; refine ⟨_, rfl, ?_⟩) | ((with_reducible refine gate_callee (f := 62) rfl ?_); refine goesL_ (some 20) rfl rfl Try.func62 (by kernel_rfl) rfl #[.int .i64 x6_1] rfl (by (try simp only [List.map_toArray, List.map_cons, List.map_nil]); first | done | rfl | (simp only [List.length_drop, List.length_take]; rfl)) ?_; (with_reducible refine (quartermasterref01_power.calls k1 x6_1 t103 _ A7.out).mono ?_); rintro e w' ⟨rfl, ⟨nd, rfl⟩⟩; refine ⟨_, rfl, ?_⟩))
          go_roundg k1
          case measure => have := HK1.out; omega
          case rel => exact ⟨(wrap64 (x5_1 + t103)), (wrap64 (x6_1 + 1)), (by first | rfl | (simp; done) | (simp [*]; done)), (by first | rfl | (simp; done) | (simp [*]; done)), H', ⟨by have := HK1.out; omega⟩, by repeat (first | exact Drawn0.refl _ | apply Drawn0.step)⟩
      · rw [if_neg c3] at H
        have c3b0 : decide (x6_1 < 16) = false := decide_eq_false c3
        clear c3
        obtain rfl := Option.some.inj H
        go_wp2
        go_ret
        exact ⟨by first | rfl | (simp; done) | (simp [*]; done), by repeat (first | exact Drawn0.refl _ | apply Drawn0.step)⟩
end Go.Proofs.Ythblmkailhdhlaa.G
-- PRINTED by print.py (a twelfth state) out of the translation. Not trusted: Lean checks it.
namespace Go.Proofs.Ythblmkailhdhlaa.G
open Go.RowKit Go.Proofs.YthblmkailhdhlaaW.PrintWords Go.Proofs.YthblmkailhdhlaaW.PrintLast Go.Proofs.YthblmkailhdhlaaW.PrintMore
attribute [local go_sem] max2_int min2_int max_two min_two max_three min_three max_four min_four   -- for this text's walks alone
set_option linter.unusedVariables false
set_option linter.unusedSimpArgs false
/-! ### quartermasterref01_Mul: function 33 -/
mutual
def quartermasterref01_Mul.l0 : Nat → Int → Int → Int → Int → Option (Int)
  | 0, _, _, _, _ => none
  | k + 1, x0, x1, x5, x6 => if x6 < 8 then ((quartermasterref01_bit.f k (wrap64 (x1)) x6).bind fun t104 => (if t104 = 1 then ((quartermasterref01_power.f k x6).bind fun t105 => ((quartermasterref01_sum.f k x5 (wrap64 ((wrap64 (x0)) * t105))).bind fun t106 => (quartermasterref01_Mul.l0 k x0 x1 t106 (wrap64 (x6 + 1))))) else (quartermasterref01_Mul.l0 k x0 x1 x5 (wrap64 (x6 + 1))))) else (quartermasterref01_Mul.l1 k x5 15)
def quartermasterref01_Mul.l1 : Nat → Int → Int → Option (Int)
  | 0, _, _ => none
  | k + 1, x5, x7 => if x7 ≥ 8 then ((quartermasterref01_bit.f k x5 x7).bind fun t107 => (if t107 = 1 then ((quartermasterref01_power.f k (wrap64 (x7 - 8))).bind fun t108 => ((quartermasterref01_sum.f k x5 (wrap64 (285 * t108))).bind fun t109 => (quartermasterref01_Mul.l1 k t109 (wrap64 (x7 - 1))))) else (quartermasterref01_Mul.l1 k x5 (wrap64 (x7 - 1))))) else (some ((x5) % 256))
end
def quartermasterref01_Mul.f (k : Nat) (a0 : Int) (a1 : Int) : Option (Int) := quartermasterref01_Mul.l0 k a0 a1 0 0
set_option maxHeartbeats 8000000 in
set_option maxRecDepth 100000 in
theorem quartermasterref01_Mul.calls (k : Nat) (a0 : Int) (a1 : Int) (r : Int) (w : World) (h : quartermasterref01_Mul.f k a0 a1 = some r) :
    Calls Try.prog 33 #[.int .u8 a0, .int .u8 a1] w fun e w' => e = .returned (.int .u8 r) ∧ Drawn0 w w' := by
  have H : (quartermasterref01_Mul.l0 k a0 a1 0 0) = some r := h
  clear h
  have H' := Aside0.mk H
  clear H
  go_enter Try.func33, Try.ntmps33
  go_wp2
  go_loopg [5, 6] k (fun kq v5 v6 w' => ∃ (x5_1 : Int) (x6_1 : Int), v5 = .int .i64 x5_1 ∧ v6 = .int .i64 x6_1 ∧ Aside0 (quartermasterref01_Mul.l0 kq a0 a1 x5_1 x6_1 = some r) ∧ Aside0 (kq ≤ k) ∧ Drawn0 w w')
  case atStart => exact ⟨(0), (0), (by first | rfl | (simp; done) | (simp [*]; done)), (by first | rfl | (simp; done) | (simp [*]; done)), H', ⟨Nat.le_refl _⟩, by repeat (first | exact Drawn0.refl _ | apply Drawn0.step)⟩
  case round =>
    clear H'
    try clear p2
    obtain ⟨x5_1, x6_1, rfl, rfl, HA, HK1, ⟨m1, rfl⟩⟩ := hrel
    cases gk with
    | zero => exact absurd HA.out (by simp [quartermasterref01_Mul.l0])
    | succ k1 =>
      have H := HA.out
      clear HA
      simp only [quartermasterref01_Mul.l0] at H
      by_cases c3 : x6_1 < 8
      · rw [if_pos c3] at H
        have c3b0 : decide (x6_1 < 8) = true := decide_eq_true c3
        clear c3
        replace H := Option.bind_eq_some_iff.mp H
        obtain ⟨t104, A40, H⟩ := H
        replace H : (if t104 = 1 then ((quartermasterref01_power.f k1 x6_1).bind fun t105 => ((quartermasterref01_sum.f k1 x5_1 (wrap64 ((wrap64 (a0)) * t105))).bind fun t106 => (quartermasterref01_Mul.l0 k1 a0 a1 t106 (wrap64 (x6_1 + 1))))) else (quartermasterref01_Mul.l0 k1 a0 a1 x5_1 (wrap64 (x6_1 + 1)))) = some r := H
        have A4 := Aside0.mk A40
        clear A40
        by_cases c5 : t104 = 1
        · rw [if_pos c5] at H
          have c5b0 : (t104 == 1) = true := beq_iff_eq.mpr c5
          have c5b1 : (t104 != 1) = false := bne_eq_false_iff_eq.mpr c5
          clear c5
          replace H := Option.bind_eq_some_iff.mp H
          obtain ⟨t105, A60, H⟩ := H
          replace H : ((quartermasterref01_sum.f k1 x5_1 (wrap64 ((wrap64 (a0)) * t105))).bind fun t106 => (quartermasterref01_Mul.l0 k1 a0 a1 t106 (wrap64 (x6_1 + 1)))) = some r := H
          have A6 := Aside0.mk A60
          clear A60
          replace H := Option.bind_eq_some_iff.mp H
          obtain ⟨t106, A70, H⟩ := H
          replace H : (quartermasterref01_Mul.l0 k1 a0 a1 t106 (wrap64 (x6_1 + 1))) = some r := H
          have A7 := Aside0.mk A70
          clear A70
          have H' := Aside0.mk H
          clear H
          go_wp2_with (first | ((with_reducible refine gate_callee (f := 60) rfl ?_); refine goesL_ (some 15) rfl rfl Try.func60 (by kernel_rfl) rfl #[.int .i64 (wrap64 (a1)), .int .i64 x6_1] rfl (by (try simp only [List.map_toArray, List.map_cons, List.map_nil]); first | done | rfl | (simp only [List.length_drop, List.length_take]; rfl)) ?_; (with_reducible refine (quartermasterref01_bit.calls k1 (wrap64 (a1)) x6_1 t104 _ A4.out).mono ?_); rintro e w' ⟨rfl, ⟨nd, rfl⟩⟩; refine ⟨_, rfl, ?_⟩) | ((with_reducible refine gate_callee (f := 62) rfl ?_); refine goesL_ (some 21) rfl rfl Try.func62 (by kernel_rfl) rfl #[.int .i64 x6_1] rfl (by (try simp only [List.map_toArray, List.map_cons, List.map_nil]); first | done | rfl | (simp only [List.length_drop, List.length_take]; rfl)) ?_; (with_reducible refine (quartermasterref01_power.calls k1 x6_1 t105 _ A6.out).mono ?_); rintro e w' ⟨rfl, ⟨nd, rfl⟩⟩; refine ⟨_, rfl, ?_⟩) | ((with_reducible refine gate_callee (f := 61) rfl ?_); refine goesL_ (some 23) rfl rfl Try.func61 (by kernel_rfl) rfl #[.int .i64 x5_1, .int .i64 (wrap64 ((wrap64 (a0)) * t105))] rfl (by (try simp only [List.map_toArray, List.map_cons, List.map_nil]); first | done | rfl | (simp only [List.length_drop, List.length_take]; rfl)) ?_; (with_reducible refine (quartermasterref01_sum.calls k1 x5_1 (wrap64 ((wrap64 (a0)) * t105)) t106 _ A7.out).mono ?_); rintro e w' ⟨rfl, ⟨nd, rfl⟩⟩; refine ⟨_, rfl, ?_⟩))
          go_roundg k1
          case measure => have := HK1.out; omega
          case rel => exact ⟨(t106), (wrap64 (x6_1 + 1)), (by first | rfl | (simp; done) | (simp [*]; done)), (by first | rfl | (simp; done) | (simp [*]; done)), H', ⟨by have := HK1.out; omega⟩, by repeat (first | exact Drawn0.refl _ | apply Drawn0.step)⟩
        · rw [if_neg c5] at H
          have c5b0 : (t104 == 1) = false := beq_eq_false_iff_ne.mpr c5
          have c5b1 : (t104 != 1) = true := bne_iff_ne.mpr c5
          have H' := Aside0.mk H
          clear H
          go_wp2_with (first | ((with_reducible refine gate_callee (f := 60) rfl ?_); refine goesL_ (some 15) rfl rfl Try.func60 (by kernel_rfl) rfl #[.int .i64 (wrap64 (a1)), .int .i64 x6_1] rfl (by (try simp only [List.map_toArray, List.map_cons, List.map_nil]); first | done | rfl | (simp only [List.length_drop, List.length_take]; rfl)) ?_; (with_reducible refine (quartermasterref01_bit.calls k1 (wrap64 (a1)) x6_1 t104 _ A4.out).mono ?_); rintro e w' ⟨rfl, ⟨nd, rfl⟩⟩; refine ⟨_, rfl, ?_⟩))
          go_roundg k1
          case measure => have := HK1.out; omega
          case rel => exact ⟨(x5_1), (wrap64 (x6_1 + 1)), (by first | rfl | (simp; done) | (simp [*]; done)), (by first | rfl | (simp; done) | (simp [*]; done)), H', ⟨by have := HK1.out; omega⟩, by repeat (first | exact Drawn0.refl _ | apply Drawn0.step)⟩
      · rw [if_neg c3] at H
        have c3b0 : decide (x6_1 < 8) = false := decide_eq_false c3
        clear c3
        have H' := Aside0.mk H
        clear H
        go_wp2
        go_loopg [5, 7] k1 (fun kq v5 v7 w' => ∃ (x5_2 : Int) (x7_2 : Int), v5 = .int .i64 x5_2 ∧ v7 = .int .i64 x7_2 ∧ Aside0 (quartermasterref01_Mul.l1 kq x5_2 x7_2 = some r) ∧ Aside0 (kq ≤ k1) ∧ Drawn0 w w')
        case atStart => exact ⟨(x5_1), (15), (by first | rfl | (simp; done) | (simp [*]; done)), (by first | rfl | (simp; done) | (simp [*]; done)), H', ⟨Nat.le_refl _⟩, by repeat (first | exact Drawn0.refl _ | apply Drawn0.step)⟩
        case round =>
          clear H'
          try clear p2
          try clear c3
          try clear c3b0
          try clear c5
          try clear c5b0
          try clear c5b1
          try clear c6
          try clear p6
          try clear p2
          obtain ⟨x5_2, x7_2, rfl, rfl, HA, HK2, ⟨m2, rfl⟩⟩ := hrel
          cases gk with
          | zero => exact absurd HA.out (by simp [quartermasterref01_Mul.l1])
          | succ k2 =>
            have H := HA.out
            clear HA
            simp only [quartermasterref01_Mul.l1] at H
            by_cases c8 : x7_2 ≥ 8
            · rw [if_pos c8] at H
              have c8b0 : decide (8 ≤ x7_2) = true := decide_eq_true c8
              clear c8
              replace H := Option.bind_eq_some_iff.mp H
              obtain ⟨t107, A90, H⟩ := H
              replace H : (if t107 = 1 then ((quartermasterref01_power.f k2 (wrap64 (x7_2 - 8))).bind fun t108 => ((quartermasterref01_sum.f k2 x5_2 (wrap64 (285 * t108))).bind fun t109 => (quartermasterref01_Mul.l1 k2 t109 (wrap64 (x7_2 - 1))))) else (quartermasterref01_Mul.l1 k2 x5_2 (wrap64 (x7_2 - 1)))) = some r := H
              have A9 := Aside0.mk A90
              clear A90
              by_cases c10 : t107 = 1
              · rw [if_pos c10] at H
                have c10b0 : (t107 == 1) = true := beq_iff_eq.mpr c10
                have c10b1 : (t107 != 1) = false := bne_eq_false_iff_eq.mpr c10
                clear c10
                replace H := Option.bind_eq_some_iff.mp H
                obtain ⟨t108, A110, H⟩ := H
                replace H : ((quartermasterref01_sum.f k2 x5_2 (wrap64 (285 * t108))).bind fun t109 => (quartermasterref01_Mul.l1 k2 t109 (wrap64 (x7_2 - 1)))) = some r := H
                have A11 := Aside0.mk A110
                clear A110
                replace H := Option.bind_eq_some_iff.mp H
                obtain ⟨t109, A120, H⟩ := H
                replace H : (quartermasterref01_Mul.l1 k2 t109 (wrap64 (x7_2 - 1))) = some r := H
                have A12 := Aside0.mk A120
                clear A120
                have H' := Aside0.mk H
                clear H
                go_wp2_with (first | ((with_reducible refine gate_callee (f := 60) rfl ?_); refine goesL_ (some 30) rfl rfl Try.func60 (by kernel_rfl) rfl #[.int .i64 x5_2, .int .i64 x7_2] rfl (by (try simp only [List.map_toArray, List.map_cons, List.map_nil]); first | done | rfl | (simp only [List.length_drop, List.length_take]; rfl)) ?_; (with_reducible refine (quartermasterref01_bit.calls k2 x5_2 x7_2 t107 _ A9.out).mono ?_); rintro e w' ⟨rfl, ⟨nd, rfl⟩⟩; refine ⟨_, rfl, ?_⟩) | ((with_reducible refine gate_callee (f := 62) rfl ?_); refine goesL_ (some 35) rfl rfl Try.func62 (by kernel_rfl) rfl #[.int .i64 (wrap64 (x7_2 - 8))] rfl (by (try simp only [List.map_toArray, List.map_cons, List.map_nil]); first | done | rfl | (simp only [List.length_drop, List.length_take]; rfl)) ?_; (with_reducible refine (quartermasterref01_power.calls k2 (wrap64 (x7_2 - 8)) t108 _ A11.out).mono ?_); rintro e w' ⟨rfl, ⟨nd, rfl⟩⟩; refine ⟨_, rfl, ?_⟩) | ((with_reducible refine gate_callee (f := 61) rfl ?_); refine goesL_ (some 37) rfl rfl Try.func61 (by kernel_rfl) rfl #[.int .i64 x5_2, .int .i64 (wrap64 (285 * t108))] rfl (by (try simp only [List.map_toArray, List.map_cons, List.map_nil]); first | done | rfl | (simp only [List.length_drop, List.length_take]; rfl)) ?_; (with_reducible refine (quartermasterref01_sum.calls k2 x5_2 (wrap64 (285 * t108)) t109 _ A12.out).mono ?_); rintro e w' ⟨rfl, ⟨nd, rfl⟩⟩; refine ⟨_, rfl, ?_⟩))
                go_roundg k2
                case measure => have := HK1.out; have := HK2.out; omega
                case rel => exact ⟨(t109), (wrap64 (x7_2 - 1)), (by first | rfl | (simp; done) | (simp [*]; done)), (by first | rfl | (simp; done) | (simp [*]; done)), H', ⟨by have := HK1.out; have := HK2.out; omega⟩, by repeat (first | exact Drawn0.refl _ | apply Drawn0.step)⟩
              · rw [if_neg c10] at H
                have c10b0 : (t107 == 1) = false := beq_eq_false_iff_ne.mpr c10
                have c10b1 : (t107 != 1) = true := bne_iff_ne.mpr c10
                have H' := Aside0.mk H
                clear H
                go_wp2_with (first | ((with_reducible refine gate_callee (f := 60) rfl ?_); refine goesL_ (some 30) rfl rfl Try.func60 (by kernel_rfl) rfl #[.int .i64 x5_2, .int .i64 x7_2] rfl (by (try simp only [List.map_toArray, List.map_cons, List.map_nil]); first | done | rfl | (simp only [List.length_drop, List.length_take]; rfl)) ?_; (with_reducible refine (quartermasterref01_bit.calls k2 x5_2 x7_2 t107 _ A9.out).mono ?_); rintro e w' ⟨rfl, ⟨nd, rfl⟩⟩; refine ⟨_, rfl, ?_⟩))
                go_roundg k2
                case measure => have := HK1.out; have := HK2.out; omega
                case rel => exact ⟨(x5_2), (wrap64 (x7_2 - 1)), (by first | rfl | (simp; done) | (simp [*]; done)), (by first | rfl | (simp; done) | (simp [*]; done)), H', ⟨by have := HK1.out; have := HK2.out; omega⟩, by repeat (first | exact Drawn0.refl _ | apply Drawn0.step)⟩
            · rw [if_neg c8] at H
              have c8b0 : decide (8 ≤ x7_2) = false := decide_eq_false c8
              clear c8
              obtain rfl := Option.some.inj H
              go_wp2
              go_ret
              exact ⟨by first | rfl | (simp; done) | (simp [*]; done), by repeat (first | exact Drawn0.refl _ | apply Drawn0.step)⟩
/-! ### quartermasterref01_Div: function 26 -/
def quartermasterref01_Div.l0 : Nat → Int → Int → Int → Option (Int × Int)
  | 0, _, _, _ => none
  | k + 1, x0, x1, x6 => if x6 < 256 then ((quartermasterref01_Mul.f k ((x6) % 256) x1).bind fun t110 => (if t110 = x0 then (some ((x6) % 256, 0)) else (quartermasterref01_Div.l0 k x0 x1 (wrap64 (x6 + 1))))) else (some (0, 8))
def quartermasterref01_Div.f (k : Nat) (a0 : Int) (a1 : Int) : Option (Int × Int) := if a1 = 0 then (some (0, 8)) else (quartermasterref01_Div.l0 k a0 a1 0)
set_option maxHeartbeats 8000000 in
set_option maxRecDepth 100000 in
theorem quartermasterref01_Div.calls (k : Nat) (a0 : Int) (a1 : Int) (r1 : Int) (r2 : Int) (w : World) (h : quartermasterref01_Div.f k a0 a1 = some (r1, r2)) :
    Calls Try.prog 26 #[.int .u8 a0, .int .u8 a1] w fun e w' => e = .returned (.tuple #[.int .u8 r1, .int .i64 r2]) ∧ Drawn0 w w' := by
  have H : (if a1 = 0 then (some (0, 8)) else (quartermasterref01_Div.l0 k a0 a1 0)) = some (r1, r2) := h
  clear h
  by_cases c3 : a1 = 0
  · rw [if_pos c3] at H
    have c3b0 : (a1 == 0) = true := beq_iff_eq.mpr c3
    have c3b1 : (a1 != 0) = false := bne_eq_false_iff_eq.mpr c3
    clear c3
    simp only [Option.some.injEq, Prod.mk.injEq] at H
    obtain ⟨rfl, rfl⟩ := H
    go_enter Try.func26, Try.ntmps26
    go_wp2
    go_ret2
    exact ⟨by first | rfl | (simp; done) | (simp [*]; done), by repeat (first | exact Drawn0.refl _ | apply Drawn0.step)⟩
  · rw [if_neg c3] at H
    have c3b0 : (a1 == 0) = false := beq_eq_false_iff_ne.mpr c3
    have c3b1 : (a1 != 0) = true := bne_iff_ne.mpr c3
    have H' := Aside0.mk H
    clear H
    go_enter Try.func26, Try.ntmps26
    go_wp2
    go_loopg [6] k (fun kq v6 w' => ∃ (x6_1 : Int), v6 = .int .i64 x6_1 ∧ Aside0 (quartermasterref01_Div.l0 kq a0 a1 x6_1 = some (r1, r2)) ∧ Aside0 (kq ≤ k) ∧ Drawn0 w w')
    case atStart => exact ⟨(0), (by first | rfl | (simp; done) | (simp [*]; done)), H', ⟨Nat.le_refl _⟩, by repeat (first | exact Drawn0.refl _ | apply Drawn0.step)⟩
    case round =>
      clear H'
      try clear c2
      try clear p2
      try clear c3
      try clear c3b0
      try clear c3b1
      obtain ⟨x6_1, rfl, HA, HK1, ⟨m1, rfl⟩⟩ := hrel
      cases gk with
      | zero => exact absurd HA.out (by simp [quartermasterref01_Div.l0])
      | succ k1 =>
        have H := HA.out
        clear HA
        simp only [quartermasterref01_Div.l0] at H
        by_cases c4 : x6_1 < 256
        · rw [if_pos c4] at H
          have c4b0 : decide (x6_1 < 256) = true := decide_eq_true c4
          clear c4
          replace H := Option.bind_eq_some_iff.mp H
          obtain ⟨t110, A50, H⟩ := H
          replace H : (if t110 = a0 then (some ((x6_1) % 256, 0)) else (quartermasterref01_Div.l0 k1 a0 a1 (wrap64 (x6_1 + 1)))) = some (r1, r2) := H
          have A5 := Aside0.mk A50
          clear A50
          by_cases c6 : t110 = a0
          · rw [if_pos c6] at H
            have c6b0 : (t110 == a0) = true := beq_iff_eq.mpr c6
            have c6b1 : (t110 != a0) = false := bne_eq_false_iff_eq.mpr c6
            clear c6
            simp only [Option.some.injEq, Prod.mk.injEq] at H
            obtain ⟨rfl, rfl⟩ := H
            go_wp2_with (first | ((with_reducible refine gate_callee (f := 33) rfl ?_); refine goesL_ (some 17) rfl rfl Try.func33 (by kernel_rfl) rfl #[.int .u8 ((x6_1) % 256), .int .u8 a1] rfl (by (try simp only [List.map_toArray, List.map_cons, List.map_nil]); first | done | rfl | (simp only [List.length_drop, List.length_take]; rfl)) ?_; (with_reducible refine (quartermasterref01_Mul.calls k1 ((x6_1) % 256) a1 t110 _ A5.out).mono ?_); rintro e w' ⟨rfl, ⟨nd, rfl⟩⟩; refine ⟨_, rfl, ?_⟩))
            go_ret2
            exact ⟨by first | rfl | (simp; done) | (simp [*]; done), by repeat (first | exact Drawn0.refl _ | apply Drawn0.step)⟩
          · rw [if_neg c6] at H
            have c6b0 : (t110 == a0) = false := beq_eq_false_iff_ne.mpr c6
            have c6b1 : (t110 != a0) = true := bne_iff_ne.mpr c6
            have H' := Aside0.mk H
            clear H
            go_wp2_with (first | ((with_reducible refine gate_callee (f := 33) rfl ?_); refine goesL_ (some 17) rfl rfl Try.func33 (by kernel_rfl) rfl #[.int .u8 ((x6_1) % 256), .int .u8 a1] rfl (by (try simp only [List.map_toArray, List.map_cons, List.map_nil]); first | done | rfl | (simp only [List.length_drop, List.length_take]; rfl)) ?_; (with_reducible refine (quartermasterref01_Mul.calls k1 ((x6_1) % 256) a1 t110 _ A5.out).mono ?_); rintro e w' ⟨rfl, ⟨nd, rfl⟩⟩; refine ⟨_, rfl, ?_⟩))
            go_roundg k1
            case measure => have := HK1.out; omega
            case rel => exact ⟨(wrap64 (x6_1 + 1)), (by first | rfl | (simp; done) | (simp [*]; done)), H', ⟨by have := HK1.out; omega⟩, by repeat (first | exact Drawn0.refl _ | apply Drawn0.step)⟩
        · rw [if_neg c4] at H
          have c4b0 : decide (x6_1 < 256) = false := decide_eq_false c4
          clear c4
          simp only [Option.some.injEq, Prod.mk.injEq] at H
          obtain ⟨rfl, rfl⟩ := H
          go_wp2
          go_ret2
          exact ⟨by first | rfl | (simp; done) | (simp [*]; done), by repeat (first | exact Drawn0.refl _ | apply Drawn0.step)⟩
-- NOT PRINTED: function 3 (quartermasterlaw01_GfParts)
end Go.Proofs.Ythblmkailhdhlaa.G
-- PRINTED by print.py (a twelfth state) out of the translation. Not trusted: Lean checks it.
namespace Go.Proofs.Ythblmkailhdhlaa.G
open Go.RowKit Go.Proofs.YthblmkailhdhlaaW.PrintWords Go.Proofs.YthblmkailhdhlaaW.PrintLast Go.Proofs.YthblmkailhdhlaaW.PrintMore
attribute [local go_sem] max2_int min2_int max_two min_two max_three min_three max_four min_four   -- for this text's walks alone
set_option linter.unusedVariables false
set_option linter.unusedSimpArgs false
/-! ### quartermasterref01_Log: function 29 -/
/-! ### quartermasterref01_Exp: function 31 -/
-- NOT PRINTED: function 4 (quartermasterlaw01_GfPowers)
-- NOT PRINTED: function 5 (quartermasterlaw01_GfBack)
-- NOT PRINTED: function 6 (quartermasterlaw01_GfLogs)
-- NOT PRINTED: function 7 (quartermasterlaw01_GfNone)
-- NOT PRINTED: function 34 (gf_Field_Add)
/-! ### quartermasterref01_Add: function 35 -/
def quartermasterref01_Add.f (k : Nat) (a0 : Int) (a1 : Int) : Option (Int) := (quartermasterref01_sum.f k (wrap64 (a0)) (wrap64 (a1))).bind fun t113 => (some ((t113) % 256))
set_option maxHeartbeats 8000000 in
set_option maxRecDepth 100000 in
theorem quartermasterref01_Add.calls (k : Nat) (a0 : Int) (a1 : Int) (r : Int) (w : World) (h : quartermasterref01_Add.f k a0 a1 = some r) :
    Calls Try.prog 35 #[.int .u8 a0, .int .u8 a1] w fun e w' => e = .returned (.int .u8 r) ∧ Drawn0 w w' := by
  have H : ((quartermasterref01_sum.f k (wrap64 (a0)) (wrap64 (a1))).bind fun t113 => (some ((t113) % 256))) = some r := h
  clear h
  replace H := Option.bind_eq_some_iff.mp H
  obtain ⟨t113, A30, H⟩ := H
  replace H : (some ((t113) % 256)) = some r := H
  have A3 := Aside0.mk A30
  clear A30
  obtain rfl := Option.some.inj H
  go_enter Try.func35, Try.ntmps35
  go_wp2_with (first | ((with_reducible refine gate_callee (f := 61) rfl ?_); refine goesL_ (some 9) rfl rfl Try.func61 (by kernel_rfl) rfl #[.int .i64 (wrap64 (a0)), .int .i64 (wrap64 (a1))] rfl (by (try simp only [List.map_toArray, List.map_cons, List.map_nil]); first | done | rfl | (simp only [List.length_drop, List.length_take]; rfl)) ?_; (with_reducible refine (quartermasterref01_sum.calls k (wrap64 (a0)) (wrap64 (a1)) t113 _ A3.out).mono ?_); rintro e w' ⟨rfl, ⟨nd, rfl⟩⟩; refine ⟨_, rfl, ?_⟩))
  go_ret
  exact ⟨by first | rfl | (simp; done) | (simp [*]; done), by repeat (first | exact Drawn0.refl _ | apply Drawn0.step)⟩
-- NOT PRINTED: function 8 (quartermasterlaw01_GfSums)
-- NOT PRINTED: function 9 (quartermasterlaw01_GfField)
end Go.Proofs.Ythblmkailhdhlaa.G
/- What the document's answers for the field (quartermasterref01, as printed) come to: the field of F, F2. -/
namespace Go.Proofs.Ythblmkailhdhlaa.R
open Go.RowKit Go.Proofs.Ythblmkailhdhlaa.F Go.Proofs.Ythblmkailhdhlaa.G
theorem w64 {x : Int} (h : -9223372036854775808 ≤ x) (h' : x ≤ 9223372036854775807) : wrap64 x = x := by unfold wrap64; omega
theorem bit_l0 (j : Nat) (hj : j < 64) : ∀ (d i a k : Nat), i + d = j → d < k → a < 4611686018427387904 →
    quartermasterref01_bit.l0 k (a : Int) (j : Int) (i : Int) = some ((a / 2 ^ d % 2 : Nat) : Int) := by
  intro d
  induction d with
  | zero =>
    intro i a k h hk ha
    obtain ⟨k, rfl⟩ : ∃ m, k = m + 1 := ⟨k - 1, by omega⟩
    simp only [quartermasterref01_bit.l0]
    rw [if_neg (by omega), Int.tmod_eq_emod_of_nonneg (by omega), Nat.pow_zero, Nat.div_one]
    rfl
  | succ d ih =>
    intro i a k h hk ha
    obtain ⟨k, rfl⟩ : ∃ m, k = m + 1 := ⟨k - 1, by omega⟩
    simp only [quartermasterref01_bit.l0]
    rw [if_pos (by omega), Int.tdiv_eq_ediv_of_nonneg (by omega)]
    have h1 : (a : Int) / 2 = ((a / 2 : Nat) : Int) := by omega
    rw [h1, w64 (by omega) (by omega), w64 (by omega) (by omega)]
    have h2 : (i : Int) + 1 = ((i + 1 : Nat) : Int) := by omega
    rw [h2, ih (i + 1) (a / 2) k (by omega) (by omega) (by omega), Nat.div_div_eq_div_mul, Nat.pow_succ, Nat.mul_comm (2 ^ d)]
theorem bit_f {a j k : Nat} (hj : j < 64) (hk : j < k) (ha : a < 4611686018427387904) : quartermasterref01_bit.f k (a : Int) (j : Int) = some (((a.testBit j).toNat : Nat) : Int) := by
  unfold quartermasterref01_bit.f
  have := bit_l0 j hj j 0 a k (by omega) hk ha
  rw [show ((0 : Nat) : Int) = 0 from rfl] at this
  rw [this, Nat.testBit_eq_decide_div_mod_eq]
  have : a / 2 ^ j % 2 < 2 := Nat.mod_lt _ (by decide)
  congr 2
  by_cases h : a / 2 ^ j % 2 = 1
  · rw [decide_eq_true h, h]; rfl
  · rw [decide_eq_false h, Bool.toNat_false]; omega
theorem power_l0 (j : Nat) (hj : j < 62) : ∀ (d i k : Nat), i + d = j → d < k →
    quartermasterref01_power.l0 k (j : Int) ((2 ^ i : Nat) : Int) (i : Int) = some ((2 ^ j : Nat) : Int) := by
  intro d
  induction d with
  | zero =>
    intro i k h hk
    obtain ⟨k, rfl⟩ : ∃ m, k = m + 1 := ⟨k - 1, by omega⟩
    simp only [quartermasterref01_power.l0]
    rw [if_neg (by omega), show i = j by omega]
  | succ d ih =>
    intro i k h hk
    obtain ⟨k, rfl⟩ : ∃ m, k = m + 1 := ⟨k - 1, by omega⟩
    simp only [quartermasterref01_power.l0]
    have hp : 2 ^ i ≤ 2 ^ 61 := Nat.pow_le_pow_right (by decide) (by omega)
    have hi := ih (i + 1) k (by omega) (by omega)
    rw [Nat.pow_succ] at hi
    generalize 2 ^ i = p at *
    rw [if_pos (by omega), w64 (by omega) (by omega), w64 (by omega) (by omega)]
    have h1 : (p : Int) * 2 = ((p * 2 : Nat) : Int) := by omega
    have h2 : (i : Int) + 1 = ((i + 1 : Nat) : Int) := by omega
    rw [h1, h2, hi]
theorem power_f {j k : Nat} (hj : j < 62) (hk : j < k) : quartermasterref01_power.f k (j : Int) = some ((2 ^ j : Nat) : Int) :=
  power_l0 j hj j 0 k (by omega) hk
theorem mod_step (a i : Nat) : a % 2 ^ (i + 1) = a % 2 ^ i + (if a.testBit i then 2 ^ i else 0) := by
  have h : a % (2 ^ i * 2) = a % 2 ^ i + 2 ^ i * (a / 2 ^ i % 2) := Nat.mod_mul
  rw [Nat.pow_succ, h, Nat.testBit_eq_decide_div_mod_eq]
  have : a / 2 ^ i % 2 < 2 := Nat.mod_lt _ (by decide)
  by_cases h1 : a / 2 ^ i % 2 = 1
  · rw [decide_eq_true h1, h1, if_pos rfl, Nat.mul_one]
  · rw [decide_eq_false h1, if_neg (by decide), show a / 2 ^ i % 2 = 0 by omega, Nat.mul_zero]
theorem sum_l0 (a b : Nat) (ha : a < 2 ^ 16) (hb : b < 2 ^ 16) : ∀ (d i k : Nat), i + d = 16 → 17 + d < k →
    quartermasterref01_sum.l0 k (a : Int) (b : Int) (((a ^^^ b) % 2 ^ i : Nat) : Int) (i : Int) = some ((a ^^^ b : Nat) : Int) := by
  intro d
  induction d with
  | zero =>
    intro i k h hk
    obtain ⟨k, rfl⟩ : ∃ m, k = m + 1 := ⟨k - 1, by omega⟩
    simp only [quartermasterref01_sum.l0]
    rw [if_neg (by omega), show i = 16 by omega, Nat.mod_eq_of_lt (Nat.xor_lt_two_pow ha hb)]
  | succ d ih =>
    intro i k h hk
    obtain ⟨k, rfl⟩ : ∃ m, k = m + 1 := ⟨k - 1, by omega⟩
    simp only [quartermasterref01_sum.l0]
    have hp : 2 ^ i ≤ 2 ^ 15 := Nat.pow_le_pow_right (by decide) (by omega)
    have hm : (a ^^^ b) % 2 ^ i < 2 ^ i := Nat.mod_lt _ (Nat.pow_pos (by decide))
    rw [if_pos (by omega), bit_f (by omega) (by omega) (by omega), bit_f (by omega) (by omega) (by omega), power_f (by omega) (by omega)]
    simp only [Option.bind_some]
    have h2 : (i : Int) + 1 = ((i + 1 : Nat) : Int) := by omega
    have hs := mod_step (a ^^^ b) i
    rw [Nat.testBit_xor] at hs
    have hi := ih (i + 1) k (by omega) (by omega)
    rw [hs] at hi
    rw [w64 (x := (i : Int) + 1) (by omega) (by omega), h2]
    have hw : ∀ x y : Nat, x < 2 ^ 16 → y < 2 ^ 16 → wrap64 ((x : Int) + (y : Int)) = ((x + y : Nat) : Int) := fun x y hx hy => by rw [w64 (by omega) (by omega)]; omega
    rw [hw _ _ (by omega) (by omega)]
    cases h3 : a.testBit i <;> cases h4 : b.testBit i <;> rw [h3, h4] at hi
    · rw [if_pos rfl]; exact hi
    · rw [if_neg (by decide)]; exact hi
    · rw [if_neg (by decide)]; exact hi
    · rw [if_pos rfl]; exact hi
theorem sum_f {a b k : Nat} (ha : a < 2 ^ 16) (hb : b < 2 ^ 16) (hk : 40 ≤ k) : quartermasterref01_sum.f k (a : Int) (b : Int) = some ((a ^^^ b : Nat) : Int) := by
  have := sum_l0 a b ha hb 16 0 k (by omega) (by omega)
  rw [Nat.pow_zero, Nat.mod_one] at this
  exact this
theorem mul_l1 : ∀ (d n k : Nat), d ≤ 8 → n < 2 ^ 16 → 50 + d < k →
    quartermasterref01_Mul.l1 k (n : Int) ((d : Int) + 7) = some (((F.rd d n) % 256 : Nat) : Int) := by
  intro d
  induction d with
  | zero =>
    intro n k hd hn hk
    obtain ⟨k, rfl⟩ : ∃ m, k = m + 1 := ⟨k - 1, by omega⟩
    simp only [quartermasterref01_Mul.l1]
    rw [if_neg (by omega)]
    rfl
  | succ d ih =>
    intro n k hd hn hk
    obtain ⟨k, rfl⟩ : ∃ m, k = m + 1 := ⟨k - 1, by omega⟩
    simp only [quartermasterref01_Mul.l1]
    have hp : 2 ^ d ≤ 2 ^ 7 := Nat.pow_le_pow_right (by decide) (by omega)
    have h1 : (((d + 1 : Nat) : Int) + 7) = ((d + 8 : Nat) : Int) := by omega
    have h2 : ((d + 8 : Nat) : Int) - 8 = (d : Int) := by omega
    have h3 : ((d + 8 : Nat) : Int) - 1 = (d : Int) + 7 := by omega
    rw [h1, if_pos (by omega), bit_f (by omega) (by omega) (by omega)]
    simp only [Option.bind_some]
    rw [h2, h3, w64 (x := (d : Int)) (by omega) (by omega), w64 (x := (d : Int) + 7) (by omega) (by omega), power_f (by omega) (by omega)]
    simp only [Option.bind_some]
    have h5 : (285 : Int) * ((2 ^ d : Nat) : Int) = ((285 * 2 ^ d : Nat) : Int) := by omega
    rw [w64 (by omega) (by omega), h5, sum_f hn (by omega) (by omega)]
    simp only [Option.bind_some]
    show _ = some (((F.rd d (if n.testBit (d + 8) then n ^^^ (285 * 2 ^ d) else n)) % 256 : Nat) : Int)
    cases h6 : n.testBit (d + 8)
    · rw [if_neg (by decide), if_neg (by decide)]
      exact ih n k (by omega) hn (by omega)
    · rw [if_pos (by decide), if_pos rfl]
      exact ih _ k (by omega) (Nat.xor_lt_two_pow hn (by omega)) (by omega)
theorem mul_l0 (a b : Nat) (ha : a < 256) (hb : b < 256) : ∀ (d i k : Nat), i + d = 8 → 60 + d < k →
    quartermasterref01_Mul.l0 k (a : Int) (b : Int) ((pr i a b : Nat) : Int) (i : Int) = some (((F.rd 8 (pr 8 a b)) % 256 : Nat) : Int) := by
  intro d
  induction d with
  | zero =>
    intro i k h hk
    obtain ⟨k, rfl⟩ : ∃ m, k = m + 1 := ⟨k - 1, by omega⟩
    simp only [quartermasterref01_Mul.l0]
    rw [if_neg (by omega), show i = 8 by omega]
    exact mul_l1 8 _ k (by omega) (pr_lt 8 (by omega) b ha) (by omega)
  | succ d ih =>
    intro i k h hk
    obtain ⟨k, rfl⟩ : ∃ m, k = m + 1 := ⟨k - 1, by omega⟩
    simp only [quartermasterref01_Mul.l0]
    have hp : 2 ^ i ≤ 2 ^ 7 := Nat.pow_le_pow_right (by decide) (by omega)
    have hq : a * 2 ^ i ≤ 255 * 2 ^ 7 := Nat.mul_le_mul (by omega) hp
    have hn := pr_lt i (by omega) b ha
    have h2 : (i : Int) + 1 = ((i + 1 : Nat) : Int) := by omega
    rw [if_pos (by omega), w64 (x := (b : Int)) (by omega) (by omega), w64 (x := (a : Int)) (by omega) (by omega), bit_f (by omega) (by omega) (by omega)]
    simp only [Option.bind_some]
    rw [w64 (x := (i : Int) + 1) (by omega) (by omega), h2, power_f (by omega) (by omega)]
    simp only [Option.bind_some]
    have h5 : (a : Int) * ((2 ^ i : Nat) : Int) = ((a * 2 ^ i : Nat) : Int) := by rw [Int.natCast_mul]
    rw [h5, w64 (by omega) (by omega), sum_f hn (by omega) (by omega)]
    simp only [Option.bind_some]
    have hi := ih (i + 1) k (by omega) (by omega)
    have hs : pr (i + 1) a b = pr i a b ^^^ (if b.testBit i then a * 2 ^ i else 0) := rfl
    rw [hs] at hi
    cases h6 : b.testBit i <;> rw [h6] at hi
    · rw [if_neg (by decide)]
      rw [if_neg (by decide), Nat.xor_zero] at hi
      exact hi
    · rw [if_pos (by decide)]
      rw [if_pos rfl] at hi
      exact hi
theorem mul_f {a b k : Nat} (ha : a < 256) (hb : b < 256) (hk : 70 ≤ k) : quartermasterref01_Mul.f k (a : Int) (b : Int) = some ((gm a b : Nat) : Int) := by
  have := mul_l0 a b ha hb 8 0 k (by omega) (by omega)
  rw [← gm_rd ha hb, Nat.mod_eq_of_lt (gm_lt a b)] at this
  exact this
theorem add_f {a b k : Nat} (ha : a < 256) (hb : b < 256) (hk : 70 ≤ k) : quartermasterref01_Add.f k (a : Int) (b : Int) = some ((a ^^^ b : Nat) : Int) := by
  unfold quartermasterref01_Add.f
  rw [w64 (by omega) (by omega), w64 (by omega) (by omega), sum_f (by omega) (by omega) (by omega)]
  simp only [Option.bind_some]
  have := xor_lt ha hb
  rw [show ((a ^^^ b : Nat) : Int) % 256 = ((a ^^^ b : Nat) : Int) by omega]
theorem div_l0 (a b : Nat) (ha : a < 256) (hb : b < 256) (hb0 : b ≠ 0) : ∀ (d i k : Nat), i + d = gd a b → 80 + d < k →
    quartermasterref01_Div.l0 k (a : Int) (b : Int) (i : Int) = some (((gd a b : Nat) : Int), 0) := by
  intro d
  have hg := gd_lt a b
  induction d with
  | zero =>
    intro i k h hk
    obtain ⟨k, rfl⟩ : ∃ m, k = m + 1 := ⟨k - 1, by omega⟩
    simp only [quartermasterref01_Div.l0]
    rw [if_pos (by omega), show (i : Int) % 256 = (i : Int) by omega, mul_f (by omega) hb (by omega)]
    simp only [Option.bind_some]
    rw [show i = gd a b by omega, gd_gm ha hb hb0, if_pos rfl]
  | succ d ih =>
    intro i k h hk
    obtain ⟨k, rfl⟩ : ∃ m, k = m + 1 := ⟨k - 1, by omega⟩
    simp only [quartermasterref01_Div.l0]
    rw [if_pos (by omega), show (i : Int) % 256 = (i : Int) by omega, mul_f (by omega) hb (by omega)]
    simp only [Option.bind_some]
    have hne : ¬ gm i b = a := by
      intro he
      have := gd_gm ha hb hb0
      have := gm_cancel (a := i) (c := gd a b) (by omega) hg hb hb0 (he.trans this.symm)
      omega
    rw [if_neg (by omega), w64 (by omega) (by omega)]
    exact ih (i + 1) k (by omega) (by omega)
theorem div_f {a b k : Nat} (ha : a < 256) (hb : b < 256) (hk : 400 ≤ k) : quartermasterref01_Div.f k (a : Int) (b : Int) = some (if b = 0 then (0, 8) else (((gd a b : Nat) : Int), 0)) := by
  unfold quartermasterref01_Div.f
  by_cases h : b = 0
  · rw [if_pos (by omega), if_pos h]
  · rw [if_neg (by omega), if_neg h]
    have hg := gd_lt a b
    exact div_l0 a b ha hb h (gd a b) 0 k (by omega) (by omega)
end Go.Proofs.Ythblmkailhdhlaa.R
/- Walks over package gf: the closure of New, powers, New, tables. -/
namespace Go.Proofs.Ythblmkailhdhlaa.Gf
set_option linter.unusedVariables false
open Go.RowKit Go.Proofs.Ythblmkailhdhlaa.F
/-- Only the block b has changed: it is C now. -/
structure PutTo (b : Nat) (C : Array Value) (w w' : World) : Prop where
  os : w'.os = w.os
  tape : w'.tape = w.tape
  output : w'.output = w.output
  size : w'.heap.size = w.heap.size
  block : w'.heap[b]? = some (.cells C 39 (0, 0))
  other : ∀ k, k ≠ b → w'.heap[k]? = w.heap[k]?
theorem PutTo.set {b : Nat} {C : Array Value} {w w' : World} (h : PutTo b C w w') (o : Nat) (v : Value) : PutTo b (C.setIfInBounds o v) w (w'.setCell ⟨b, o, none⟩ v) :=
  ⟨h.os, h.tape, h.output, by simp [World.setCell, h.size], by simp [World.setCell, Array.getElem?_modify, h.block], fun k hk => by
    rw [Below.heap_setCell _ _ _ _ hk]; exact h.other k hk⟩
theorem PutTo.drew {b : Nat} {C : Array Value} {w w' : World} (h : PutTo b C w w') : PutTo b C w w'.drew := ⟨h.os, h.tape, h.output, h.size, h.block, h.other⟩
theorem PutTo.trans {b : Nat} {C C' : Array Value} {w w' w'' : World} (h : PutTo b C w w') (h' : PutTo b C' w' w'') : PutTo b C' w w'' :=
  ⟨h'.os.trans h.os, h'.tape.trans h.tape, h'.output.trans h.output, h'.size.trans h.size, h'.block, fun k hk => (h'.other k hk).trans (h.other k hk)⟩
set_option maxHeartbeats 1000000 in
theorem put_calls (n a : Nat) (hn : n < 255) (ha : a < 256) (C : Array Value) (hC : C.size = 767) (fb cb : Nat) (w : World)
    (hf : w.heap[fb]? = some (.cells C 39 (0, 0))) (hc : w.heap[cb]? = some (.cells #[.pointer (some ⟨fb, 0, none⟩)] 23 (0, 0))) :
    Calls Try.prog 58 #[.int .i64 n, .int .u8 a, .pointer (some ⟨cb, 0, none⟩)] w fun e w' => e = .returned (.tuple #[]) ∧ PutTo fb (((C.setIfInBounds n (.int .u8 a)).setIfInBounds (n + 255) (.int .u8 a)).setIfInBounds (510 + a) (.int .i64 n)) w w' := by
  have hne : cb ≠ fb := by
    rintro rfl
    rw [hf] at hc
    injection hc with hc
    injection hc with _ hc
    cases hc
  have h0 : PutTo fb C w w := ⟨rfl, rfl, rfl, rfl, hf, fun _ _ => rfl⟩
  have H0 := Lib.hid h0
  clear h0
  have hp := cell_of_one hc
  have c1 : w.cell? ⟨fb, n, none⟩ = some (C[n]'(by omega)) := by simp [World.cell?, hf]
  have c2 : w.cell? ⟨fb, n + 255, none⟩ = some (C[n + 255]'(by omega)) := by simp [World.cell?, hf]
  have c3 : w.cell? ⟨fb, 510 + a, none⟩ = some (C[510 + a]'(by omega)) := by simp [World.cell?, hf]
  have f1 : w.frozen? ⟨fb, n, none⟩ = false := by simp [World.frozen?, hf]
  have f2 : w.frozen? ⟨fb, n + 255, none⟩ = false := by simp [World.frozen?, hf]
  have f3 : w.frozen? ⟨fb, 510 + a, none⟩ = false := by simp [World.frozen?, hf]
  clear hf hc
  go_enter Try.func58, Try.ntmps58
  go_wp2
  go_region
  all_goals go_wp2
  all_goals go_end0
  all_goals exact ⟨rfl, (((H0.out.set _ _).set _ _).set _ _).drew⟩
/-- The tables' cells, n powers of which have been laid. -/
def tabAt (n : Nat) : Array Value :=
  (((List.range 510).map fun i => Value.int .u8 (eAt n i)) ++ ((List.range 256).map fun v => Value.int .i64 (lAt n v)) ++ [Value.bool true]).toArray
theorem tabAt_size (n : Nat) : (tabAt n).size = 767 := by simp [tabAt]
theorem tabAt_get (n i : Nat) : (tabAt n)[i]? = if i < 510 then some (.int .u8 (eAt n i)) else if i < 766 then some (.int .i64 (lAt n (i - 510))) else if i = 766 then some (.bool true) else none := by
  unfold tabAt
  rw [List.getElem?_toArray]
  by_cases h1 : i < 510
  · rw [if_pos h1, List.getElem?_append_left (by simp; omega), List.getElem?_append_left (by simp; omega), List.getElem?_map, List.getElem?_range h1]; rfl
  · rw [if_neg h1]
    by_cases h2 : i < 766
    · rw [if_pos h2, List.getElem?_append_left (by simp; omega), List.getElem?_append_right (by simp; omega), List.getElem?_map]
      simp only [List.length_map, List.length_range]
      rw [List.getElem?_range (by omega)]; rfl
    · rw [if_neg h2, List.getElem?_append_right (by simp; omega)]
      simp only [List.length_append, List.length_map, List.length_range]
      by_cases h3 : i = 766
      · subst h3; rfl
      · rw [if_neg h3]
        rw [List.getElem?_eq_none]
        simp; omega
theorem tabAt_step (n : Nat) (hn : n < 255) : (((tabAt n).setIfInBounds n (.int .u8 (pw n))).setIfInBounds (n + 255) (.int .u8 (pw n))).setIfInBounds (510 + pw n) (.int .i64 n) = tabAt (n + 1) := by
  apply Array.ext_getElem?
  intro i
  have hp := pw_lt n
  rw [tabAt_get, Array.getElem?_setIfInBounds, Array.getElem?_setIfInBounds, Array.getElem?_setIfInBounds, tabAt_get]
  simp only [Array.size_setIfInBounds, tabAt_size]
  by_cases h1 : i < 510
  · rw [if_neg (show ¬ 510 + pw n = i by omega), if_pos h1, if_pos h1, eAt_succ n i hn h1]
    by_cases h2 : n + 255 = i
    · rw [if_pos h2, if_pos (show n + 255 < 767 by omega), if_pos h2.symm]
    · rw [if_neg h2, if_neg (show ¬ i = n + 255 by omega)]
      by_cases h3 : n = i
      · rw [if_pos h3, if_pos (show n < 767 by omega), if_pos h3.symm]
      · rw [if_neg h3, if_neg (show ¬ i = n by omega)]
  · rw [if_neg h1, if_neg h1, if_neg (show ¬ n + 255 = i by omega), if_neg (show ¬ n = i by omega)]
    by_cases h2 : i < 766
    · rw [if_pos h2, if_pos h2]
      by_cases h3 : 510 + pw n = i
      · rw [if_pos h3, if_pos (by omega)]
        have : i - 510 = pw n := by omega
        rw [this]; unfold lAt; rw [if_pos rfl]
      · rw [if_neg h3]
        show some (Value.int .i64 (lAt n (i - 510))) = some (Value.int .i64 (lAt (n + 1) (i - 510)))
        conv => rhs; unfold lAt
        rw [if_neg (by omega)]
    · rw [if_neg h2, if_neg h2, if_neg (by omega)]
theorem i64_xor_poly (p : Nat) (h : p < 256) : bits .xor .i64 ((p : Int) * 2) 285 = (((2 * p) ^^^ 285 : Nat) : Int) := by
  have h1 : ∀ p : Fin 256, bits .xor .i64 ((p.val : Int) * 2) 285 = (((2 * p.val) ^^^ 285 : Nat) : Int) := by decide +kernel
  exact h1 ⟨p, h⟩
set_option maxRecDepth 100000 in
set_option maxHeartbeats 1000000 in
theorem powers_calls (fb cb : Nat) (w : World)
    (hf : w.heap[fb]? = some (.cells (tabAt 0) 39 (0, 0))) (hc : w.heap[cb]? = some (.cells #[.pointer (some ⟨fb, 0, none⟩)] 23 (0, 0))) :
    Calls Try.prog 57 #[.func (.func 58) #[] #[.pointer (some ⟨cb, 0, none⟩)]] w fun e w' => e = .returned (.tuple #[]) ∧ PutTo fb (tabAt 255) w w' := by
  have hne : cb ≠ fb := by
    rintro rfl
    rw [hf] at hc
    injection hc with hc
    injection hc with _ hc
    cases hc
  have h0 : PutTo fb (tabAt 0) w w := ⟨rfl, rfl, rfl, rfl, hf, fun _ _ => rfl⟩
  have H0 := Lib.hid h0
  have HC := Lib.hid hc
  clear h0 hc hf
  go_enter Try.func57, Try.ntmps57
  go_wp2
  go_loopw [2, 4] (fun v2 v4 wr => ∃ n p : Nat, n ≤ 255 ∧ p < 256 ∧ v4 = .int .i64 n ∧ v2 = .int .i64 p ∧ Hid (p = pw n) ∧ Hid (PutTo fb (tabAt n) w wr)) (fun _ v _ => 255 - (intOf v).toNat)
  case atStart => exact ⟨0, 1, by omega, by omega, rfl, rfl, rfl, H0⟩
  case round =>
    obtain ⟨n, p, hn, hp, rfl, rfl, HP, HW⟩ := hrel
    by_cases hlt : n < 255
    · have H1 : Hid (wr.heap[cb]? = some (.cells #[.pointer (some ⟨fb, 0, none⟩)] 23 (0, 0))) := (HW.out.other cb hne).trans HC.out
      have hx : bits .xor .i64 ((p : Int) * 2) 285 = (((2 * p) ^^^ 285 : Nat) : Int) := i64_xor_poly p hp
      have HN : ∀ w1, PutTo fb ((((tabAt n).setIfInBounds n (Value.int IntKind.u8 ↑p)).setIfInBounds (n + 255) (Value.int IntKind.u8 ↑p)).setIfInBounds (510 + p) (Value.int IntKind.i64 ↑n)) wr w1 → Hid (PutTo fb (tabAt (n + 1)) w w1) := by
        intro w1 h
        rw [HP.out, tabAt_step n hlt] at h
        exact HW.out.trans h
      have HN' := Lib.hid HN
      clear HN
      by_cases hb : 255 < (p : Int) * 2
      · have HX : Hid (2 * p ^^^ 285 = pw (n + 1)) := by
          have h : 2 * p ^^^ 285 = xt p := by unfold xt; rw [if_pos (by omega)]
          show _ = _
          rw [h, HP.out]; rfl
        have HL : Hid (2 * p ^^^ 285 < 256) := by
          show _ < _
          rw [HX.out]; exact pw_lt _
        go_wp2_with fail
        refine (put_calls n p hlt hp (tabAt n) (tabAt_size n) fb cb _ HW.out.block H1.out).mono ?_
        rintro e w1 ⟨rfl, hput⟩
        have HU := HN'.out w1 hput
        clear hput
        go_wp2_with fail
        go_roundw
        case rel => exact ⟨n + 1, 2 * p ^^^ 285, by omega, HL.out, by go_num, rfl, HX, HU⟩
        case measure => simp [intOf]; omega
      · have HX : Hid (2 * p = pw (n + 1)) := by
          have h : 2 * p = xt p := by unfold xt; rw [if_neg (by omega)]
          show _ = _
          rw [h, HP.out]; rfl
        go_wp2_with fail
        refine (put_calls n p hlt hp (tabAt n) (tabAt_size n) fb cb _ HW.out.block H1.out).mono ?_
        rintro e w1 ⟨rfl, hput⟩
        have HU := HN'.out w1 hput
        clear hput
        go_wp2_with fail
        go_roundw
        case rel => exact ⟨n + 1, 2 * p, by omega, by omega, by go_num, by go_num, HX, HU⟩
        case measure => simp [intOf]; omega
    · go_wp2
      go_end0
      have h : n = 255 := by omega
      have h' := HW.out
      rw [h] at h'
      exact ⟨rfl, h'⟩
/-- The field's tables. -/
def tab : Array Value := tabAt 255
/-- The address leads to the field's tables. -/
def Tab (w : World) (b : Nat) : Prop := w.heap[b]? = some (.cells tab 39 (0, 0))
theorem new_heap1 (w : World) (o o' : Obj) : ((w.alloc o).alloc o').heap[w.heap.size]? = some o := by
  rw [Below.heap_alloc _ _ _ (by simp)]
  show (w.heap.push o)[_]? = _
  simp
theorem new_heap2 (w : World) (o o' : Obj) : ((w.alloc o).alloc o').heap[w.heap.size + 1]? = some o' := by
  show ((w.heap.push o).push o')[_]? = _
  rw [Array.getElem?_push]
  simp
theorem zero_tab : Try.zeroCells39.setIfInBounds 766 (.bool true) = tabAt 0 := by kernel_rfl
theorem below_put {w w' : World} {o o' : Obj} {C : Array Value} (h : PutTo w.heap.size C ((w.alloc o).alloc o') w') : Below w.heap.size w w' :=
  (((Below.refl w.heap.size w).alloc (Nat.le_refl _) o).alloc (by simp) o').trans ⟨h.os, h.tape, h.output, by rw [h.size]; exact Nat.le_refl _, fun k hk => h.other k (by omega)⟩
set_option maxRecDepth 100000 in
set_option maxHeartbeats 1000000 in
theorem new_calls (w : World) :
    Calls Try.prog 24 #[] w fun e w' => e = .returned (.pointer (some ⟨w.heap.size, 0, none⟩)) ∧ Tab w' w.heap.size ∧ Below w.heap.size w w' := by
  have HB : Hid (∀ w1, PutTo w.heap.size (tabAt 255) ((w.alloc (Obj.cells (tabAt 0) 39)).alloc (Obj.cells #[Value.pointer (some { block := w.heap.size, off := 0 })] 23)) w1 → Below w.heap.size w w1 ∧ Tab w1 w.heap.size ∧ w1.cell? ⟨w.heap.size + 1, 0, none⟩ = some (.pointer (some ⟨w.heap.size, 0, none⟩))) := fun w1 h =>
    ⟨below_put h, h.block, cell_of_one ((h.other _ (by omega)).trans (new_heap2 _ _ _))⟩
  go_enter Try.func24, Try.ntmps24
  go_wp2_with fail
  rw [zero_tab]
  refine (powers_calls w.heap.size (w.heap.size + 1) _ (new_heap1 _ _ _) (new_heap2 _ _ _)).mono ?_
  rintro e w1 ⟨rfl, hp⟩
  obtain ⟨hb, ht, hc⟩ := HB.out w1 hp
  have HU := Lib.hid hb
  have HT := Lib.hid ht
  clear hp hb ht
  go_wp2_with fail
  go_ret
  exact ⟨rfl, HT.out, HU.out⟩
theorem tab_get (i : Nat) : tab[i]? = if i < 510 then some (.int .u8 (pw i)) else if i < 766 then some (.int .i64 (lg (i - 510))) else if i = 766 then some (.bool true) else none := by
  unfold tab
  rw [tabAt_get]
  by_cases h : i < 510
  · rw [if_pos h, if_pos h, eAt_255 h]
  · rw [if_neg h, if_neg h]; rfl
theorem cell_block {w : World} {b t : Nat} {C : Array Value} (h : w.heap[b]? = some (.cells C t (0, 0))) (i : Nat) : w.cell? ⟨b, i, none⟩ = C[i]? := by
  show (match w.heap[b]? with | some (.cells c _ _) => _ | _ => _) = _
  rw [h]; rfl
theorem Tab.exp {w : World} {b : Nat} (h : Tab w b) {i : Nat} (hi : i < 510) : w.cell? ⟨b, i, none⟩ = some (.int .u8 (pw i)) := by
  rw [cell_block h, tab_get, if_pos hi]
theorem Tab.log {w : World} {b : Nat} (h : Tab w b) {i : Nat} (hi : i < 256) : w.cell? ⟨b, 510 + i, none⟩ = some (.int .i64 (lg i)) := by
  rw [cell_block h, tab_get, if_neg (by omega), if_pos (by omega), show 510 + i - 510 = i by omega]
theorem Tab.made {w : World} {b : Nat} (h : Tab w b) : w.cell? ⟨b, 766, none⟩ = some (.bool true) := by
  rw [cell_block h, tab_get, if_neg (by omega), if_neg (by omega), if_pos rfl]
theorem Tab.below {w w' : World} {b : Nat} (h : Tab w b) (hb : Below w.heap.size w w') : Tab w' b := by
  have hl : b < w.heap.size := (Array.getElem?_eq_some_iff.1 h).1
  exact (hb.block b hl).trans h
end Go.Proofs.Ythblmkailhdhlaa.Gf
/- Walks over package gf: tables, and the methods. -/
namespace Go.Proofs.Ythblmkailhdhlaa.Gf
set_option linter.unusedVariables false
open Go.RowKit Go.Proofs.Ythblmkailhdhlaa.F
set_option maxRecDepth 100000 in
set_option maxHeartbeats 1000000 in
theorem tables_tab (w : World) (b : Nat) (h : Tab w b) :
    Calls Try.prog 59 #[.pointer (some ⟨b, 0, none⟩)] w fun e w' => e = .returned (.pointer (some ⟨b, 0, none⟩)) ∧ w = w' := by
  have hm := h.made
  clear h
  go_enter Try.func59, Try.ntmps59
  go_wp2_with fail
  go_ret
  exact ⟨rfl, rfl⟩
theorem u8_xor' (a b : Nat) (ha : a < 256) (hb : b < 256) : bits .xor .u8 (a : Int) (b : Int) = ((a ^^^ b : Nat) : Int) := u8_xor_nat a b ha hb
set_option maxRecDepth 100000 in
set_option maxHeartbeats 1000000 in
theorem add_calls (w : World) (p : Option Addr) (a b : Nat) (ha : a < 256) (hb : b < 256) :
    Calls Try.prog 34 #[.pointer p, .int .u8 a, .int .u8 b] w fun e w' => e = .returned (.int .u8 ((a ^^^ b : Nat) : Int)) ∧ w = w' := by
  have hx := u8_xor' a b ha hb
  go_enter Try.func34, Try.ntmps34
  go_wp2_with fail
  go_ret
  exact ⟨rfl, rfl⟩
set_option maxRecDepth 100000 in
set_option maxHeartbeats 1000000 in
theorem mul_zero (w : World) (p : Option Addr) (a b : Nat) (h : a = 0 ∨ b = 0) :
    Calls Try.prog 32 #[.pointer p, .int .u8 a, .int .u8 b] w fun e w' => e = .returned (.int .u8 (gm a b)) ∧ w = w' := by
  have h0 : gm a b = 0 := by unfold gm; rw [if_pos h]
  rw [h0]
  clear h0
  by_cases h1 : a = 0
  · have hz : ((a : Int) == 0) = true := by subst h1; rfl
    clear h h1
    go_enter Try.func32, Try.ntmps32
    go_wp2_with fail
    go_ret
    exact ⟨rfl, rfl⟩
  · have h2 : b = 0 := by omega
    have hz : ((a : Int) == 0) = false := by simp; exact h1
    have hy : ((b : Int) == 0) = true := by subst h2; rfl
    clear h h1 h2
    go_enter Try.func32, Try.ntmps32
    go_wp2_with fail
    go_ret
    exact ⟨rfl, rfl⟩
set_option maxRecDepth 100000 in
set_option maxHeartbeats 1000000 in
theorem mul_some (w : World) (p : Option Addr) (a b : Nat) (ha : a < 256) (hb : b < 256) (ha0 : a ≠ 0) (hb0 : b ≠ 0) (R : Nat → World → Prop)
    (ht : Calls Try.prog 59 #[.pointer p] w fun e w' => ∃ c, e = .returned (.pointer (some ⟨c, 0, none⟩)) ∧ Tab w' c ∧ R c w') :
    Calls Try.prog 32 #[.pointer p, .int .u8 a, .int .u8 b] w fun e w' => e = .returned (.int .u8 (gm a b)) ∧ ∃ n c w1, R c w1 ∧ w' = w1.drewN n := by
  have hg : gm a b = pw (lg a + lg b) := by unfold gm; rw [if_neg (by omega)]
  rw [hg]
  have HT := Lib.hid ht
  have hz : ((a : Int) == 0) = false := by simp; exact ha0
  have hy : ((b : Int) == 0) = false := by simp; exact hb0
  have la := lg_lt ha ha0
  have lb := lg_lt hb hb0
  clear hg ht ha0 hb0
  go_enter Try.func32, Try.ntmps32
  go_wp2_with fail
  refine HT.out.mono ?_
  rintro e w1 ⟨c, rfl, ht, hr⟩
  have h1 := ht.log ha
  have h2 := ht.log hb
  have h3 := ht.exp (i := lg a + lg b) (by omega)
  have HR := Lib.hid hr
  clear ht hr
  go_wp2_with fail
  go_quiet (fail)
  go_wp2_with fail
  go_ret
  exact ⟨rfl, _, c, w1, HR.out, rfl⟩
set_option maxRecDepth 100000 in
set_option maxHeartbeats 1000000 in
theorem div_zero (w : World) (p : Option Addr) (a b : Nat) (h : b = 0) :
    Calls Try.prog 25 #[.pointer p, .int .u8 a, .int .u8 b] w fun e w' => e = .returned (.tuple #[.int .u8 0, .int .i64 8]) ∧ w = w' := by
  have hy : ((b : Int) == 0) = true := by subst h; rfl
  clear h
  go_enter Try.func25, Try.ntmps25
  go_wp2_with fail
  go_ret2
  exact ⟨rfl, rfl⟩
set_option maxRecDepth 100000 in
set_option maxHeartbeats 1000000 in
theorem div_none (w : World) (p : Option Addr) (a b : Nat) (h : b ≠ 0) (h' : a = 0) :
    Calls Try.prog 25 #[.pointer p, .int .u8 a, .int .u8 b] w fun e w' => e = .returned (.tuple #[.int .u8 0, .int .i64 0]) ∧ w = w' := by
  have hy : ((b : Int) == 0) = false := by simp; exact h
  have hz : ((a : Int) == 0) = true := by subst h'; rfl
  clear h h'
  go_enter Try.func25, Try.ntmps25
  go_wp2_with fail
  go_ret2
  exact ⟨rfl, rfl⟩
set_option maxRecDepth 100000 in
set_option maxHeartbeats 1000000 in
theorem div_some (w : World) (p : Option Addr) (a b : Nat) (ha : a < 256) (hb : b < 256) (ha0 : a ≠ 0) (hb0 : b ≠ 0) (R : Nat → World → Prop)
    (ht : Calls Try.prog 59 #[.pointer p] w fun e w' => ∃ c, e = .returned (.pointer (some ⟨c, 0, none⟩)) ∧ Tab w' c ∧ R c w') :
    Calls Try.prog 25 #[.pointer p, .int .u8 a, .int .u8 b] w fun e w' => e = .returned (.tuple #[.int .u8 (gd a b), .int .i64 0]) ∧ ∃ n c w1, R c w1 ∧ w' = w1.drewN n := by
  have hg : gd a b = pw (lg a + 255 - lg b) := by unfold gd; rw [if_neg (by omega)]
  rw [hg]
  have HT := Lib.hid ht
  have hz : ((a : Int) == 0) = false := by simp; exact ha0
  have hy : ((b : Int) == 0) = false := by simp; exact hb0
  have la := lg_lt ha ha0
  have lb := lg_lt hb hb0
  clear hg ht ha0 hb0
  go_enter Try.func25, Try.ntmps25
  go_wp2_with fail
  refine HT.out.mono ?_
  rintro e w1 ⟨c, rfl, ht, hr⟩
  have h1 := ht.log ha
  have h2 := ht.log hb
  have h3 := ht.exp (i := lg a + 255 - lg b) (by omega)
  have HR := Lib.hid hr
  clear ht hr
  go_wp2_with fail
  go_quiet (fail)
  go_wp2_with fail
  go_ret2
  exact ⟨rfl, _, c, w1, HR.out, rfl⟩
/-! ### The contracts: over numbers that are bytes; whatever the address leads to. -/
theorem below_drewN' {B : Nat} {a w : World} (n : Nat) (h : Below B a w) : Below B a (w.drewN n) := by induction n with | zero => exact h | succ n ih => exact ih.drew
theorem mul_tab (w : World) (c : Nat) (hc : Tab w c) (a b : Int) (ha0 : 0 ≤ a) (ha : a < 256) (hb0 : 0 ≤ b) (hb : b < 256) :
    Calls Try.prog 32 #[.pointer (some ⟨c, 0, none⟩), .int .u8 a, .int .u8 b] w fun e w' => e = .returned (.int .u8 (gm a.toNat b.toNat)) ∧ ∃ n, w' = w.drewN n := by
  obtain ⟨a, rfl⟩ := Int.eq_ofNat_of_zero_le ha0
  obtain ⟨b, rfl⟩ := Int.eq_ofNat_of_zero_le hb0
  rw [Int.toNat_natCast, Int.toNat_natCast]
  by_cases h : a = 0 ∨ b = 0
  · exact (mul_zero w _ a b h).mono fun e w' ⟨he, hw⟩ => ⟨he, 0, hw ▸ rfl⟩
  · refine (mul_some w _ a b (by omega) (by omega) (by omega) (by omega) (fun _ w1 => w = w1) ?_).mono fun e w' ⟨he, n, c, w1, hr, hw⟩ => ⟨he, n, by rw [hw, ← hr]⟩
    exact (tables_tab w c hc).mono fun e w' ⟨he, hw⟩ => ⟨c, he, hw ▸ hc, hw⟩
/-- What Div answers: the quotient, the error. -/
def dq (a b : Nat) : Nat × Nat := if b = 0 then (0, 8) else (gd a b, 0)
theorem div_tab (w : World) (c : Nat) (hc : Tab w c) (a b : Int) (ha0 : 0 ≤ a) (ha : a < 256) (hb0 : 0 ≤ b) (hb : b < 256) :
    Calls Try.prog 25 #[.pointer (some ⟨c, 0, none⟩), .int .u8 a, .int .u8 b] w fun e w' => e = .returned (.tuple #[.int .u8 (dq a.toNat b.toNat).1, .int .i64 (dq a.toNat b.toNat).2]) ∧ ∃ n, w' = w.drewN n := by
  obtain ⟨a, rfl⟩ := Int.eq_ofNat_of_zero_le ha0
  obtain ⟨b, rfl⟩ := Int.eq_ofNat_of_zero_le hb0
  rw [Int.toNat_natCast, Int.toNat_natCast]
  unfold dq
  by_cases h : b = 0
  · rw [if_pos h]
    exact (div_zero w _ a b h).mono fun e w' ⟨he, hw⟩ => ⟨he, 0, hw ▸ rfl⟩
  · rw [if_neg h]
    by_cases h1 : a = 0
    · rw [show gd a b = 0 from if_pos (.inl h1)]
      exact (div_none w _ a b h h1).mono fun e w' ⟨he, hw⟩ => ⟨he, 0, hw ▸ rfl⟩
    · refine (div_some w _ a b (by omega) (by omega) (by omega) (by omega) (fun _ w1 => w = w1) ?_).mono fun e w' ⟨he, n, c, w1, hr, hw⟩ => ⟨he, n, by rw [hw, ← hr]⟩
      exact (tables_tab w c hc).mono fun e w' ⟨he, hw⟩ => ⟨c, he, hw ▸ hc, hw⟩
set_option maxRecDepth 100000 in
set_option maxHeartbeats 1000000 in
theorem inv_tab (w : World) (c : Nat) (hc : Tab w c) (a : Int) (ha0 : 0 ≤ a) (ha : a < 256) :
    Calls Try.prog 27 #[.pointer (some ⟨c, 0, none⟩), .int .u8 a] w fun e w' => e = .returned (.tuple #[.int .u8 (dq 1 a.toNat).1, .int .i64 (dq 1 a.toNat).2]) ∧ ∃ n, w' = w.drewN n := by
  have HP := Lib.hid hc
  clear hc
  go_enter Try.func27, Try.ntmps27
  go_wp2_with fail
  refine (div_tab w c HP.out 1 a (by omega) (by omega) ha0 ha).mono ?_
  rintro e w1 ⟨rfl, hb⟩
  have HB := Lib.hid hb
  clear hb
  go_wp2_with fail
  go_ret2
  exact ⟨rfl, HB.out⟩
end Go.Proofs.Ythblmkailhdhlaa.Gf
/- The examples of chapter 1 (awake), walked. -/
namespace Go.Proofs.Ythblmkailhdhlaa.Gf
set_option linter.unusedVariables false
open Go.RowKit Go.Proofs.Ythblmkailhdhlaa.F
end Go.Proofs.Ythblmkailhdhlaa.Gf
/- The contracts of gf and of its reference over natural numbers, as the laws use them. -/
namespace Go.Proofs.Ythblmkailhdhlaa.Gf
set_option linter.unusedVariables false
open Go.RowKit Go.Proofs.Ythblmkailhdhlaa.F Go.Proofs.Ythblmkailhdhlaa.R Go.Proofs.Ythblmkailhdhlaa.G Go.Proofs.YthblmkailhdhlaaW.PrintWords
/-- A contract with another post. -/
theorem turned {P : Program} {f : Nat} {xs : Array Value} {w : World} {v v' : Value} {R : World → Prop} (h : Calls P f xs w fun e w' => e = .returned v ∧ R w') (hv : v = v') :
    Calls P f xs w fun e w' => e = .returned v' ∧ R w' := hv ▸ h
section
variable (w : World) (c : Nat) (hc : Tab w c)
include hc
theorem mul_n (a b : Nat) (ha : a < 256) (hb : b < 256) : Calls Try.prog 32 #[.pointer (some ⟨c, 0, none⟩), .int .u8 a, .int .u8 b] w fun e w' => e = .returned (.int .u8 (gm a b : Nat)) ∧ ∃ n, w' = w.drewN n :=
  mul_tab w c hc a b (by omega) (by omega) (by omega) (by omega)
theorem inv_n (a : Nat) (ha : a < 256) : Calls Try.prog 27 #[.pointer (some ⟨c, 0, none⟩), .int .u8 a] w fun e w' => e = .returned (.tuple #[.int .u8 (dq 1 a).1, .int .i64 (dq 1 a).2]) ∧ ∃ n, w' = w.drewN n :=
  inv_tab w c hc a (by omega) (by omega)
end
theorem add_n (w : World) (p : Option Addr) (a b : Nat) (ha : a < 256) (hb : b < 256) : Calls Try.prog 34 #[.pointer p, .int .u8 a, .int .u8 b] w fun e w' => e = .returned (.int .u8 (a ^^^ b : Nat)) ∧ ∃ n, w' = w.drewN n :=
  (add_calls w p a b ha hb).mono fun e w' ⟨he, hw⟩ => ⟨he, 0, hw ▸ rfl⟩
theorem refmul_n (w : World) (a b : Nat) (ha : a < 256) (hb : b < 256) : Calls Try.prog 33 #[.int .u8 a, .int .u8 b] w fun e w' => e = .returned (.int .u8 (gm a b : Nat)) ∧ ∃ n, w' = w.drewN n :=
  (quartermasterref01_Mul.calls 70 a b _ w (mul_f ha hb (by omega))).mono fun e w' ⟨he, hw⟩ => ⟨he, hw.out⟩
theorem refadd_n (w : World) (a b : Nat) (ha : a < 256) (hb : b < 256) : Calls Try.prog 35 #[.int .u8 a, .int .u8 b] w fun e w' => e = .returned (.int .u8 (a ^^^ b : Nat)) ∧ ∃ n, w' = w.drewN n :=
  (quartermasterref01_Add.calls 70 a b _ w (add_f ha hb (by omega))).mono fun e w' ⟨he, hw⟩ => ⟨he, hw.out⟩
theorem refdiv_n (w : World) (a b : Nat) (ha : a < 256) (hb : b < 256) : Calls Try.prog 26 #[.int .u8 a, .int .u8 b] w fun e w' => e = .returned (.tuple #[.int .u8 (dq a b).1, .int .i64 (dq a b).2]) ∧ ∃ n, w' = w.drewN n := by
  have h := div_f ha hb (show 400 ≤ 400 by omega)
  have h' : (if b = 0 then ((0, 8) : Int × Int) else (((gd a b : Nat) : Int), 0)) = ((((dq a b).1 : Nat) : Int), (((dq a b).2 : Nat) : Int)) := by
    unfold dq
    by_cases hb0 : b = 0
    · rw [if_pos hb0, if_pos hb0]; rfl
    · rw [if_neg hb0, if_neg hb0]; rfl
  rw [h'] at h
  exact (quartermasterref01_Div.calls 400 a b _ _ w h).mono fun e w' ⟨he, hw⟩ => ⟨he, hw.out⟩
end Go.Proofs.Ythblmkailhdhlaa.Gf
