/- The field of 256 numbers, in plain Lean: powers of two, logarithms, the product. -/
namespace Go.Proofs.Ythblmkailhdhlaa.F

/-- Times two. -/
def xt (a : Nat) : Nat := if 2 * a > 255 then (2 * a) ^^^ 285 else 2 * a
/-- Two's powers. -/
def pw : Nat → Nat
  | 0 => 1
  | n + 1 => xt (pw n)

theorem xt_lt {a : Nat} (h : a < 256) : xt a < 256 := by
  unfold xt
  split
  · have h1 : ∀ a : Fin 256, 2 * a.val > 255 → (2 * a.val) ^^^ 285 < 256 := by decide +kernel
    exact h1 ⟨a, h⟩ (by assumption)
  · omega
theorem pw_lt (n : Nat) : pw n < 256 := by
  induction n with
  | zero => decide
  | succ n ih => exact xt_lt ih

/-- What stands at a number's place among the powers, n of which have been laid. -/
def eAt (n i : Nat) : Nat := if i < n then pw i else if 255 ≤ i ∧ i < 255 + n then pw (i - 255) else 0
/-- Which power a number is, n of which have been laid. -/
def lAt : Nat → Nat → Nat
  | 0, _ => 0
  | n + 1, v => if v = pw n then n else lAt n v

theorem eAt_zero (i : Nat) : eAt 0 i = 0 := by
  unfold eAt
  rw [if_neg (by omega), if_neg (by omega)]
theorem eAt_succ (n i : Nat) (hn : n < 255) (hi : i < 510) : eAt (n + 1) i = if i = n + 255 then pw n else if i = n then pw n else eAt n i := by
  unfold eAt
  by_cases h1 : i = n
  · subst h1; rw [if_pos (by omega), if_neg (by omega), if_pos rfl]
  · by_cases h2 : i = n + 255
    · subst h2; rw [if_neg (by omega), if_pos (by omega), if_pos rfl, show n + 255 - 255 = n by omega]
    · rw [if_neg h2, if_neg h1]
      by_cases h3 : i < n
      · rw [if_pos h3, if_pos (by omega)]
      · rw [if_neg h3, if_neg (by omega)]
        by_cases h4 : 255 ≤ i ∧ i < 255 + n
        · rw [if_pos h4, if_pos (by omega)]
        · rw [if_neg h4, if_neg (by omega)]

/-- The powers, one behind the other. -/
def pws : Nat → Nat → List Nat
  | 0, _ => []
  | k + 1, a => a :: pws k (xt a)
theorem pws_get (k : Nat) : ∀ (m i : Nat), i < k → (pws k (pw m))[i]? = some (pw (m + i)) := by
  induction k with
  | zero => intro m i h; omega
  | succ k ih =>
    intro m i h
    cases i with
    | zero => rfl
    | succ i =>
      show (pws k (xt (pw m)))[i]? = _
      rw [show xt (pw m) = pw (m + 1) from rfl, ih (m + 1) i (by omega), show m + 1 + i = m + (i + 1) by omega]

theorem pw_get {i : Nat} (h : i < 255) : pw i = (pws 255 1).getD i 0 := by
  have := pws_get 255 0 i h
  rw [show pw 0 = 1 from rfl] at this
  rw [List.getD_eq_getElem?_getD, this, Nat.zero_add]; rfl

theorem lAt_spec (v : Nat) : ∀ n, (∃ i, i < n ∧ pw i = v) → lAt n v < n ∧ pw (lAt n v) = v
  | 0, ⟨i, h, _⟩ => by omega
  | n + 1, ⟨i, h, e⟩ => by
    unfold lAt
    by_cases hv : v = pw n
    · rw [if_pos hv]; exact ⟨by omega, hv.symm⟩
    · rw [if_neg hv]
      have hi : i ≠ n := fun h' => hv (by rw [← e, h'])
      obtain ⟨h1, h2⟩ := lAt_spec v n ⟨i, by omega, e⟩
      exact ⟨by omega, h2⟩
theorem pws_mem : ∀ v : Fin 256, v.val ≠ 0 → v.val ∈ pws 255 1 := by decide +kernel
theorem pws_pos : ∀ x ∈ pws 255 1, x ≠ 0 := by decide +kernel
theorem pws_nodup : (pws 255 1).Nodup := by decide +kernel
theorem pws_len (k : Nat) : ∀ a, (pws k a).length = k := by
  induction k with
  | zero => intro a; rfl
  | succ k ih => intro a; simp [pws, ih]
theorem pw_onto {v : Nat} (h : v < 256) (h0 : v ≠ 0) : ∃ i, i < 255 ∧ pw i = v := by
  have := pws_mem ⟨v, h⟩ h0
  obtain ⟨i, hi, e⟩ := List.getElem_of_mem this
  rw [pws_len] at hi
  refine ⟨i, hi, ?_⟩
  have h1 := pws_get 255 0 i hi
  rw [show pw 0 = 1 from rfl, Nat.zero_add, List.getElem?_eq_getElem (by rw [pws_len]; exact hi)] at h1
  injection h1 with h1
  rw [← h1]; exact e
theorem pw_ne {i : Nat} (h : i < 255) : pw i ≠ 0 := by
  have h1 := pws_get 255 0 i h
  rw [show pw 0 = 1 from rfl, Nat.zero_add] at h1
  exact pws_pos _ (List.mem_of_getElem? h1)
theorem pw_inj {i j : Nat} (hi : i < 255) (hj : j < 255) (h : pw i = pw j) : i = j := by
  have h1 := pws_get 255 0 i hi
  have h2 := pws_get 255 0 j hj
  rw [show pw 0 = 1 from rfl, Nat.zero_add] at h1 h2
  rw [← h] at h2
  obtain ⟨a1, b1⟩ := List.getElem?_eq_some_iff.1 h1
  obtain ⟨a2, b2⟩ := List.getElem?_eq_some_iff.1 h2
  exact (List.getElem_inj pws_nodup).1 (b1.trans b2.symm)
theorem pw_255 : pw 255 = 1 := by
  have h : ∀ k m, pw (m + k) = (Nat.repeat xt k (pw m)) := by
    intro k
    induction k with
    | zero => intro m; rfl
    | succ k ih => intro m; show xt (pw (m + k)) = xt _; rw [ih]
  rw [show (255 : Nat) = 0 + 255 by rfl, h]
  decide +kernel
theorem pw_add_255 (n : Nat) : pw (n + 255) = pw n := by
  induction n with
  | zero => exact pw_255
  | succ n ih => rw [show n + 1 + 255 = (n + 255) + 1 by omega]; show xt _ = xt _; rw [ih]
theorem pw_mod (n : Nat) : pw (n % 255) = pw n := by
  have h : ∀ q r, pw (r + 255 * q) = pw r := by
    intro q
    induction q with
    | zero => intro r; rfl
    | succ q ih => intro r; rw [show r + 255 * (q + 1) = (r + 255 * q) + 255 by omega, pw_add_255, ih]
  have := h (n / 255) (n % 255)
  rw [Nat.mod_add_div] at this
  exact this.symm

/-- Which power a number is. -/
def lg (v : Nat) : Nat := lAt 255 v
theorem lg_lt {v : Nat} (h : v < 256) (h0 : v ≠ 0) : lg v < 255 := (lAt_spec v 255 (pw_onto h h0)).1
theorem pw_lg {v : Nat} (h : v < 256) (h0 : v ≠ 0) : pw (lg v) = v := (lAt_spec v 255 (pw_onto h h0)).2
theorem lg_pw (i : Nat) : lg (pw i) = i % 255 := by
  have h : pw i ≠ 0 := by rw [← pw_mod]; exact pw_ne (Nat.mod_lt _ (by omega))
  refine pw_inj (lg_lt (pw_lt i) h) (Nat.mod_lt _ (by omega)) ?_
  rw [pw_lg (pw_lt i) h, pw_mod]
theorem eAt_255 {i : Nat} (h : i < 510) : eAt 255 i = pw i := by
  unfold eAt
  by_cases h1 : i < 255
  · rw [if_pos h1]
  · rw [if_neg h1, if_pos (by omega), ← pw_add_255, show i - 255 + 255 = i by omega]

/-- The product. -/
def gm (a b : Nat) : Nat := if a = 0 ∨ b = 0 then 0 else pw (lg a + lg b)
/-- The quotient. -/
def gd (a b : Nat) : Nat := if a = 0 ∨ b = 0 then 0 else pw (lg a + 255 - lg b)
end Go.Proofs.Ythblmkailhdhlaa.F
