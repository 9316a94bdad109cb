/- What the document's 'solved' reckons. -/
import Derived.Test.YthblmkailhdhlaaD4
namespace Go.Proofs.Ythblmkailhdhlaa.Mat
set_option linter.unusedVariables false
set_option linter.unusedSimpArgs false
open Go.RowKit Go.Proofs.Ythblmkailhdhlaa.F Go.Proofs.Ythblmkailhdhlaa.R Go.Proofs.Ythblmkailhdhlaa.Given Go.Proofs.Ythblmkailhdhlaa.Gf Go.Proofs.YthblmkailhdhlaaW.PrintWords Go.Proofs.YthblmkailhdhlaaW.PrintLast Go.Proofs.YthblmkailhdhlaaW.PrintMore

/-! What it reckons. -/
def gdz (a b : Nat) : Nat := (dq a b).1
theorem gdz_lt (a b : Nat) : gdz a b < 256 := dq_lt a b
def augF (rows : List (List Nat)) (y : List Nat) (n : Nat) : Nat → Nat → Nat := fun i j => if j < n then el rows i j else y.getD i 0
def pv (f : Nat → Nat → Nat) (c : Nat) : Nat → Nat → Nat
  | 0, p => p
  | d + 1, p => if f p c = 0 then pv f c d (p + 1) else p
def elimI (c i : Nat) (f : Nat → Nat → Nat) : Nat → Nat → Nat := if i = c ∨ f c c = 0 then f else addF i c (gdz (f i c) (f c c)) f
def elimN (c : Nat) : Nat → (Nat → Nat → Nat) → (Nat → Nat → Nat)
  | 0, f => f
  | i + 1, f => elimI c i (elimN c i f)
def stepN (n : Nat) : Nat → (Nat → Nat → Nat) → (Nat → Nat → Nat)
  | 0, f => f
  | c + 1, f => elimN c n (swF c (pv (stepN n c f) c (n - 1 - c) c) (stepN n c f))
def solvedL (n : Nat) (rows : List (List Nat)) (y : List Nat) : List Nat := (List.range n).map fun i => gdz (stepN n n (augF rows y n) i n) (stepN n n (augF rows y n) i i)
def partF (i c x : Nat) (f : Nat → Nat → Nat) (k : Nat) : Nat → Nat → Nat := fun r j => if r = i ∧ j < k then f r j ^^^ gm x (f c j) else f r j
def BF (f : Nat → Nat → Nat) : Prop := ∀ i j, f i j < 256
theorem BF.aug {n : Nat} {rows : List (List Nat)} {y : List Nat} (hr : Bytes rows) (hy : ∀ x ∈ y, x < 256) : BF (augF rows y n) := fun i j => by
  unfold augF
  split
  · exact el_lt hr i j
  · by_cases h : i < y.length
    · rw [getD_at h]; exact hy _ (List.getElem_mem h)
    · rw [getD_none h]; decide
theorem BF.sw {f : Nat → Nat → Nat} (h : BF f) (c p : Nat) : BF (swF c p f) := fun i j => swF_lt h i j
theorem BF.add {f : Nat → Nat → Nat} (h : BF f) (i c x : Nat) : BF (addF i c x f) := fun r j => by
  unfold addF
  split
  · exact xor_lt (h r j) (gm_lt _ _)
  · exact h r j
theorem BF.elimI {f : Nat → Nat → Nat} (h : BF f) (c i : Nat) : BF (elimI c i f) := by
  unfold Mat.elimI
  split
  · exact h
  · exact h.add _ _ _
theorem BF.elimN {f : Nat → Nat → Nat} (h : BF f) (c : Nat) : ∀ i, BF (elimN c i f)
  | 0 => h
  | i + 1 => (BF.elimN h c i).elimI c i
theorem BF.stepN {f : Nat → Nat → Nat} (h : BF f) (n : Nat) : ∀ c, BF (stepN n c f)
  | 0 => h
  | c + 1 => ((BF.stepN h n c).sw _ _).elimN c n
theorem pv_bound (f : Nat → Nat → Nat) (c : Nat) : ∀ d p, p ≤ pv f c d p ∧ pv f c d p ≤ p + d
  | 0, p => ⟨Nat.le_refl _, Nat.le_refl _⟩
  | d + 1, p => by
    unfold pv
    split
    · have := pv_bound f c d (p + 1); omega
    · omega
theorem partF_zero (i c x : Nat) (f : Nat → Nat → Nat) : partF i c x f 0 = f := by
  funext r j; unfold partF; rw [if_neg (by omega)]
theorem iget (k : IntKind) (q : Int) : intOf (.int k q) = q := rfl
theorem meas_s {n i : Nat} (hn : n ≤ 1000) (hi : i < n) : n - (intOf (.int .i64 (wrap64 ((i : Int) + 1)))).toNat < n - (intOf (.int .i64 (i : Int))).toNat := by
  have e : wrap64 ((i : Int) + 1) = ((i + 1 : Nat) : Int) := by rw [w64 (by omega) (by omega)]; rfl
  rw [iget, iget, e, Int.toNat_natCast, Int.toNat_natCast]
  exact Nat.sub_lt_sub_left hi (Nat.lt_succ_self i)
theorem next_s {i : Nat} (hi : i < 1000) : Value.int .i64 (wrap64 ((i : Int) + 1)) = Value.int .i64 ((i + 1 : Nat) : Int) := by
  rw [w64 (by omega) (by omega)]; rfl
theorem grid_snoc (i c : Nat) (f : Nat → Nat → Nat) : grid (i + 1) c f = grid i c f ++ [(List.range c).map (f i)] := by
  unfold Mat.grid; rw [List.range_succ, List.map_append]; rfl
theorem aug_row {n : Nat} {rows : List (List Nat)} {y l : List Nat} {i : Nat} (e : rows.getD i [] = l) (hl : l.length = n) : (List.range (n + 1)).map (augF rows y n i) = l ++ [y.getD i 0] := by
  rw [List.range_succ, List.map_append]
  congr 1
  · conv => rhs; rw [← list_range_el l n hl]
    refine List.map_congr_left fun j hj => ?_
    unfold augF
    rw [if_pos (List.mem_range.1 hj)]
    show (rows.getD i []).getD j 0 = _
    rw [e]
  · show [augF rows y n i n] = _
    unfold augF
    rw [if_neg (by omega)]

theorem partF_succ (i c x : Nat) (f : Nat → Nat → Nat) (k : Nat) (r q : Nat) : partF i c x f (k + 1) r q = (if r = i ∧ q = k then f i k ^^^ gm x (f c k) else partF i c x f k r q) := by
  unfold partF
  by_cases e : r = i
  · subst e
    by_cases e2 : q = k
    · subst e2
      rw [if_pos ⟨rfl, by omega⟩, if_pos ⟨rfl, rfl⟩]
    · by_cases e3 : q < k
      · rw [if_pos ⟨rfl, by omega⟩, if_neg (fun h => e2 h.2), if_pos ⟨rfl, e3⟩]
      · rw [if_neg (fun h => by omega), if_neg (fun h => e2 h.2), if_neg (fun h => e3 h.2)]
  · rw [if_neg (fun h => e h.1), if_neg (fun h => e h.1), if_neg (fun h => e h.1)]
end Go.Proofs.Ythblmkailhdhlaa.Mat
namespace Go.Proofs.Ythblmkailhdhlaa.Given
open Go.Proofs.Ythblmkailhdhlaa.Mat
def okB (l : List Int) : Prop := ∀ x ∈ l, 0 ≤ x ∧ x < 256
instance (l : List Int) : Decidable (okB l) := by unfold okB; exact inferInstance
def quartermasterref03_solved.f (rows : List (List Int)) (y : List Int) : Option (List Int) :=
  if okM rows ∧ okB y ∧ 1 ≤ rows.length ∧ rows.length ≤ 64 ∧ (∀ r ∈ rows, r.length = rows.length) ∧ y.length = rows.length then some (ints (solvedL rows.length (mnats rows) (nats y))) else none
end Go.Proofs.Ythblmkailhdhlaa.Given
