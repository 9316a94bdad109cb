/- MatOne. -/
import Derived.Test.YthblmkailhdhlaaNI
import Derived.Test.YthblmkailhdhlaaQ5
namespace Go.Proofs.Ythblmkailhdhlaa.Mat
set_option linter.unusedVariables false
open Go.RowKit Go.Proofs.Ythblmkailhdhlaa.F Go.Proofs.Ythblmkailhdhlaa.R Go.Proofs.Ythblmkailhdhlaa.G Go.Proofs.Ythblmkailhdhlaa.P Go.Proofs.Ythblmkailhdhlaa.Q Go.Proofs.Ythblmkailhdhlaa.Given Go.Proofs.Ythblmkailhdhlaa.Gf Go.Proofs.YthblmkailhdhlaaW.PrintWords

theorem rd_L1_natQ (l : List (List Int)) (j : Nat) : Q.rd_L1 l (j : Int) = l.getD j [] := rd_L1_nat l j
theorem cauAt_lt (c i k : Nat) : cauAt c i k < 256 := dq_lt _ _
theorem cau_rect (n c : Nat) : Rect n c (grid n c (cauAt c)) := grid_rect fun i j _ _ => cauAt_lt c i j
theorem xor_ne {a b : Nat} (h : a ≠ b) : a ^^^ b ≠ 0 := fun z => h (xor_eq z)
theorem cauAt_gm {c i k : Nat} (hi : c + i < 256) (hk : k < c) : gm (cauAt c i k) ((c + i) ^^^ k) = 1 := by
  unfold cauAt dq
  rw [if_neg (xor_ne (by omega))]
  exact gd_gm (by omega) (xor_lt hi (by omega)) (xor_ne (by omega))
theorem cauAt_ne {c i k : Nat} (hi : c + i < 256) (hk : k < c) : cauAt c i k ≠ 0 := fun z => by
  have := cauAt_gm hi hk
  rw [z, zero_gm] at this
  omega
theorem cau_f {n c : Nat} (hn : 1 ≤ n ∧ n ≤ 64) (hc : 1 ≤ c ∧ c ≤ 64) : mat_Cauchy.f (n : Int) (c : Int) = some (mints (grid n c (cauAt c)), 0) := by
  unfold mat_Cauchy.f
  rw [if_pos (by omega), Int.toNat_natCast, Int.toNat_natCast]

theorem one_l1 {x1 : Int} {x15 : List (List Int)} {M : List (List Nat)} {n c : Nat} (hM : Rect n c M) (hn : n ≤ 64) (hc : c ≤ 64) (hz : ∀ i k, i < n → k < c → el M i k ≠ 0) (i : Nat) (hi : i < n) : ∀ d j k, j + d = c → quartermasterlaw02_MatOne.l1 (k + d + 1) x1 x15 (mints M) (i : Int) (j : Int) = quartermasterlaw02_MatOne.l0 k x1 x15 (mints M) (wrap64 ((i : Int) + 1)) := by
  intro d
  obtain ⟨r, _, e, q, _⟩ := hM.row hi
  induction d with
  | zero =>
    intro j k h
    rw [quartermasterlaw02_MatOne.l1, mints_len, hM.1, if_pos (by omega), if_pos (by omega), rd_L1_natQ, mints_getD, ints_len, e, q, if_neg (by omega)]
  | succ d ih =>
    intro j k h
    show quartermasterlaw02_MatOne.l1 ((k + d + 1) + 1) _ _ _ _ _ = _
    have hne := hz i j hi (by omega)
    rw [quartermasterlaw02_MatOne.l1, mints_len, hM.1, if_pos (by omega), if_pos (by omega), rd_L1_natQ, rd_nat, mints_at, mints_getD, ints_len, e, q, if_pos (by omega), if_pos (by omega), if_neg (by omega), w64 (by omega) (by omega), ← succ_cast]
    exact ih (j + 1) k (by omega)
theorem one_l0' {x1 : Int} {x15 : List (List Int)} {M : List (List Nat)} {n c : Nat} (hM : Rect n c M) (hn : n ≤ 64) (hc : c ≤ 64) (hz : ∀ i k, i < n → k < c → el M i k ≠ 0) (hx : 0 ≤ x1 ∧ x1 ≤ n) (hs : ∀ k, 300000 ≤ k → quartermasterref02_Same.f k x15 ((mints M).take x1.toNat) = some true) : ∀ d i k, i + d = n → 300001 + d * (c + 2) ≤ k →
    quartermasterlaw02_MatOne.l0 k x1 x15 (mints M) (i : Int) = some true := by
  intro d
  induction d with
  | zero =>
    intro i k h hk
    obtain ⟨k, rfl⟩ : ∃ q, k = q + 1 := ⟨k - 1, by omega⟩
    rw [quartermasterlaw02_MatOne.l0, mints_len, hM.1, if_neg (by omega), if_pos hx.1, if_pos hx.2, hs k (by omega)]
    rfl
  | succ d ih =>
    intro i k h hk
    obtain ⟨k, rfl⟩ : ∃ q, k = q + 1 := ⟨k - 1, by omega⟩
    rw [Nat.succ_mul] at hk
    rw [quartermasterlaw02_MatOne.l0, mints_len, hM.1, if_pos (by omega)]
    obtain ⟨q, rfl⟩ : ∃ q, k = q + c + 1 := ⟨k - c - 1, by omega⟩
    have := one_l1 (x1 := x1) (x15 := x15) hM hn hc hz i (by omega) c 0 q (by omega)
    rw [show ((0 : Nat) : Int) = 0 from rfl] at this
    rw [this, w64 (by omega) (by omega), ← succ_cast]
    exact ih (i + 1) q (by omega) (by omega)
theorem grid_take (n m c : Nat) (g : Nat → Nat → Nat) (h : m ≤ n) : (grid n c g).take m = grid m c g := by
  apply List.ext_getElem?
  intro i
  rw [List.getElem?_take]
  by_cases hi : i < m
  · rw [if_pos hi, grid_get n c g (by omega), grid_get m c g hi]
  · rw [if_neg hi, List.getElem?_eq_none (by rw [grid_len]; omega)]
theorem one_j1 (a1 a2 : Int) (h1 : 1 ≤ a1 ∧ a1 ≤ 10) (h2 : 1 ≤ a2 ∧ a2 ≤ 10) : quartermasterlaw02_MatOne.j1 499998 a1 a2 = some true := by
  obtain ⟨n, rfl⟩ := Int.eq_ofNat_of_zero_le (show 0 ≤ a1 by omega)
  obtain ⟨c, rfl⟩ := Int.eq_ofNat_of_zero_le (show 0 ≤ a2 by omega)
  rw [show (499998 : Nat) = 499997 + 1 from rfl, quartermasterlaw02_MatOne.j1, w64 (by omega) (by omega), ← succ_cast, cau_f (by omega) (by omega), cau_f (n := n + 1) (by omega) (by omega), Option.bind_some, Option.bind_some, if_pos rfl, if_pos rfl]
  rw [show (499997 : Nat) = 499996 + 1 from rfl, quartermasterlaw02_MatOne.j2, mints_len, grid_len, if_neg (by simp)]
  refine one_l0' (cau_rect (n + 1) c) (by omega) (by omega) (fun i k hi hk => ?_) (by omega) (fun k hk => ?_) (n + 1) 0 499996 (by omega) ?_
  · rw [el_grid hi hk]; exact cauAt_ne (by omega) hk
  · rw [Int.toNat_natCast, ← mints_take, grid_take _ _ _ _ (by omega)]
    exact same_true (cau_rect n c) (by omega) (by omega) hk
  · have : (n + 1) * (c + 2) ≤ 11 * 12 := Nat.mul_le_mul (by omega) (by omega)
    omega
theorem matone_f (l0 : List (List Int)) (h0 : okM l0) (a1 a2 : Int) : quartermasterlaw02_MatOne.f 500000 l0 a1 a2 = some true := by
  have f0 := few_f l0 10 (by omega) (show 101 ≤ 500000 by omega)
  rw [show ((10 : Nat) : Int) = 10 from rfl] at f0
  have jt : ∀ x, quartermasterlaw02_MatOne.j0 500000 l0 a1 a2 true x true = some true := fun x => by
    rw [show (500000 : Nat) = 499999 + 1 from rfl, quartermasterlaw02_MatOne.j0, if_pos rfl]
  unfold quartermasterlaw02_MatOne.f quartermasterlaw02_awake.f
  rw [f0, rmay_f l0 (by omega), Option.bind_some, Option.bind_some, Option.bind_some, if_pos rfl]
  by_cases e0 : fewP l0 10
  · rw [decide_eq_true e0, if_pos rfl]
    by_cases g1 : 1 ≤ a1
    · rw [if_neg (by omega)]
      by_cases g2 : a1 ≤ 10
      · rw [if_neg (by omega)]
        by_cases g3 : 1 ≤ a2
        · rw [if_neg (by omega)]
          by_cases g4 : a2 ≤ 10
          · rw [decide_eq_false (show ¬ a2 > 10 by omega), show (500000 : Nat) = 499999 + 1 from rfl, quartermasterlaw02_MatOne.j0, if_neg (by decide)]
            have j1 : quartermasterlaw02_MatOne.j1 499999 a1 a2 = some true := by
              have := one_j1 a1 a2 ⟨g1, g2⟩ ⟨g3, g4⟩
              have := quartermasterlaw02_MatOne.mono_l 499998
              exact (by first | exact this.2.1 _ _ _ (by assumption) | exact this.2.2.1 _ _ _ (by assumption))
            by_cases m : mayP l0
            · rw [decide_eq_true m, if_pos rfl]
              have r0 := mayP_rect m h0
              have hh := few_head e0
              have h1 := m.1
              have h2 := m.2.2.1
              have hl := e0.1
              have e1 := mul_rect (one_rect l0.length) r0 (by omega) (by omega) (by omega)
              rw [mints_mnats h0, one_mul r0 (by omega), mints_mnats h0] at e1
              rw [one_f (by omega), Option.bind_some, show (mints (grid l0.length l0.length oneAt), (0 : Int)).1 = mints (grid l0.length l0.length oneAt) from rfl, e1, Option.bind_some]
              have s := same_true r0 (by omega) (by omega) (show 300000 ≤ 499999 by omega)
              rw [mints_mnats h0] at s
              rw [s, Option.bind_some, if_pos rfl, if_pos rfl, j1]
            · rw [decide_eq_false m, if_neg (by decide), j1]
          · rw [decide_eq_true (show a2 > 10 by omega), jt]
        · rw [if_pos (by omega), jt]
      · rw [if_pos (by omega), jt]
    · rw [if_pos (by omega), jt]
  · rw [decide_eq_false e0, if_neg (by decide), jt]
theorem matone_walk (W : World) (A0 : Option Addr) (len0 c0 : Nat) (l0 : List (List Int)) (y0 : MatArg W A0 len0 c0 l0) (a1 : Int) (w1 : (Lit.int .i64 a1).wf = true) (a2 : Int) (w2 : (Lit.int .i64 a2).wf = true) :
    Calls Try.prog 15 #[.slice A0 len0 c0, .int .i64 a1, .int .i64 a2] W fun e w' => e = .returned (.bool true) ∧ Below W.heap.size W w' := by
  have := quartermasterlaw02_MatOne.calls 500000 A0 c0 l0 a1 a2 true W y0.reads y0.room (matone_f l0 y0.ok a1 a2)
  rw [y0.long] at this
  exact this
end Go.Proofs.Ythblmkailhdhlaa.Mat
