/- MatRows. -/
import Derived.Test.YthblmkailhdhlaaNI
import Derived.Test.YthblmkailhdhlaaNL
import Derived.Test.YthblmkailhdhlaaS4
namespace Go.Proofs.Ythblmkailhdhlaa.Mat
set_option linter.unusedVariables false
open Go.RowKit Go.Proofs.Ythblmkailhdhlaa.F Go.Proofs.Ythblmkailhdhlaa.R Go.Proofs.Ythblmkailhdhlaa.G Go.Proofs.Ythblmkailhdhlaa.P Go.Proofs.Ythblmkailhdhlaa.Given Go.Proofs.Ythblmkailhdhlaa.Gf Go.Proofs.YthblmkailhdhlaaW.PrintWords

theorem rd_L1_natS' (l : List (List Int)) (j : Nat) : S.rd_L1 l (j : Int) = l.getD j [] := rd_L1_nat l j
theorem all_grid (c m : Nat) : mints (grid c c oneAt) ++ mints (grid m c (cauAt c)) = mints (grid (c + m) c (allAt c)) := by
  rw [← mints_app]
  congr 1
  apply List.ext_getElem?
  intro i
  by_cases h1 : i < c
  · rw [List.getElem?_append_left (by rw [grid_len]; exact h1), grid_get _ _ _ h1, grid_get _ _ _ (by omega)]
    congr 1
    apply List.map_congr_left
    intro t _
    unfold allAt; rw [if_pos h1]
  · rw [List.getElem?_append_right (by rw [grid_len]; omega), grid_len]
    by_cases h2 : i < c + m
    · rw [grid_get _ _ _ (by omega), grid_get _ _ _ h2]
      congr 1
      apply List.map_congr_left
      intro t _
      unfold allAt; rw [if_neg h1]
    · rw [List.getElem?_eq_none (by rw [grid_len]; omega), List.getElem?_eq_none (by rw [grid_len]; omega)]
theorem grid_succ (n c : Nat) (g : Nat → Nat → Nat) : grid (n + 1) c g = grid n c g ++ [(List.range c).map (g n)] := by
  unfold Mat.grid; rw [List.range_succ, List.map_append]; rfl
theorem rows_end {c m : Nat} (hc : 1 ≤ c ∧ c ≤ 12) (hm : 1 ≤ m ∧ m ≤ 12) (K : Nat → Nat) (hK : ∀ j, j < c → K j < c + m) (hi : ∀ j j', j < c → j' < c → K j = K j' → j = j') {k : Nat} (hk : 400000 ≤ k) :
    ((mat_Inv.f (mints (grid c c fun j => allAt c (K j)))).bind fun bt157 => ((mat_Mul.f (mints (grid c c fun j => allAt c (K j))) bt157.1).bind fun bt161 => ((quartermasterref02_One.f k (c : Int)).bind fun bt165 => ((quartermasterref02_Same.f k bt161.1 bt165.1).bind fun t169 => (if bt157.2 = 0 then (if bt161.2 = 0 then (some t169) else (some false)) else (some false)))))) = some true := by
  have hsq : Square c (grid c c fun j => allAt c (K j)) := grid_rect fun i j _ _ => allAt_lt _ _ _
  have hnk : ¬ Ker c (el (grid c c fun j => allAt c (K j))) := fun ⟨v, q, h1, h2, h3, h4⟩ => rows_no_ker (c := c) (more := m) (by omega) hK hi ⟨v, q, h1, h2, h3, fun i hi => by
    rw [← h4 i hi]
    exact sg_congr fun t ht => by rw [el_grid hi ht]⟩
  have hg := gauss_all hsq (by omega)
  generalize (grid c c fun j => allAt c (K j)) = M at *
  have hinv : mat_Inv.f (mints M) = some (invAns (mints M)) := by unfold mat_Inv.f; rw [if_pos (okM_mints hsq.rect.bytes)]
  rcases hg with ⟨_, _, z⟩ | ⟨T, g, _, s, e1, e2⟩
  · exact absurd z hnk
  · have : invAns (mints M) = (mints T.2, 0) := by
      unfold invAns
      rw [if_pos ⟨rect_may hsq.rect (by omega) (by omega), by rw [mints_head, ints_len, hsq.rect.head (by omega), mints_len, hsq.1]⟩, mints_len, hsq.1, mnats_mints, g]
    rw [hinv, this, Option.bind_some, show ((mints T.2, (0 : Int)).1) = mints T.2 from rfl, mul_rect hsq.rect s.rect (by omega) (by omega) (by omega), Option.bind_some, e2, rone_f _ (by omega), one_f (by omega), Option.bind_some, same_true (one_rect c) (by omega) (by omega) (by omega), Option.bind_some]
    rfl
theorem rows_l0 {c m : Nat} (hc : 1 ≤ c ∧ c ≤ 12) (hm : 1 ≤ m ∧ m ≤ 12) (l2 : List Int) (hl : c ≤ l2.length) (hll : l2.length ≤ 9223372036854775807) : ∀ d i k (u : List Bool), i + d = c → 400000 + d < k → u.length = c + m →
    (∀ j, j < i → 0 ≤ l2.getD j 0 ∧ l2.getD j 0 < (c + m : Nat)) → (∀ j j', j < i → j' < i → (l2.getD j 0).toNat = (l2.getD j' 0).toNat → j = j') → (∀ j, j < i → u.getD (l2.getD j 0).toNat false = true) →
    S.quartermasterlaw02_MatRows.l0 k (c : Int) (m : Int) l2 (mints (grid (c + m) c (allAt c))) (mints (grid i c fun j => allAt c (l2.getD j 0).toNat)) u (i : Int) = some true := by
  intro d
  induction d with
  | zero =>
    intro i k u h hk hu h1 h2 h3
    obtain ⟨k, rfl⟩ : ∃ q, k = q + 1 := ⟨k - 1, by omega⟩
    obtain rfl : i = c := by omega
    rw [S.quartermasterlaw02_MatRows.l0, if_neg (by omega)]
    exact rows_end hc hm (fun j => (l2.getD j 0).toNat) (fun j hj => by have := h1 j hj; show (l2.getD j 0).toNat < _; omega) h2 (by omega)
  | succ d ih =>
    intro i k u h hk hu h1 h2 h3
    obtain ⟨k, rfl⟩ : ∃ q, k = q + 1 := ⟨k - 1, by omega⟩
    rw [S.quartermasterlaw02_MatRows.l0, if_pos (by omega), if_pos (by omega), if_pos (by omega), rd_nat, w64 (by omega) (by omega)]
    by_cases g1 : l2.getD i 0 < 0
    · rw [if_pos g1]
    · rw [if_neg g1]
      by_cases g2 : l2.getD i 0 ≥ (c : Int) + (m : Int)
      · rw [if_pos g2]
      · rw [if_neg g2]
        obtain ⟨q, hq⟩ := Int.eq_ofNat_of_zero_le (show 0 ≤ l2.getD i 0 by omega)
        have hrd : rdOf false u (l2.getD i 0) = u.getD q false := by unfold rdOf; rw [hq, Int.toNat_natCast]
        rw [if_pos (by omega), if_pos (by omega), hrd]
        by_cases g3 : u.getD q false = true
        · rw [if_pos g3]
        · rw [if_neg g3, mints_len, grid_len, if_pos (by omega), if_pos (by rw [mints_len, grid_len]; omega), w64 (by omega) (by omega), ← succ_cast]
          have hrow : mints (grid i c fun j => allAt c (l2.getD j 0).toNat) ++ [S.rd_L1 (mints (grid (c + m) c (allAt c))) (l2.getD i 0)] = mints (grid (i + 1) c fun j => allAt c (l2.getD j 0).toNat) := by
            rw [grid_succ, mints_app, hq, rd_L1_natS', mints_getD, Int.toNat_natCast]
            have : (grid (c + m) c (allAt c)).getD q [] = (List.range c).map (allAt c q) := by
              rw [List.getD_eq_getElem?_getD, grid_get _ _ _ (by omega)]; rfl
            rw [this]; rfl
          rw [hrow]
          refine ih (i + 1) k (u.set (l2.getD i 0).toNat true) (by omega) (by omega) (by rw [List.length_set]; exact hu) ?_ ?_ ?_
          · intro j hj
            by_cases e : j = i
            · subst e; omega
            · exact h1 j (by omega)
          · intro j j' hj hj' he
            by_cases e : j = i
            · by_cases e' : j' = i
              · omega
              · exfalso
                have := h3 j' (by omega)
                rw [← he, e, hq, Int.toNat_natCast] at this
                exact g3 this
            · by_cases e' : j' = i
              · exfalso
                have := h3 j (by omega)
                rw [he, e', hq, Int.toNat_natCast] at this
                exact g3 this
              · exact h2 j j' (by omega) (by omega) he
          · intro j hj
            rw [hq, Int.toNat_natCast, List.getD_eq_getElem?_getD, List.getElem?_set]
            by_cases e : q = (l2.getD j 0).toNat
            · rw [if_pos e, if_pos (by omega)]; rfl
            · rw [if_neg e, ← List.getD_eq_getElem?_getD]
              refine h3 j ?_
              by_cases e' : j = i
              · rw [e', hq, Int.toNat_natCast] at e; exact absurd rfl e
              · omega
theorem rows_f (a0 a1 : Int) (l2 : List Int) (hll : l2.length ≤ 9223372036854775807) : S.quartermasterlaw02_MatRows.f 500000 a0 a1 l2 = some true := by
  have jt : S.quartermasterlaw02_MatRows.j0 500000 a0 a1 l2 true true = some true := by
    rw [show (500000 : Nat) = 499999 + 1 from rfl, S.quartermasterlaw02_MatRows.j0, if_pos rfl]
  unfold S.quartermasterlaw02_MatRows.f quartermasterlaw02_awake.f
  rw [Option.bind_some, if_pos rfl]
  by_cases g1 : 1 ≤ a0
  · rw [if_neg (by omega)]
    by_cases g2 : a0 ≤ 12
    · rw [if_neg (by omega)]
      by_cases g3 : 1 ≤ a1
      · rw [if_neg (by omega)]
        by_cases g4 : a1 ≤ 12
        · rw [if_neg (by omega)]
          by_cases g5 : a0 ≤ (l2.length : Int)
          · rw [decide_eq_false (by omega), show (500000 : Nat) = 499999 + 1 from rfl, S.quartermasterlaw02_MatRows.j0, if_neg (by decide)]
            obtain ⟨c, rfl⟩ := Int.eq_ofNat_of_zero_le (show 0 ≤ a0 by omega)
            obtain ⟨m, rfl⟩ := Int.eq_ofNat_of_zero_le (show 0 ≤ a1 by omega)
            have hcf : mat_Cauchy.f (m : Int) (c : Int) = some (mints (grid m c (cauAt c)), 0) := by
              unfold mat_Cauchy.f
              rw [if_pos (by omega), Int.toNat_natCast, Int.toNat_natCast]
            rw [one_f (by omega), hcf, Option.bind_some, Option.bind_some, if_pos (by simp only [List.length_nil, mints_len, grid_len]; omega), Option.bind_some, List.nil_append, if_pos (by simp only [mints_len, grid_len]; omega), Option.bind_some]
            rw [show ((mints (grid c c oneAt), (0 : Int)).1) = mints (grid c c oneAt) from rfl, show ((mints (grid m c (cauAt c)), (0 : Int)).1) = mints (grid m c (cauAt c)) from rfl, all_grid, if_pos rfl, if_pos rfl, mints_len, grid_len]
            have hw : wrap64 ((c : Int) + (m : Int)) = ((c + m : Nat) : Int) := by rw [w64 (by omega) (by omega)]; omega
            rw [hw, show (((c + m : Nat) : Int) != ((c + m : Nat) : Int)) = false from by simp, show (499999 : Nat) = 499998 + 1 from rfl, S.quartermasterlaw02_MatRows.j1, if_neg (by decide), hw, if_pos (by omega), Int.toNat_natCast, if_pos (by omega)]
            exact rows_l0 ⟨by omega, by omega⟩ ⟨by omega, by omega⟩ l2 (by omega) hll c 0 499998 (List.replicate (c + m) false) (by omega) (by omega) (by simp) (fun j hj => by omega) (fun j j' hj => by omega) (fun j hj => by omega)
          · rw [decide_eq_true (by omega), jt]
        · rw [if_pos (by omega), jt]
      · rw [if_pos (by omega), jt]
    · rw [if_pos (by omega), jt]
  · rw [if_pos (by omega), jt]
theorem MatRows : S.quartermasterlaw02_MatRows.Pure := fun a0 a1 l2 _ _ h _ _ => ⟨500000, rows_f a0 a1 l2 (by unfold Go.maxLen at h; omega)⟩
end Go.Proofs.Ythblmkailhdhlaa.Mat
