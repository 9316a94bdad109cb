/- What ref02's Mul (as printed) comes to. -/
import Derived.Test.YthblmkailhdhlaaNF
import Derived.Test.YthblmkailhdhlaaP8
namespace Go.Proofs.Ythblmkailhdhlaa.Mat
set_option linter.unusedVariables false
open Go.RowKit Go.Proofs.Ythblmkailhdhlaa.F Go.Proofs.Ythblmkailhdhlaa.R Go.Proofs.Ythblmkailhdhlaa.G Go.Proofs.Ythblmkailhdhlaa.P Go.Proofs.Ythblmkailhdhlaa.Given Go.Proofs.Ythblmkailhdhlaa.Gf Go.Proofs.YthblmkailhdhlaaW.PrintWords

theorem mints_getD (M : List (List Nat)) (i : Nat) : (mints M).getD i [] = ints (M.getD i []) := by
  unfold mints
  rw [List.getD_eq_getElem?_getD, List.getD_eq_getElem?_getD, List.getElem?_map]
  cases M[i]? <;> rfl
theorem ints_getD (l : List Nat) (j : Nat) : (ints l).getD j 0 = ((l.getD j 0 : Nat) : Int) := by
  unfold ints
  rw [List.getD_eq_getElem?_getD, List.getD_eq_getElem?_getD, List.getElem?_map]
  cases l[j]? <;> rfl
theorem mints_at (M : List (List Nat)) (i j : Nat) : ((mints M).getD i []).getD j 0 = ((el M i j : Nat) : Int) := by rw [mints_getD, ints_getD]; rfl

theorem rmul_l2 {n m c : Nat} {a b : List (List Nat)} (ha : Rect n m a) (hb : Rect m c b) (hm : m ≤ 64) (hc : c ≤ 4096) (i j : Nat) (hi : i < n) (hj : j < c) (x8 : List (List Int)) (x10 : List Int) : ∀ d t k, t + d = m → 100 ≤ k →
    quartermasterref02_Mul.l2 (k + d + 1) (mints a) (mints b) x8 (i : Int) x10 (j : Int) ((sg (fun t => gm (el a i t) (el b t j)) t : Nat) : Int) (t : Int) =
      if x10.length < 140737488355328 then quartermasterref02_Mul.l1 k (mints a) (mints b) x8 (i : Int) (x10 ++ [((mulF m (el a) (el b) i j : Nat) : Int)]) (wrap64 ((j : Int) + 1)) else none := by
  intro d
  induction d with
  | zero =>
    intro t k h hk
    rw [quartermasterref02_Mul.l2, mints_len, hb.1, if_neg (by omega), show t = m by omega]
    have e : mulF m (el a) (el b) i j = sg (fun t => gm (el a i t) (el b t j)) m := rfl
    rw [e]
  | succ d ih =>
    intro t k h hk
    show quartermasterref02_Mul.l2 ((k + d + 1) + 1) _ _ _ _ _ _ _ _ = _
    obtain ⟨ra, _, ea, qa, _⟩ := ha.row hi
    obtain ⟨rb, _, eb, qb, _⟩ := hb.row (show t < m by omega)
    rw [quartermasterref02_Mul.l2, mints_len, mints_len, hb.1, ha.1, rd_L1_nat, rd_L1_nat, rd_nat, rd_nat, mints_at, mints_at, mints_getD, mints_getD, ints_len, ints_len, ea, eb, qa, qb]
    rw [if_pos (by omega), if_pos (by omega), if_pos (by omega), if_pos (by omega), if_pos (by omega), if_pos (by omega), if_pos (by omega)]
    have this := ih (t + 1) k (by omega) hk
    have e : sg (fun t => gm (el a i t) (el b t j)) (t + 1) = sg (fun t => gm (el a i t) (el b t j)) t ^^^ gm (el a i t) (el b t j) := rfl
    rw [e] at this
    have hs : sg (fun t => gm (el a i t) (el b t j)) t < 256 := sg_lt fun _ _ => gm_lt _ _
    have hp : gm (el a i t) (el b t j) < 256 := gm_lt _ _
    have hmul := mul_f (k := k + d + 1) (ha.lt i t) (hb.lt t j) (by omega)
    have hadd := add_f (k := k + d + 1) hs hp (by omega)
    generalize sg (fun t => gm (el a i t) (el b t j)) t = s at *
    generalize gm (el a i t) (el b t j) = p at *
    rw [hmul, Option.bind_some, hadd, Option.bind_some, w64 (by omega) (by omega), ← succ_cast]
    exact this
theorem rmul_l1 {n m c : Nat} {a b : List (List Nat)} (ha : Rect n m a) (hb : Rect m c b) (hm0 : 0 < m) (hm : m ≤ 64) (hc : c ≤ 4096) (i : Nat) (hi : i < n) (x8 : List (List Int)) : ∀ d j k, j + d = c → 100 ≤ k →
    quartermasterref02_Mul.l1 (k + d * (m + 2) + 1) (mints a) (mints b) x8 (i : Int) (ints ((List.range j).map (mulF m (el a) (el b) i))) (j : Int) =
      if x8.length < 5864062014805 then quartermasterref02_Mul.l0 k (mints a) (mints b) (x8 ++ [ints ((List.range c).map (mulF m (el a) (el b) i))]) (wrap64 ((i : Int) + 1)) else none := by
  intro d
  induction d with
  | zero =>
    intro j k h hk
    obtain ⟨r, _, e, q, _⟩ := hb.row hm0
    rw [Nat.zero_mul, Nat.add_zero, quartermasterref02_Mul.l1, mints_len, hb.1, if_pos (by omega), show rd_L1 (mints b) 0 = (mints b).getD 0 [] from rd_L1_nat _ 0, mints_getD, ints_len, e, q, if_neg (by omega), show j = c by omega]
  | succ d ih =>
    intro j k h hk
    obtain ⟨r, _, e, q, _⟩ := hb.row hm0
    rw [show k + (d + 1) * (m + 2) + 1 = ((k + d * (m + 2) + 1) + m + 1) + 1 by rw [Nat.succ_mul]; omega]
    rw [quartermasterref02_Mul.l1, mints_len, hb.1, if_pos (by omega), show rd_L1 (mints b) 0 = (mints b).getD 0 [] from rd_L1_nat _ 0, mints_getD, ints_len, e, q, if_pos (by omega)]
    have := rmul_l2 ha hb hm hc i j hi (by omega) x8 (ints ((List.range j).map (mulF m (el a) (el b) i))) m 0 (k + d * (m + 2) + 1) (by omega) (by omega)
    rw [show ((sg (fun t => gm (el a i t) (el b t j)) 0 : Nat) : Int) = 0 from rfl, show ((0 : Nat) : Int) = 0 from rfl] at this
    rw [this, if_pos (by rw [ints_len]; simp; omega), w64 (by omega) (by omega), ← succ_cast]
    have h2 := ih (j + 1) k (by omega) hk
    rw [List.range_succ, List.map_append] at h2
    rw [show ints (List.map (mulF m (el a) (el b) i) (List.range j) ++ List.map (mulF m (el a) (el b) i) [j]) = ints (List.map (mulF m (el a) (el b) i) (List.range j)) ++ [((mulF m (el a) (el b) i j : Nat) : Int)] by unfold ints; rw [List.map_append]; rfl] at h2
    exact h2
theorem rmul_l0 {n m c : Nat} {a b : List (List Nat)} (ha : Rect n m a) (hb : Rect m c b) (hn : n ≤ 64) (hm0 : 0 < m) (hm : m ≤ 64) (hc : c ≤ 4096) : ∀ d i k, i + d = n → 200 + d * (c * (m + 2) + 2) < k →
    quartermasterref02_Mul.l0 k (mints a) (mints b) (mints ((grid n c (mulF m (el a) (el b))).take i)) (i : Int) = some (mints (grid n c (mulF m (el a) (el b))), 0) := by
  intro d
  induction d with
  | zero =>
    intro i k h hk
    obtain ⟨k, rfl⟩ : ∃ q, k = q + 1 := ⟨k - 1, by omega⟩
    rw [quartermasterref02_Mul.l0, mints_len, ha.1, if_neg (by omega), List.take_of_length_le (by rw [grid_len]; omega)]
  | succ d ih =>
    intro i k h hk
    obtain ⟨k, rfl⟩ : ∃ q, k = q + 1 := ⟨k - 1, by omega⟩
    rw [Nat.succ_mul] at hk
    rw [quartermasterref02_Mul.l0, mints_len, ha.1, if_pos (by omega)]
    obtain ⟨q, rfl⟩ : ∃ q, k = q + c * (m + 2) + 1 := ⟨k - c * (m + 2) - 1, by omega⟩
    have := rmul_l1 ha hb hm0 hm hc i (by omega) (mints ((grid n c (mulF m (el a) (el b))).take i)) c 0 q (by omega) (by omega)
    rw [show ((0 : Nat) : Int) = 0 from rfl] at this
    rw [show ([] : List Int) = ints ((List.range 0).map (mulF m (el a) (el b) i)) from rfl, this, if_pos (by rw [mints_len, List.length_take]; omega), w64 (by omega) (by omega), ← succ_cast]
    have h2 := ih (i + 1) q (by omega) (by omega)
    rw [grid_take_succ n c _ i (by omega), mints_app] at h2
    exact h2

theorem mayP_rect {l : List (List Int)} (h : mayP l) (hk : okM l) : Rect l.length (l.getD 0 []).length (mnats l) := by
  refine ⟨mnats_len l, fun r hr => ?_⟩
  obtain ⟨r', hr', rfl⟩ := List.mem_map.1 hr
  refine ⟨?_, mnats_bytes hk _ hr⟩
  unfold nats
  rw [List.length_map, h.2.2.2.2 r' hr']
/-- The document's product is the program's. -/
theorem rmul_f (l0 l1 : List (List Int)) (h0 : okM l0) (h1 : okM l1) (C : Nat) (hC : C ≤ 4096) (hs : (l1.getD 0 []).length ≤ C) {k : Nat} (hk : 1000 + 64 * (C * 66 + 2) ≤ k) : quartermasterref02_Mul.f k l0 l1 = mat_Mul.f l0 l1 := by
  have hok : okM l0 ∧ okM l1 := ⟨h0, h1⟩
  unfold quartermasterref02_Mul.f mat_Mul.f
  rw [rmay_f l0 (by omega), rmay_f l1 (by omega), if_pos hok]
  obtain ⟨k, rfl⟩ : ∃ q, k = q + 1 := ⟨k - 1, by omega⟩
  simp only [Option.bind_some]
  by_cases m0 : mayP l0
  · rw [if_pos (decide_eq_true m0)]
    by_cases m1 : mayP l1
    · have hpos : 0 < (l0.length : Int) := by have := m0.1; omega
      rw [if_pos (decide_eq_true m1), if_pos hpos, show rd_L1 l0 0 = l0.getD 0 [] from rd_L1_nat _ 0, quartermasterref02_Mul.j0]
      by_cases e : (l0.getD 0 []).length = l1.length
      · have hall : mayP l0 ∧ mayP l1 ∧ (l0.getD 0 []).length = l1.length := ⟨m0, m1, e⟩
        rw [if_pos hall, if_neg (by rw [e]; simp)]
        have r0 := mayP_rect m0 h0
        have r1 := mayP_rect m1 h1
        rw [e] at r0
        have hb := m1.1
        rw [mulM_grid r0 r1 hb]
        have := rmul_l0 r0 r1 m0.2.1 m1.1 m1.2.1 (by omega) l0.length 0 k (by omega) (by
          have h64 := m0.2.1
          have x1 : (l1.getD 0 []).length * (l1.length + 2) ≤ C * 66 := Nat.mul_le_mul hs (by have := m1.2.1; omega)
          have x2 : l0.length * ((l1.getD 0 []).length * (l1.length + 2) + 2) ≤ 64 * (C * 66 + 2) := Nat.mul_le_mul h64 (by omega)
          omega)
        rw [mints_mnats h0, mints_mnats h1] at this
        exact this
      · rw [if_pos (bne_iff_ne.2 fun z => e (by omega)), if_neg (fun z => e z.2.2)]
    · rw [if_neg (by simp [m1]), quartermasterref02_Mul.j0, if_pos rfl, if_neg (fun z => m1 z.2.1)]
  · rw [if_neg (by simp [m0]), quartermasterref02_Mul.j0, if_pos rfl, if_neg (fun z => m0 z.1)]
end Go.Proofs.Ythblmkailhdhlaa.Mat
