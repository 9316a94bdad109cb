/- What ref02's Same, Few, May, One and Cauchy (as printed) come to. -/
import Derived.Test.YthblmkailhdhlaaNA
import Derived.Test.YthblmkailhdhlaaP2
import Derived.Test.YthblmkailhdhlaaP3
import Derived.Test.YthblmkailhdhlaaP4
import Derived.Test.YthblmkailhdhlaaP5
namespace Go.Proofs.Ythblmkailhdhlaa.Mat
set_option linter.unusedVariables false
open Go.RowKit Go.Proofs.Ythblmkailhdhlaa.F Go.Proofs.Ythblmkailhdhlaa.R Go.Proofs.Ythblmkailhdhlaa.G Go.Proofs.Ythblmkailhdhlaa.P Go.Proofs.Ythblmkailhdhlaa.Given Go.Proofs.Ythblmkailhdhlaa.Gf Go.Proofs.YthblmkailhdhlaaW.PrintWords

theorem getD_at {α : Type} {l : List α} {d : α} {i : Nat} (h : i < l.length) : l.getD i d = l[i] := by
  rw [List.getD_eq_getElem?_getD, List.getElem?_eq_getElem h]; rfl
theorem rd_nat (l : List Int) (j : Nat) : Go.Proofs.YthblmkailhdhlaaW.PrintWords.rd l (j : Int) = l.getD j 0 := by unfold Go.Proofs.YthblmkailhdhlaaW.PrintWords.rd; rw [Int.toNat_natCast]
theorem drop_cons {α : Type} {l : List α} {d : α} {i : Nat} (h : i < l.length) : l.drop i = l.getD i d :: l.drop (i + 1) := by
  rw [List.drop_eq_getElem_cons h, getD_at h]
theorem succ_cast (i : Nat) : ((i + 1 : Nat) : Int) = (i : Int) + 1 := by omega

theorem same_l1 (a b : List (List Int)) (i : Nat) (hi : i < a.length) (hib : i < b.length) (hlen : (a.getD i []).length = (b.getD i []).length) (hs : (a.getD i []).length ≤ 1000000) :
    ∀ d j k, j + d = (a.getD i []).length → quartermasterref02_Same.l1 (k + d + 1) a b (i : Int) (j : Int) = if (a.getD i []).drop j = (b.getD i []).drop j then quartermasterref02_Same.l0 k a b (wrap64 ((i : Int) + 1)) else some false := by
  intro d
  induction d with
  | zero =>
    intro j k h
    simp only [quartermasterref02_Same.l1]
    rw [if_pos (by omega), if_pos (by omega), rd_L1_nat, if_neg (by omega), List.drop_of_length_le (by omega), List.drop_of_length_le (by omega), if_pos rfl]
  | succ d ih =>
    intro j k h
    show quartermasterref02_Same.l1 ((k + d + 1) + 1) a b (i : Int) (j : Int) = _
    rw [quartermasterref02_Same.l1]
    rw [if_pos (by omega), if_pos (by omega), rd_L1_nat, rd_L1_nat, if_pos (by omega), if_pos (by omega), if_pos (by omega), if_pos (by omega), rd_nat, rd_nat]
    rw [drop_cons (d := 0) (show j < (a.getD i []).length by omega), drop_cons (d := 0) (show j < (b.getD i []).length by omega)]
    by_cases he : (a.getD i []).getD j 0 = (b.getD i []).getD j 0
    · rw [if_pos he, w64 (by omega) (by omega), ← succ_cast, ih (j + 1) k (by omega), he]
      by_cases hd : (a.getD i []).drop (j + 1) = (b.getD i []).drop (j + 1)
      · rw [if_pos hd, if_pos (by rw [hd])]
      · rw [if_neg hd, if_neg (fun h => hd (List.cons.inj h).2)]
    · rw [if_neg he, if_neg (fun h => he (List.cons.inj h).1)]

theorem same_l0 (a b : List (List Int)) (hl : a.length = b.length) (h64 : a.length ≤ 1000000) (C : Nat) (hC : C ≤ 1000000) (hs : ∀ r ∈ a, r.length ≤ C) : ∀ d i k, i + d = a.length → d * (C + 2) < k →
    quartermasterref02_Same.l0 k a b (i : Int) = some (decide (a.drop i = b.drop i)) := by
  intro d
  induction d with
  | zero =>
    intro i k h hk
    obtain ⟨k, rfl⟩ : ∃ m, k = m + 1 := ⟨k - 1, by omega⟩
    simp only [quartermasterref02_Same.l0]
    rw [if_neg (by omega), List.drop_of_length_le (by omega), List.drop_of_length_le (by omega), decide_eq_true rfl]
  | succ d ih =>
    intro i k h hk
    obtain ⟨k, rfl⟩ : ∃ m, k = m + 1 := ⟨k - 1, by omega⟩
    rw [quartermasterref02_Same.l0]
    rw [if_pos (by omega), if_pos (by omega), if_pos (by omega), rd_L1_nat, rd_L1_nat]
    have hr := hs (a.getD i []) (by rw [getD_at (show i < a.length by omega)]; exact List.getElem_mem _)
    rw [drop_cons (d := []) (show i < a.length by omega), drop_cons (d := []) (show i < b.length by omega)]
    rw [Nat.succ_mul] at hk
    by_cases he : (a.getD i []).length = (b.getD i []).length
    · rw [if_pos (by omega)]
      obtain ⟨m, rfl⟩ : ∃ m, k = m + (a.getD i []).length + 1 := ⟨k - (a.getD i []).length - 1, by omega⟩
      have := same_l1 a b i (by omega) (by omega) he (by omega) (a.getD i []).length 0 m (by omega)
      rw [show ((0 : Nat) : Int) = 0 from rfl] at this
      rw [this, List.drop_zero, List.drop_zero]
      by_cases hr2 : a.getD i [] = b.getD i []
      · rw [if_pos hr2, w64 (by omega) (by omega), ← succ_cast, ih (i + 1) m (by omega) (by omega), hr2]
        congr 1
        apply decide_eq_decide.2
        exact ⟨fun h => by rw [h], fun h => (List.cons.inj h).2⟩
      · rw [if_neg hr2, decide_eq_false (fun h => hr2 (List.cons.inj h).1)]
    · rw [if_neg (by omega), decide_eq_false (fun h => he (by rw [(List.cons.inj h).1]))]

theorem same_f (a b : List (List Int)) (C : Nat) (h64 : a.length ≤ 1000000) (hC : C ≤ 1000000) (hs : ∀ r ∈ a, r.length ≤ C) {k : Nat} (hk : a.length * (C + 2) < k) :
    quartermasterref02_Same.f k a b = some (decide (a = b)) := by
  unfold quartermasterref02_Same.f
  by_cases hl : a.length = b.length
  · rw [if_pos (by omega)]
    have := same_l0 a b hl h64 C hC hs a.length 0 k (by omega) hk
    rw [show ((0 : Nat) : Int) = 0 from rfl, List.drop_zero, List.drop_zero] at this
    exact this
  · rw [if_neg (by omega), decide_eq_false (fun h => hl (by rw [h]))]

theorem few_l0 (l : List (List Int)) (n : Nat) (hl : l.length ≤ 1000000) : ∀ d i k, i + d = l.length → d < k →
    quartermasterref02_Few.l0 k l (n : Int) (i : Int) = some (decide (∀ r ∈ l.drop i, r.length ≤ n)) := by
  intro d
  induction d with
  | zero =>
    intro i k h hk
    obtain ⟨k, rfl⟩ : ∃ m, k = m + 1 := ⟨k - 1, by omega⟩
    simp only [quartermasterref02_Few.l0]
    rw [if_neg (by omega), List.drop_of_length_le (by omega), decide_eq_true (by intro r hr; cases hr)]
  | succ d ih =>
    intro i k h hk
    obtain ⟨k, rfl⟩ : ∃ m, k = m + 1 := ⟨k - 1, by omega⟩
    rw [quartermasterref02_Few.l0]
    rw [if_pos (by omega), if_pos (by omega), rd_L1_nat, drop_cons (d := []) (show i < l.length by omega)]
    by_cases he : (l.getD i []).length ≤ n
    · rw [if_neg (by omega), w64 (by omega) (by omega), ← succ_cast, ih (i + 1) k (by omega) (by omega)]
      congr 1
      apply decide_eq_decide.2
      exact ⟨fun h1 r hr => by
        rcases List.mem_cons.1 hr with rfl | hr
        · exact he
        · exact h1 r hr, fun h1 r hr => h1 r (List.mem_cons_of_mem _ hr)⟩
    · rw [if_pos (by omega), decide_eq_false (fun h1 => he (h1 _ List.mem_cons_self))]
def fewP (l : List (List Int)) (n : Nat) : Prop := l.length ≤ n ∧ ∀ r ∈ l, r.length ≤ n
instance (l : List (List Int)) (n : Nat) : Decidable (fewP l n) := by unfold fewP; exact inferInstance
theorem few_f (l : List (List Int)) (n : Nat) (hn : n ≤ 100) {k : Nat} (hk : 101 ≤ k) : quartermasterref02_Few.f k l (n : Int) = some (decide (fewP l n)) := by
  unfold quartermasterref02_Few.f
  by_cases h : l.length ≤ n
  · rw [if_neg (by omega)]
    have := few_l0 l n (by omega) l.length 0 k (by omega) (by omega)
    rw [show ((0 : Nat) : Int) = 0 from rfl, List.drop_zero] at this
    rw [this]
    congr 1
    apply decide_eq_decide.2
    exact ⟨fun h1 => ⟨h, h1⟩, fun h1 => h1.2⟩
  · rw [if_pos (by omega), decide_eq_false (fun h1 => h h1.1)]

theorem rmay_l0 (l : List (List Int)) (hl : 0 < l.length) (h64 : l.length ≤ 64) : ∀ d i k, i + d = l.length → d < k →
    quartermasterref02_May.l0 k l (i : Int) = some (decide (∀ r ∈ l.drop i, 1 ≤ r.length ∧ r.length ≤ 4096 ∧ r.length = (l.getD 0 []).length)) := by
  intro d
  induction d with
  | zero =>
    intro i k h hk
    obtain ⟨k, rfl⟩ : ∃ m, k = m + 1 := ⟨k - 1, by omega⟩
    simp only [quartermasterref02_May.l0]
    rw [if_neg (by omega), List.drop_of_length_le (by omega), decide_eq_true (by intro r hr; cases hr)]
  | succ d ih =>
    intro i k h hk
    obtain ⟨k, rfl⟩ : ∃ m, k = m + 1 := ⟨k - 1, by omega⟩
    rw [quartermasterref02_May.l0]
    have h0 : rd_L1 l 0 = l.getD 0 [] := rd_L1_nat l 0
    rw [if_pos (by omega), if_pos (by omega), rd_L1_nat, drop_cons (d := []) (show i < l.length by omega), h0]
    have key : ∀ P : Prop, P → (∀ r ∈ l.getD i [] :: l.drop (i + 1), 1 ≤ r.length ∧ r.length ≤ 4096 ∧ r.length = (l.getD 0 []).length) → 1 ≤ (l.getD i []).length ∧ (l.getD i []).length ≤ 4096 ∧ (l.getD i []).length = (l.getD 0 []).length := fun P _ h => h _ List.mem_cons_self
    by_cases h1 : 1 ≤ (l.getD i []).length
    · rw [if_neg (by omega)]
      by_cases h2 : (l.getD i []).length ≤ 4096
      · rw [if_neg (by omega), if_pos (by omega)]
        by_cases h3 : (l.getD i []).length = (l.getD 0 []).length
        · rw [if_pos (by omega), w64 (by omega) (by omega), ← succ_cast, ih (i + 1) k (by omega) (by omega)]
          congr 1
          apply decide_eq_decide.2
          exact ⟨fun g r hr => by
            rcases List.mem_cons.1 hr with rfl | hr
            · exact ⟨h1, h2, h3⟩
            · exact g r hr, fun g r hr => g r (List.mem_cons_of_mem _ hr)⟩
        · rw [if_neg (by omega), decide_eq_false (fun g => h3 (key True trivial g).2.2)]
      · rw [if_pos (by omega), decide_eq_false (fun g => h2 (key True trivial g).2.1)]
    · rw [if_pos (by omega), decide_eq_false (fun g => h1 (key True trivial g).1)]
theorem rmay_f (l : List (List Int)) {k : Nat} (hk : 80 ≤ k) : quartermasterref02_May.f k l = some (decide (mayP l)) := by
  unfold quartermasterref02_May.f
  obtain ⟨k, rfl⟩ : ∃ m, k = m + 1 := ⟨k - 1, by omega⟩
  by_cases h1 : 1 ≤ l.length
  · rw [if_neg (by omega)]
    simp only [quartermasterref02_May.j0]
    by_cases h2 : l.length ≤ 64
    · rw [decide_eq_false (show ¬ (l.length : Int) > 64 by omega), if_neg (by decide)]
      have := rmay_l0 l (by omega) h2 l.length 0 k (by omega) (by omega)
      rw [show ((0 : Nat) : Int) = 0 from rfl, List.drop_zero] at this
      rw [this]
      congr 1
      apply decide_eq_decide.2
      constructor
      · intro g
        have g0 := g (l.getD 0 []) (by rw [getD_at (show 0 < l.length by omega)]; exact List.getElem_mem _)
        exact ⟨h1, h2, g0.1, g0.2.1, fun r hr => (g r hr).2.2⟩
      · intro g r hr
        have := g.2.2.2.2 r hr
        have := g.2.2.1
        have := g.2.2.2.1
        omega
    · rw [decide_eq_true (show (l.length : Int) > 64 by omega), if_pos rfl, decide_eq_false (fun h => h2 h.2.1)]
  · rw [if_pos (by omega)]
    simp only [quartermasterref02_May.j0]
    rw [if_pos trivial, decide_eq_false (fun h => h1 h.1)]

/-! One -/
theorem one_row (n i : Nat) (hi : i < n) : (List.replicate n (0 : Int)).set i 1 = ints ((List.range n).map (oneAt i)) := by
  apply List.ext_getElem?
  intro j
  rw [List.getElem?_set]
  unfold ints
  rw [List.map_map, List.getElem?_map, List.length_replicate]
  by_cases hj : j < n
  · rw [List.getElem?_range hj, List.getElem?_replicate, if_pos hj]
    simp only [Option.map_some, Function.comp]
    unfold oneAt
    by_cases h : i = j
    · rw [if_pos h, if_pos hi, if_pos h]; rfl
    · rw [if_neg h, if_neg h]; rfl
  · rw [List.getElem?_eq_none (by simp; omega), if_neg (by omega), List.getElem?_eq_none (by simp; omega)]; rfl
theorem mints_take (M : List (List Nat)) (i : Nat) : mints (M.take i) = (mints M).take i := by unfold mints; rw [List.map_take]
theorem grid_take_succ (n c : Nat) (g : Nat → Nat → Nat) (i : Nat) (h : i < n) : (grid n c g).take (i + 1) = (grid n c g).take i ++ [(List.range c).map (g i)] := by
  rw [List.take_add_one, grid_get n c g h]; rfl
theorem mints_app (M N : List (List Nat)) : mints (M ++ N) = mints M ++ mints N := by unfold mints; rw [List.map_append]
theorem one_l0 (n : Nat) (hn : n ≤ 64) : ∀ d i k, i + d = n → d < k →
    quartermasterref02_One.l0 k (n : Int) (mints ((grid n n oneAt).take i)) (i : Int) = some (mints (grid n n oneAt), 0) := by
  intro d
  induction d with
  | zero =>
    intro i k h hk
    obtain ⟨k, rfl⟩ : ∃ m, k = m + 1 := ⟨k - 1, by omega⟩
    simp only [quartermasterref02_One.l0]
    rw [if_neg (by omega), List.take_of_length_le (by rw [grid_len]; omega)]
  | succ d ih =>
    intro i k h hk
    obtain ⟨k, rfl⟩ : ∃ m, k = m + 1 := ⟨k - 1, by omega⟩
    rw [quartermasterref02_One.l0]
    rw [if_pos (by omega), if_pos (by omega), Int.toNat_natCast, if_pos (by omega)]
    simp only [Option.bind_some]
    rw [if_pos (by omega), List.length_replicate, if_pos (by omega), if_pos (by rw [mints_len, List.length_take]; omega), Int.toNat_natCast, one_row n i (by omega), w64 (by omega) (by omega), ← succ_cast]
    have := ih (i + 1) k (by omega) (by omega)
    rw [grid_take_succ n n oneAt i (by omega), mints_app] at this
    exact this
theorem rone_f (n : Int) {k : Nat} (hk : 80 ≤ k) : quartermasterref02_One.f k n = mat_One.f n := by
  unfold quartermasterref02_One.f mat_One.f
  obtain ⟨k, rfl⟩ : ∃ m, k = m + 1 := ⟨k - 1, by omega⟩
  simp only [quartermasterref02_One.j0]
  by_cases h1 : 1 ≤ n
  · rw [if_neg (by omega)]
    by_cases h2 : n ≤ 64
    · rw [decide_eq_false (by omega), if_neg (by decide), if_pos ⟨h1, h2⟩]
      obtain ⟨m, rfl⟩ := Int.eq_ofNat_of_zero_le (show 0 ≤ n by omega)
      rw [Int.toNat_natCast]
      exact one_l0 m (by omega) m 0 k (by omega) (by omega)
    · rw [decide_eq_true (by omega), if_pos rfl, if_neg (by omega)]
  · rw [if_pos (by omega), if_pos trivial, if_neg (by omega)]

/-! Cauchy -/
theorem cau_l1 (n c i : Nat) (hc : c ≤ 64) (hi : i < 64) (x6 : List (List Int)) : ∀ d j k, j + d = c → 400 ≤ k →
    quartermasterref02_Cauchy.l1 (k + d + 1) (n : Int) (c : Int) x6 (i : Int) (ints ((List.range j).map (cauAt c i))) (j : Int) =
      if x6.length < 5864062014805 then quartermasterref02_Cauchy.l0 k (n : Int) (c : Int) (x6 ++ [ints ((List.range c).map (cauAt c i))]) (wrap64 ((i : Int) + 1)) else none := by
  intro d
  induction d with
  | zero =>
    intro j k h hk
    rw [quartermasterref02_Cauchy.l1]
    rw [if_neg (by omega), show j = c by omega]
  | succ d ih =>
    intro j k h hk
    show quartermasterref02_Cauchy.l1 ((k + d + 1) + 1) _ _ _ _ _ _ = _
    rw [quartermasterref02_Cauchy.l1]
    rw [if_pos (by omega), w64 (by omega) (by omega), show ((c : Int) + i) % 256 = ((c + i : Nat) : Int) by omega, show (j : Int) % 256 = (j : Int) by omega]
    rw [add_f (by omega) (by omega) (by omega)]
    simp only [Option.bind_some]
    have hx : (c + i) ^^^ j < 256 := xor_lt (by omega) (by omega)
    have hdiv := div_f (a := 1) (b := (c + i) ^^^ j) (k := k + d + 1) (by omega) hx (by omega)
    rw [show ((1 : Nat) : Int) = 1 from rfl] at hdiv
    rw [hdiv]
    simp only [Option.bind_some]
    rw [if_pos (by rw [ints_len]; simp; omega)]
    have e : (if (c + i) ^^^ j = 0 then ((0 : Int), (8 : Int)) else (((gd 1 ((c + i) ^^^ j) : Nat) : Int), 0)).1 = ((cauAt c i j : Nat) : Int) := by
      unfold cauAt dq
      split <;> rfl
    rw [e, w64 (by omega) (by omega), ← succ_cast]
    have := ih (j + 1) k (by omega) hk
    rw [List.range_succ, List.map_append] at this
    rw [show ints (List.map (cauAt c i) (List.range j) ++ List.map (cauAt c i) [j]) = ints (List.map (cauAt c i) (List.range j)) ++ [((cauAt c i j : Nat) : Int)] by unfold ints; rw [List.map_append]; rfl] at this
    exact this
theorem cau_l0 (n c : Nat) (hn : n ≤ 64) (hc : c ≤ 64) : ∀ d i k, i + d = n → 400 + d * 66 < k →
    quartermasterref02_Cauchy.l0 k (n : Int) (c : Int) (mints ((grid n c (cauAt c)).take i)) (i : Int) = some (mints (grid n c (cauAt c)), 0) := by
  intro d
  induction d with
  | zero =>
    intro i k h hk
    obtain ⟨k, rfl⟩ : ∃ m, k = m + 1 := ⟨k - 1, by omega⟩
    simp only [quartermasterref02_Cauchy.l0]
    rw [if_neg (by omega), List.take_of_length_le (by rw [grid_len]; omega)]
  | succ d ih =>
    intro i k h hk
    obtain ⟨k, rfl⟩ : ∃ m, k = m + 1 := ⟨k - 1, by omega⟩
    rw [quartermasterref02_Cauchy.l0, if_pos (by omega)]
    obtain ⟨m, rfl⟩ : ∃ m, k = m + c + 1 := ⟨k - c - 1, by omega⟩
    have := cau_l1 n c i hc (by omega) (mints ((grid n c (cauAt c)).take i)) c 0 m (by omega) (by omega)
    rw [show ((0 : Nat) : Int) = 0 from rfl] at this
    rw [show ([] : List Int) = ints ((List.range 0).map (cauAt c i)) from rfl, this, if_pos (by rw [mints_len, List.length_take]; omega), w64 (by omega) (by omega), ← succ_cast]
    have h2 := ih (i + 1) m (by omega) (by omega)
    rw [grid_take_succ n c _ i (by omega), mints_app] at h2
    exact h2
theorem rcau_f (n c : Int) {k : Nat} (hk : 4700 ≤ k) : quartermasterref02_Cauchy.f k n c = mat_Cauchy.f n c := by
  unfold quartermasterref02_Cauchy.f mat_Cauchy.f
  obtain ⟨k, rfl⟩ : ∃ m, k = m + 1 := ⟨k - 1, by omega⟩
  simp only [quartermasterref02_Cauchy.j0]
  by_cases h1 : 1 ≤ n
  · rw [if_neg (by omega)]
    by_cases h2 : 1 ≤ c
    · rw [if_neg (by omega)]
      by_cases h3 : n ≤ 64
      · rw [if_neg (by omega)]
        by_cases h4 : c ≤ 64
        · rw [decide_eq_false (by omega), if_neg (by decide), if_pos ⟨h1, h3, h2, h4⟩]
          obtain ⟨m, rfl⟩ := Int.eq_ofNat_of_zero_le (show 0 ≤ n by omega)
          obtain ⟨c, rfl⟩ := Int.eq_ofNat_of_zero_le (show 0 ≤ c by omega)
          rw [Int.toNat_natCast, Int.toNat_natCast]
          exact cau_l0 m c (by omega) (by omega) m 0 k (by omega) (by omega)
        · rw [decide_eq_true (by omega), if_pos rfl, if_neg (by omega)]
      · rw [if_pos (by omega), if_pos trivial, if_neg (by omega)]
    · rw [if_pos (by omega), if_pos trivial, if_neg (by omega)]
  · rw [if_pos (by omega), if_pos trivial, if_neg (by omega)]
theorem same_self (a : List (List Int)) (C : Nat) (h64 : a.length ≤ 64) (hC : C ≤ 4096) (hs : ∀ r ∈ a, r.length ≤ C) {k : Nat} (hk : 300000 ≤ k) : quartermasterref02_Same.f k a a = some true := by
  rw [same_f a a C (by omega) (by omega) hs (Nat.lt_of_le_of_lt (Nat.mul_le_mul h64 (show C + 2 ≤ 4098 by omega)) (by omega)), decide_eq_true rfl]
theorem grid_small (n c : Nat) (g : Nat → Nat → Nat) : ∀ r ∈ mints (grid n c g), r.length ≤ c := by
  intro r hr
  obtain ⟨r', h, rfl⟩ := List.mem_map.1 hr
  obtain ⟨i, _, rfl⟩ := List.mem_map.1 h
  rw [ints_len]; simp
end Go.Proofs.Ythblmkailhdhlaa.Mat
