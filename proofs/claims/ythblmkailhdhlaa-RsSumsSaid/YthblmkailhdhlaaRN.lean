/- RsSums. -/
import Derived.Test.YthblmkailhdhlaaB5
import Derived.Test.YthblmkailhdhlaaRLb
import Derived.Test.YthblmkailhdhlaaOpen
import Derived.Test.YthblmkailhdhlaaXS2
namespace Go.Proofs.Ythblmkailhdhlaa.Mat
set_option linter.unusedVariables false
open Go.RowKit Go.Proofs.Ythblmkailhdhlaa.F Go.Proofs.Ythblmkailhdhlaa.R Go.Proofs.Ythblmkailhdhlaa.G Go.Proofs.Ythblmkailhdhlaa.P Go.Proofs.Ythblmkailhdhlaa.Given Go.Proofs.Ythblmkailhdhlaa.Gf Go.Proofs.YthblmkailhdhlaaW.PrintWords

theorem rd_L1_natXS (l : List (List Int)) (j : Nat) : XS.rd_L1 l (j : Int) = l.getD j [] := rd_L1_nat l j
theorem rlen {n c : Nat} {M : List (List Nat)} (h : Rect n c M) {i : Nat} (hi : i < n) : ((mints M).getD i []).length = c := by
  obtain ⟨l, e1, e2, e3, e4⟩ := h.row hi
  rw [mints_getD, e2, ints_len]; exact e3
theorem grid_more (n c : Nat) (g : Nat → Nat → Nat) : grid (n + 1) c g = grid n c g ++ [(List.range c).map (g n)] := by
  unfold Mat.grid; rw [List.range_succ, List.map_append]; rfl
/-- The first j numbers of a row, the others nothing. -/
def partRow (c : Nat) (g : Nat → Nat) (j : Nat) : List Nat := (List.range c).map fun t => if t < j then g t else 0
theorem partRow_zero (c : Nat) (g : Nat → Nat) : ints (partRow c g 0) = List.replicate c 0 := by
  unfold partRow ints
  rw [List.map_map]
  apply List.ext_getElem?
  intro i
  rw [List.getElem?_map, List.getElem?_replicate]
  by_cases h : i < c
  · rw [List.getElem?_range h, if_pos h]; rfl
  · rw [List.getElem?_eq_none (by simp; omega), if_neg h]; rfl
theorem partRow_all (c : Nat) (g : Nat → Nat) : partRow c g c = (List.range c).map g := by
  unfold partRow
  refine List.map_congr_left fun t ht => ?_
  rw [if_pos (List.mem_range.1 ht)]
theorem partRow_set (c : Nat) (g : Nat → Nat) {j : Nat} (hj : j < c) : (ints (partRow c g j)).set j ((g j : Nat) : Int) = ints (partRow c g (j + 1)) := by
  unfold partRow ints
  rw [List.map_map, List.map_map]
  apply List.ext_getElem?
  intro i
  rw [List.getElem?_set, List.length_map, List.length_range]
  by_cases e : j = i
  · subst e
    rw [if_pos rfl, if_pos hj, List.getElem?_map, List.getElem?_range hj]
    show some ((g j : Nat) : Int) = some (((if j < j + 1 then g j else 0 : Nat)) : Int)
    rw [if_pos (by omega)]
  · rw [if_neg e, List.getElem?_map, List.getElem?_map]
    by_cases h : i < c
    · rw [List.getElem?_range h]
      show some (((if i < j then g i else 0 : Nat)) : Int) = some (((if i < j + 1 then g i else 0 : Nat)) : Int)
      by_cases h2 : i < j
      · rw [if_pos h2, if_pos (by omega)]
      · rw [if_neg h2, if_neg (by omega)]
    · rw [List.getElem?_eq_none (by simp; omega)]; rfl
theorem partRow_len (c : Nat) (g : Nat → Nat) (j : Nat) : (ints (partRow c g j)).length = c := by rw [ints_len]; simp [partRow]
def xorF (A B : List (List Nat)) (i j : Nat) : Nat := el A i j ^^^ el B i j
theorem xorF_lt {k c : Nat} {A B : List (List Nat)} (hA : Rect k c A) (hB : Rect k c B) (i j : Nat) : xorF A B i j < 256 := xor_lt (hA.lt i j) (hB.lt i j)
theorem sums_l1 {A B : List (List Nat)} {k c : Nat} (hA : Rect k c A) (hB : Rect k c B) (hk : k ≤ 64) (hc : c ≤ 4096) (a2 : Int) (x : List (List Int)) (hx : x.length ≤ 1000) (i : Nat) (hi : i < k) (R : Nat) (hR : XS.quartermasterlaw03_RsSums.l0 R (mints A) (mints B) a2 (x ++ [ints ((List.range c).map (xorF A B i))]) ((i + 1 : Nat) : Int) = some true) : ∀ d j q, j + d = c → q = R + d + 1 → 100 ≤ R →
    XS.quartermasterlaw03_RsSums.l1 q (mints A) (mints B) a2 x (i : Int) (ints (partRow c (xorF A B i) j)) (j : Int) = some true := by
  have rA := rlen hA hi
  have rB := rlen hB hi
  intro d
  induction d with
  | zero =>
    intro j q hj hq hR'
    subst hq
    obtain rfl : j = c := by omega
    rw [XS.quartermasterlaw03_RsSums.l1, partRow_len, if_neg (by omega), if_pos (by omega), partRow_all, w64 (by omega) (by omega), ← succ_cast]
    exact hR
  | succ d ih =>
    intro j q hj hq hR'
    subst hq
    rw [XS.quartermasterlaw03_RsSums.l1, partRow_len, if_pos (by omega), if_pos (by omega), mints_len, hA.1, if_pos (by omega), if_pos (by omega), rd_L1_natXS, rA, if_pos (by omega), mints_len, hB.1, if_pos (by omega), rd_L1_natXS, rB, if_pos (by omega), rd_nat, rd_nat, mints_at, mints_at, add_f (hA.lt i j) (hB.lt i j) (by omega), Option.bind_some, Int.toNat_natCast, w64 (by omega) (by omega), ← succ_cast]
    have e : (ints (partRow c (xorF A B i) j)).set j ((el A i j ^^^ el B i j : Nat) : Int) = ints (partRow c (xorF A B i) (j + 1)) := partRow_set c (xorF A B i) (by omega)
    rw [e]
    exact ih (j + 1) (R + d + 1) (by omega) (by omega) hR'
theorem sums_l3 {X Y Z : List (List Nat)} {m c : Nat} (hX : Rect m c X) (hY : Rect m c Y) (hZ : Rect m c Z) (hm : m ≤ 64) (hc : c ≤ 4096) (i : Nat) (hi : i < m) (he : ∀ j, j < c → el Z i j = el X i j ^^^ el Y i j) (R : Nat) (hR : XS.quartermasterlaw03_RsSums.l2 R (m : Int) (mints X) (mints Y) (mints Z) ((i + 1 : Nat) : Int) = some true) : ∀ d j q, j + d = c → q = R + d + 1 → 100 ≤ R →
    XS.quartermasterlaw03_RsSums.l3 q (m : Int) (mints X) (mints Y) (mints Z) (i : Int) (j : Int) = some true := by
  have rX := rlen hX hi
  have rY := rlen hY hi
  have rZ := rlen hZ hi
  intro d
  induction d with
  | zero =>
    intro j q hj hq hR'
    subst hq
    rw [XS.quartermasterlaw03_RsSums.l3, if_pos (by omega), mints_len, hZ.1, if_pos (by omega), rd_L1_natXS, rZ, if_neg (by omega), w64 (by omega) (by omega), ← succ_cast]
    exact hR
  | succ d ih =>
    intro j q hj hq hR'
    subst hq
    rw [XS.quartermasterlaw03_RsSums.l3, if_pos (by omega), mints_len, hZ.1, if_pos (by omega), rd_L1_natXS, rZ, if_pos (by omega), mints_len, hX.1, if_pos (by omega), rd_L1_natXS, rX, if_neg (by omega), mints_len, hY.1, if_pos (by omega), rd_L1_natXS, rY, if_neg (by omega), if_pos (by omega), if_pos (by omega), if_pos (by omega), rd_nat, rd_nat, rd_nat, mints_at, mints_at, mints_at, add_f (hX.lt i j) (hY.lt i j) (by omega), Option.bind_some, he j (by omega), if_pos rfl, w64 (by omega) (by omega), ← succ_cast]
    exact ih (j + 1) (R + d + 1) (by omega) (by omega) hR'
theorem sums_l2 {X Y Z : List (List Nat)} {m c : Nat} (hX : Rect m c X) (hY : Rect m c Y) (hZ : Rect m c Z) (hm : m ≤ 64) (hc : c ≤ 4096) (he : ∀ i j, i < m → j < c → el Z i j = el X i j ^^^ el Y i j) : ∀ d i q, i + d = m → q = 100 + d * (c + 2) + 1 →
    XS.quartermasterlaw03_RsSums.l2 q (m : Int) (mints X) (mints Y) (mints Z) (i : Int) = some true := by
  intro d
  induction d with
  | zero =>
    intro i q hi hq
    subst hq
    rw [XS.quartermasterlaw03_RsSums.l2, if_neg (by omega)]
  | succ d ih =>
    intro i q hi hq
    subst hq
    have := ih (i + 1) _ (by omega) rfl
    rw [show 100 + (d + 1) * (c + 2) + 1 = (100 + d * (c + 2) + 1 + c + 1) + 1 from by rw [Nat.succ_mul]; omega, XS.quartermasterlaw03_RsSums.l2, if_pos (by omega)]
    exact sums_l3 hX hY hZ hm hc i (by omega) (fun j hj => he i j (by omega) hj) _ this c 0 _ (by omega) rfl (by omega)
theorem l2_mono {q q' : Nat} (h : q ≤ q') {m : Int} {x y z : List (List Int)} {i : Int} {r : Bool} (e : XS.quartermasterlaw03_RsSums.l2 q m x y z i = some r) : XS.quartermasterlaw03_RsSums.l2 q' m x y z i = some r := by
  induction h with
  | refl => exact e
  | step _ ih => exact (XS.quartermasterlaw03_RsSums.mono_l _).2.2.2.2.2.1 _ _ _ _ _ r ih
theorem l0_mono {q q' : Nat} (h : q ≤ q') {x y z : List (List Int)} {a i : Int} {r : Bool} (e : XS.quartermasterlaw03_RsSums.l0 q x y a z i = some r) : XS.quartermasterlaw03_RsSums.l0 q' x y a z i = some r := by
  induction h with
  | refl => exact e
  | step _ ih => exact (XS.quartermasterlaw03_RsSums.mono_l _).2.2.1 _ _ _ _ _ r ih
theorem sums_l0 {A B : List (List Nat)} {k m c : Nat} (hA : Rect k c A) (hB : Rect k c B) (hk : 1 ≤ k) (h : k + m ≤ 64) (hc : 1 ≤ c ∧ c ≤ 4096) : ∀ d i q, i + d = k → q = 300000 + d * (c + 2) →
    XS.quartermasterlaw03_RsSums.l0 q (mints A) (mints B) (m : Int) (mints (grid i c (xorF A B))) (i : Int) = some true := by
  intro d
  induction d with
  | zero =>
    intro i q hi hq
    obtain rfl : i = k := by omega
    have hC : Rect i c (grid i c (xorF A B)) := grid_rect fun _ _ _ _ => xorF_lt hA hB _ _
    have hX := shares_rect (m := m) hA hk
    have hY := shares_rect (m := m) hB hk
    have hZ := shares_rect (m := m) hC hk
    rw [show q = 299999 + 1 by omega, XS.quartermasterlaw03_RsSums.l0, mints_len, hA.1, if_neg (by omega), renc_good hA hk hc h (by omega), renc_good hB hk hc h (by omega), renc_good hC hk hc h (by omega), Option.bind_some, Option.bind_some, Option.bind_some, if_pos rfl, if_pos rfl, if_pos rfl]
    show (if ((mints (shares m A)).length : Int) = (m : Int) then (if ((mints (shares m B)).length : Int) = (m : Int) then XS.quartermasterlaw03_RsSums.j4 299999 (m : Int) (mints (shares m A)) (mints (shares m B)) (mints (shares m (grid i c (xorF A B)))) (((mints (shares m (grid i c (xorF A B)))).length : Int) != (m : Int)) else none) else none) = some true
    rw [mints_len, mints_len, mints_len, hX.1, hY.1, hZ.1, if_pos rfl, if_pos rfl, show ((m : Int) != (m : Int)) = false from by simp, show (299999 : Nat) = 299998 + 1 from rfl, XS.quartermasterlaw03_RsSums.j4, if_neg (by decide)]
    refine l2_mono ?_ (sums_l2 hX hY hZ (by omega) hc.2 (fun i' j hi' hj => shares_xor hA hB hC hk (fun t j ht hj => by rw [el_grid ht hj]; rfl) hi' hj) m 0 _ (by omega) rfl)
    have : m * (c + 2) ≤ 64 * 4098 := Nat.mul_le_mul (by omega) (by omega)
    omega
  | succ d ih =>
    intro i q hi hq
    have ih := ih (i + 1) _ (by omega) rfl
    rw [grid_more, mints_app] at ih
    have e : (mints [(List.range c).map (xorF A B i)]) = [ints ((List.range c).map (xorF A B i))] := rfl
    rw [e] at ih
    have rA := rlen hA (show i < k by omega)
    have hbig : d * (c + 2) ≤ 64 * 4098 := Nat.mul_le_mul (by omega) (by omega)
    rw [show q = (300000 + d * (c + 2) + c + 1) + 1 by rw [hq, Nat.succ_mul]; omega, XS.quartermasterlaw03_RsSums.l0, mints_len, hA.1, if_pos (by omega), if_pos (by omega), rd_L1_natXS, rA, Int.toNat_natCast, if_pos (by omega), if_pos (by omega), ← partRow_zero c (xorF A B i)]
    exact sums_l1 hA hB (by omega) hc.2 _ _ (by rw [mints_len, grid_len]; omega) i (by omega) (300000 + d * (c + 2)) ih c 0 _ (by omega) rfl (by omega)
theorem sums_f (l0 l1 : List (List Int)) (h0 : okM l0) (h1 : okM l1) (a2 : Int) : XS.quartermasterlaw03_RsSums.f 700000 l0 l1 a2 = some true := by
  have jt : XS.quartermasterlaw03_RsSums.j1 699999 l0 l1 a2 true true = some true := by rw [show (699999 : Nat) = 699998 + 1 from rfl, XS.quartermasterlaw03_RsSums.j1, if_pos rfl]
  unfold XS.quartermasterlaw03_RsSums.f quartermasterlaw03_awake.f
  rw [Option.bind_some, light_f l0 (by omega), light_f l1 (by omega), rmay_f l0 (by omega), rmay_f l1 (by omega), Option.bind_some, Option.bind_some, Option.bind_some, Option.bind_some, show (700000 : Nat) = 699999 + 1 from rfl, XS.quartermasterlaw03_RsSums.j0, XS.quartermasterlaw03_RsSums.j0, if_pos rfl, if_pos rfl]
  by_cases hm0 : mayP l0
  · rw [decide_eq_true hm0, if_pos rfl]
    by_cases hl0 : lightP l0
    · rw [decide_eq_true hl0, if_pos rfl]
      by_cases hl1 : lightP l1
      · rw [decide_eq_true hl1, if_pos rfl]
        by_cases hm1 : mayP l1
        · rw [decide_eq_true hm1, if_pos rfl]
          by_cases g1 : (l0.length : Int) = (l1.length : Int)
          · have e0 := rd_L1_natXS l0 0
            have e1 := rd_L1_natXS l1 0
            rw [show ((0 : Nat) : Int) = 0 from rfl] at e0 e1
            have hk0 := hm0.1
            have hk1 := hm1.1
            rw [if_pos g1, if_pos (by omega), if_pos (by omega), e0, e1]
            by_cases g2 : ((l0.getD 0 []).length : Int) = ((l1.getD 0 []).length : Int)
            · rw [if_pos g2]
              by_cases g3 : (l0.length : Int) > 12
              · rw [if_pos g3, jt]
              rw [if_neg g3]
              by_cases g4 : a2 < 0
              · rw [if_pos g4, jt]
              rw [if_neg g4]
              by_cases g5 : a2 > 8
              · rw [decide_eq_true g5, jt]
              rw [decide_eq_false g5, show (699999 : Nat) = 699998 + 1 from rfl, XS.quartermasterlaw03_RsSums.j1, if_neg (by decide)]
              obtain ⟨m, rfl⟩ := Int.eq_ofNat_of_zero_le (show 0 ≤ a2 by omega)
              obtain ⟨A, eA, hA⟩ := may_data h0 hm0
              obtain ⟨B, eB, hB⟩ := may_data h1 hm1
              rw [show l1.length = l0.length by omega, show (l1.getD 0 []).length = (l0.getD 0 []).length by omega] at hB
              have hh := head_light hl0.2
              have := sums_l0 (m := m) hA hB hk0 (by omega) ⟨hm0.2.2.1, by omega⟩ l0.length 0 _ (by omega) rfl
              rw [← eA, ← eB] at this
              refine l0_mono ?_ this
              have : l0.length * ((l0.getD 0 []).length + 2) ≤ 12 * 42 := Nat.mul_le_mul (by omega) (by omega)
              omega
            · rw [if_neg g2, jt]
          · rw [if_neg g1, jt]
        · rw [decide_eq_false hm1, if_neg (by decide), jt]
      · rw [decide_eq_false hl1, if_neg (by decide), jt]
    · rw [decide_eq_false hl0, if_neg (by decide), jt]
  · rw [decide_eq_false hm0, if_neg (by decide)]
    by_cases hl0 : lightP l0
    · rw [decide_eq_true hl0, if_pos rfl]
      by_cases hl1 : lightP l1
      · rw [decide_eq_true hl1, if_pos rfl, if_neg (by decide), jt]
      · rw [decide_eq_false hl1, if_neg (by decide), jt]
    · rw [decide_eq_false hl0, if_neg (by decide), jt]
theorem sums_walk (W : World) (A0 : Option Addr) (len0 c0 : Nat) (l0 : List (List Int)) (y0 : MatArg W A0 len0 c0 l0) (A1 : Option Addr) (len1 c1 : Nat) (l1 : List (List Int)) (y1 : MatArg W A1 len1 c1 l1) (a2 : Int) (w2 : (Lit.int .i64 a2).wf = true) :
    Calls Try.prog 22 #[.slice A0 len0 c0, .slice A1 len1 c1, .int .i64 a2] W fun e w' => e = .returned (.bool true) ∧ Below W.heap.size W w' := by
  have := XS.quartermasterlaw03_RsSums.calls 700000 A0 c0 l0 A1 c1 l1 a2 true W y0.reads y0.room y1.reads y1.room (sums_f l0 l1 y0.ok y1.ok a2)
  rw [y0.long, y1.long] at this
  exact this
end Go.Proofs.Ythblmkailhdhlaa.Mat
