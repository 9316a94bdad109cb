/- RsAny. -/
import Derived.Test.YthblmkailhdhlaaRJz
import Derived.Test.YthblmkailhdhlaaOpenB
import Derived.Test.YthblmkailhdhlaaXA2
namespace Go.Proofs.Ythblmkailhdhlaa.Mat
set_option linter.unusedVariables false
open Go.RowKit Go.Proofs.Ythblmkailhdhlaa.F Go.Proofs.Ythblmkailhdhlaa.R Go.Proofs.Ythblmkailhdhlaa.G Go.Proofs.Ythblmkailhdhlaa.P Go.Proofs.Ythblmkailhdhlaa.Given Go.Proofs.Ythblmkailhdhlaa.Gf Go.Proofs.YthblmkailhdhlaaW.PrintWords

theorem rd_L1_natXA (l : List (List Int)) (j : Nat) : XA.rd_L1 l (j : Int) = l.getD j [] := rd_L1_nat l j
theorem set_last {α : Type} (l : List α) (x y : α) : (l ++ [x]).set l.length y = l ++ [y] := by
  rw [List.set_append_right _ _ (Nat.le_refl _), Nat.sub_self]; rfl
theorem left_set (A : List (List Int)) (lost : Nat → Bool) (i : Nat) : (leftOf A lost i ++ [A.getD i []]).set i [] = leftOf A lost i ++ [[]] := by
  have := set_last (leftOf A lost i) (A.getD i []) []
  rw [leftOf_len] at this
  exact this
/-- The end of a round: the second row's entry. -/
theorem any_l0 {D : List (List Nat)} {k m c : Nat} (hD : Rect k c D) (hk : 1 ≤ k) (h : k + m ≤ 64) (hc : 1 ≤ c ∧ c ≤ 4096) (l0 : List (List Int)) (hl : l0.length = k) (u v : List Bool) : ∀ d i q, i + d = k + m → 400000 + 2 * d < q →
    XA.quartermasterlaw03_RsAny.l0 q l0 u v (mints (D ++ shares m D)) (leftOf (mints (D ++ shares m D)) (lostAt u) i) (leftOf (mints (D ++ shares m D)) (lostAt v) i) (i : Int) = some true := by
  have hA := all_rect (m := m) hD hk
  have hlen : (mints (D ++ shares m D)).length = k + m := by rw [mints_len, hA.1]
  intro d
  induction d with
  | zero =>
    intro i q hi hq
    obtain ⟨q, rfl⟩ : ∃ p, q = p + 1 := ⟨q - 1, by omega⟩
    obtain rfl : i = k + m := by omega
    rw [XA.quartermasterlaw03_RsAny.l0, if_neg (by omega), hl, dec_left hD hk h hc, dec_left hD hk h hc]
    by_cases z : cnt (fun j => !lostAt u j) (k + m) < k
    · rw [if_pos z, Option.bind_some]
      by_cases y : cnt (fun j => !lostAt v j) (k + m) < k
      · rw [if_pos y, Option.bind_some]; rfl
      · rw [if_neg y, Option.bind_some]; rfl
    · rw [if_neg z, Option.bind_some]
      by_cases y : cnt (fun j => !lostAt v j) (k + m) < k
      · rw [if_pos y, Option.bind_some]; rfl
      · rw [if_neg y, Option.bind_some, if_pos rfl, if_pos rfl, same_true hA (by omega) hc.2 (by omega), Option.bind_some]
  | succ d ih =>
    intro i q hi hq
    obtain ⟨q, rfl⟩ : ∃ p, q = p + 1 := ⟨q - 1, by omega⟩
    have e1 : ∀ w : List Bool, lostAt w i = true → i < w.length ∧ w.getD i false = true := fun w hw => by
      unfold lostAt at hw
      rw [Bool.and_eq_true] at hw
      exact ⟨of_decide_eq_true hw.1, hw.2⟩
    have e2 : ∀ w : List Bool, lostAt w i = false → i < w.length → w.getD i false = false := fun w hw hi => by
      unfold lostAt at hw
      rw [decide_eq_true hi] at hw
      exact hw
    have step : ∀ q, 400000 + 2 * d < q → ∀ X Y, X = leftOf (mints (D ++ shares m D)) (lostAt u) (i + 1) → Y = leftOf (mints (D ++ shares m D)) (lostAt v) (i + 1) →
        XA.quartermasterlaw03_RsAny.l0 q l0 u v (mints (D ++ shares m D)) X Y ((i + 1 : Nat) : Int) = some true := fun q hq X Y hX hY => by
      rw [hX, hY]; exact ih (i + 1) q (by omega) hq
    have hX : ∀ w : List Bool, leftOf (mints (D ++ shares m D)) (lostAt w) (i + 1) = leftOf (mints (D ++ shares m D)) (lostAt w) i ++ [if lostAt w i = true then [] else (mints (D ++ shares m D)).getD i []] := fun w => leftOf_succ _ _ _
    have hll : ∀ w : List Bool, (leftOf (mints (D ++ shares m D)) (lostAt w) i).length = i := fun w => leftOf_len _ _ _
    have hl1 : ∀ w : List Bool, (leftOf (mints (D ++ shares m D)) (lostAt w) i ++ [(mints (D ++ shares m D)).getD i []]).length = i + 1 := fun w => by rw [List.length_append, hll]; rfl
    have ls : ∀ w : List Bool, (leftOf (mints (D ++ shares m D)) (lostAt w) i ++ [(mints (D ++ shares m D)).getD i []]).set i [] = leftOf (mints (D ++ shares m D)) (lostAt w) i ++ [[]] := fun w => left_set _ _ _
    have hj : XA.quartermasterlaw03_RsAny.j2 q l0 u v (mints (D ++ shares m D)) (leftOf (mints (D ++ shares m D)) (lostAt u) i ++ [(mints (D ++ shares m D)).getD i []]) (leftOf (mints (D ++ shares m D)) (lostAt v) i ++ [(mints (D ++ shares m D)).getD i []]) (i : Int) (lostAt u i) = some true := by
      obtain ⟨q, rfl⟩ : ∃ p, q = p + 1 := ⟨q - 1, by omega⟩
      rw [XA.quartermasterlaw03_RsAny.j2, w64 (by omega) (by omega), ← succ_cast, Int.toNat_natCast, rdOf_nat, hl1, hl1, ls u, ls v]
      have second : ∀ X, X = leftOf (mints (D ++ shares m D)) (lostAt u) (i + 1) →
          (if (i : Int) < (v.length : Int) then (if v.getD i false = true then (if (i : Int) < ((i + 1 : Nat) : Int) then XA.quartermasterlaw03_RsAny.l0 q l0 u v (mints (D ++ shares m D)) X (leftOf (mints (D ++ shares m D)) (lostAt v) i ++ [[]]) ((i + 1 : Nat) : Int) else none)
            else XA.quartermasterlaw03_RsAny.l0 q l0 u v (mints (D ++ shares m D)) X (leftOf (mints (D ++ shares m D)) (lostAt v) i ++ [(mints (D ++ shares m D)).getD i []]) ((i + 1 : Nat) : Int))
          else XA.quartermasterlaw03_RsAny.l0 q l0 u v (mints (D ++ shares m D)) X (leftOf (mints (D ++ shares m D)) (lostAt v) i ++ [(mints (D ++ shares m D)).getD i []]) ((i + 1 : Nat) : Int)) = some true := fun X hXe => by
        cases hv : lostAt v i with
        | true =>
          have := e1 v hv
          rw [if_pos (by omega), if_pos this.2, if_pos (by omega)]
          exact step q (by omega) _ _ hXe (by rw [hX, hv]; rfl)
        | false =>
          have hYe : leftOf (mints (D ++ shares m D)) (lostAt v) i ++ [(mints (D ++ shares m D)).getD i []] = leftOf (mints (D ++ shares m D)) (lostAt v) (i + 1) := by rw [hX, hv]; rfl
          by_cases g : i < v.length
          · rw [if_pos (by omega), if_neg (by rw [e2 v hv g]; decide)]
            exact step q (by omega) _ _ hXe hYe
          · rw [if_neg (by omega)]
            exact step q (by omega) _ _ hXe hYe
      cases hu : lostAt u i with
      | true =>
        rw [if_pos rfl, if_pos (by omega), if_pos (by omega), Option.bind_some]
        exact second _ (by rw [hX, hu]; rfl)
      | false =>
        have hXe : leftOf (mints (D ++ shares m D)) (lostAt u) i ++ [(mints (D ++ shares m D)).getD i []] = leftOf (mints (D ++ shares m D)) (lostAt u) (i + 1) := by rw [hX, hu]; rfl
        rw [if_neg (by decide), if_pos (show (0 : Int) ≤ (i : Int) by omega)]
        exact second _ hXe
    rw [XA.quartermasterlaw03_RsAny.l0, if_pos (by omega), if_pos (by omega), hll, hll, rd_L1_natXA, rdOf_nat, if_pos (by omega), Option.bind_some, if_pos (by omega), Option.bind_some]
    by_cases g : i < u.length
    · have : lostAt u i = u.getD i false := by unfold lostAt; rw [decide_eq_true g]; rfl
      rw [if_pos (by omega), ← this]
      exact hj
    · have : lostAt u i = false := by unfold lostAt; rw [decide_eq_false g]; rfl
      rw [if_neg (by omega), ← this]
      exact hj
theorem any_f (l0 : List (List Int)) (h0 : okM l0) (a1 : Int) (u v : List Bool) : XA.quartermasterlaw03_RsAny.f 500000 l0 a1 u v = some true := by
  have jt : XA.quartermasterlaw03_RsAny.j0 500000 l0 a1 u v true true = some true := by rw [show (500000 : Nat) = 499999 + 1 from rfl, XA.quartermasterlaw03_RsAny.j0, if_pos rfl]
  unfold XA.quartermasterlaw03_RsAny.f quartermasterlaw03_awake.f
  rw [Option.bind_some, light_f l0 (by omega), rmay_f l0 (by omega), Option.bind_some, Option.bind_some, if_pos rfl]
  by_cases hl : lightP l0
  · rw [decide_eq_true hl, if_pos rfl]
    by_cases hm : mayP l0
    · rw [decide_eq_true hm, if_pos rfl]
      by_cases g0 : (l0.length : Int) > 12
      · rw [if_pos g0, jt]
      rw [if_neg g0]
      by_cases g1 : a1 < 0
      · rw [if_pos g1, jt]
      · rw [if_neg g1]
        by_cases g2 : a1 > 8
        · rw [decide_eq_true g2, jt]
        · rw [decide_eq_false g2, show (500000 : Nat) = 499999 + 1 from rfl, XA.quartermasterlaw03_RsAny.j0, if_neg (by decide)]
          obtain ⟨m, rfl⟩ := Int.eq_ofNat_of_zero_le (show 0 ≤ a1 by omega)
          obtain ⟨D, e, hD⟩ := may_data h0 hm
          have hk := hm.1
          have hh := head_light hl.2
          have hc : 1 ≤ (l0.getD 0 []).length ∧ (l0.getD 0 []).length ≤ 4096 := ⟨hm.2.2.1, by omega⟩
          have hkm : l0.length + m ≤ 64 := by omega
          have he : T.rs_Encode.f 499999 l0 (m : Int) = some (mints (shares m D), 0) := by
            have := renc_good (q := 499999) hD hk hc hkm (by omega)
            rw [← e] at this; exact this
          have hcat : ([] : List (List Int)) ++ l0 ++ mints (shares m D) = mints (D ++ shares m D) := by rw [mints_app, ← e]; rfl
          have hs := (shares_rect (m := m) hD hk).1
          rw [he, Option.bind_some, if_pos rfl, if_pos (by rw [List.length_nil]; omega), Option.bind_some, if_pos (by rw [List.nil_append]; show l0.length + (mints (shares m D)).length < _; rw [mints_len, hs]; omega)]
          show XA.quartermasterlaw03_RsAny.l0 499999 l0 u v ([] ++ l0 ++ mints (shares m D)) [] [] 0 = some true
          rw [hcat]
          exact any_l0 hD hk hkm hc l0 rfl u v (l0.length + m) 0 499999 (by omega) (by omega)
    · rw [decide_eq_false hm, if_neg (by decide), jt]
  · rw [decide_eq_false hl, if_neg (by decide), jt]
theorem any_walk (W : World) (A0 : Option Addr) (len0 c0 : Nat) (l0 : List (List Int)) (y0 : MatArg W A0 len0 c0 l0) (a1 : Int) (w1 : (Lit.int .i64 a1).wf = true) (A2 : Option Addr) (len2 c2 : Nat) (l2 : List Bool) (y2 : BoolArg W A2 len2 c2 l2) (A3 : Option Addr) (len3 c3 : Nat) (l3 : List Bool) (y3 : BoolArg W A3 len3 c3 l3) :
    Calls Try.prog 21 #[.slice A0 len0 c0, .int .i64 a1, .slice A2 len2 c2, .slice A3 len3 c3] W fun e w' => e = .returned (.bool true) ∧ Below W.heap.size W w' := by
  have := XA.quartermasterlaw03_RsAny.calls 500000 (fun k => k < W.heap.size) A0 c0 l0 a1 A2 c2 l2 A3 c3 l3 true W (Kd.V_mk y0.room (Kd.C_F (Kd.heap_slice 5 (Kd.heap_int .u8)) y0.reads)) y2.reads y2.room y3.reads y3.room (any_f l0 y0.ok a1 l2 l3)
  rw [y0.long, y2.long, y3.long] at this
  exact this
end Go.Proofs.Ythblmkailhdhlaa.Mat
