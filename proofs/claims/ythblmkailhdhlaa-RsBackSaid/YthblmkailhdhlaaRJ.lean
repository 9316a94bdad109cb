/- RsBack. -/
import Derived.Test.YthblmkailhdhlaaB5
import Derived.Test.YthblmkailhdhlaaRLb
import Derived.Test.YthblmkailhdhlaaOpenB
import Derived.Test.YthblmkailhdhlaaXB2
namespace Go.Proofs.Ythblmkailhdhlaa.Mat
set_option linter.unusedVariables false
open Go.RowKit Go.Proofs.Ythblmkailhdhlaa.F Go.Proofs.Ythblmkailhdhlaa.R Go.Proofs.Ythblmkailhdhlaa.G Go.Proofs.Ythblmkailhdhlaa.P Go.Proofs.Ythblmkailhdhlaa.Given Go.Proofs.Ythblmkailhdhlaa.Gf Go.Proofs.YthblmkailhdhlaaW.PrintWords

theorem rd_L1_natXB (l : List (List Int)) (j : Nat) : XB.rd_L1 l (j : Int) = l.getD j [] := rd_L1_nat l j
theorem rdOf_nat (u : List Bool) (j : Nat) : rdOf false u (j : Int) = u.getD j false := by unfold rdOf; rw [Int.toNat_natCast]
/-- What is left of the rows. -/
def leftOf (A : List (List Int)) (lost : Nat → Bool) (n : Nat) : List (List Int) := (List.range n).map fun j => if lost j = true then [] else A.getD j []
theorem leftOf_len (A : List (List Int)) (lost : Nat → Bool) (n : Nat) : (leftOf A lost n).length = n := by simp [leftOf]
theorem leftOf_succ (A : List (List Int)) (lost : Nat → Bool) (n : Nat) : leftOf A lost (n + 1) = leftOf A lost n ++ [if lost n = true then [] else A.getD n []] := by
  unfold leftOf; rw [List.range_succ, List.map_append]; rfl
theorem leftOf_at (A : List (List Int)) (lost : Nat → Bool) {n i : Nat} (h : i < n) : (leftOf A lost n).getD i [] = if lost i = true then [] else A.getD i [] := by
  unfold leftOf
  rw [List.getD_eq_getElem?_getD, List.getElem?_map, List.getElem?_range h]; rfl
theorem mints_row {n c : Nat} {M : List (List Nat)} (h : Rect n c M) {i : Nat} (hi : i < n) : ((mints M).getD i []).length = c := by
  obtain ⟨l, e1, e2, e3, e4⟩ := h.row hi
  rw [mints_getD, e2, ints_len]; exact e3
/-- Decoding of what is left. -/
theorem dec_left {D : List (List Nat)} {k m c : Nat} (hD : Rect k c D) (hk : 1 ≤ k) (h : k + m ≤ 64) (hc : 1 ≤ c ∧ c ≤ 4096) (lost : Nat → Bool) :
    rs_Decode.f (leftOf (mints (D ++ shares m D)) lost (k + m)) k = if cnt (fun j => !lost j) (k + m) < k then some ([], 9) else some (mints (D ++ shares m D), 0) := by
  have hA := all_rect (m := m) hD hk
  have e : cnt (held (leftOf (mints (D ++ shares m D)) lost (k + m))) (k + m) = cnt (fun j => !lost j) (k + m) := by
    refine cnt_congr fun t ht => ?_
    unfold held
    rw [leftOf_at _ _ ht]
    have := mints_row hA ht
    cases lost t with
    | true => rfl
    | false =>
      rw [if_neg (by decide)]
      exact decide_eq_true (by omega)
  have := dec_back (q := 2000) (sh := leftOf (mints (D ++ shares m D)) lost (k + m)) hD hk h hc (leftOf_len _ _ _) (fun i hi => by rw [leftOf_at _ _ hi]; cases lost i <;> simp) (by omega)
  rw [e] at this
  exact this
def lostAt (u : List Bool) (j : Nat) : Bool := decide (j < u.length) && u.getD j false
theorem back_l0 {D : List (List Nat)} {k m c : Nat} (hD : Rect k c D) (hk : 1 ≤ k) (h : k + m ≤ 64) (hc : 1 ≤ c ∧ c ≤ 4096) (l0 : List (List Int)) (hl : l0.length = k) (u : List Bool) : ∀ d i q, i + d = k + m → 400000 + d < q →
    XB.quartermasterlaw03_RsBack.l0 q l0 u (mints (D ++ shares m D)) (leftOf (mints (D ++ shares m D)) (lostAt u) i) ((cnt (fun j => !lostAt u j) i : Nat) : Int) (i : Int) = some true := by
  have hA := all_rect (m := m) hD hk
  have hlen : (mints (D ++ shares m D)).length = k + m := by rw [mints_len, hA.1]
  intro d
  induction d with
  | zero =>
    intro i q hi hq
    obtain ⟨q, rfl⟩ : ∃ p, q = p + 1 := ⟨q - 1, by omega⟩
    obtain rfl : i = k + m := by omega
    rw [XB.quartermasterlaw03_RsBack.l0, if_neg (by omega), hl, dec_left hD hk h hc]
    by_cases z : cnt (fun j => !lostAt u j) (k + m) < k
    · rw [if_pos z, Option.bind_some, if_pos (by omega)]; rfl
    · rw [if_neg z, Option.bind_some, if_neg (by omega), same_true hA (by omega) hc.2 (by omega), Option.bind_some]; rfl
  | succ d ih =>
    intro i q hi hq
    obtain ⟨q, rfl⟩ : ∃ p, q = p + 1 := ⟨q - 1, by omega⟩
    have ih := ih (i + 1) q (by omega) (by omega)
    have hcl : cnt (fun j => !lostAt u j) i ≤ i := cnt_le _ _
    rw [leftOf_succ] at ih
    rw [XB.quartermasterlaw03_RsBack.l0, if_pos (by omega), leftOf_len, rd_L1_natXB, rdOf_nat, w64 (x := (i : Int) + 1) (by omega) (by omega), w64 (by omega) (by omega), ← succ_cast]
    by_cases g : i < u.length
    · rw [if_pos (by omega), if_pos (by omega)]
      by_cases y : u.getD i false = true
      · have e : lostAt u i = true := by unfold lostAt; rw [y]; simp; exact g
        rw [if_pos y, if_pos (by omega)]
        rw [e, if_pos rfl] at ih
        rw [show cnt (fun j => !lostAt u j) (i + 1) = cnt (fun j => !lostAt u j) i from by rw [cnt, if_neg (by rw [e]; decide), Nat.add_zero]] at ih
        exact ih
      · have e : lostAt u i = false := by unfold lostAt; rw [Bool.eq_false_iff.2 y]; simp
        rw [if_neg y, if_pos (by omega)]
        rw [e, if_neg (by decide)] at ih
        rw [show cnt (fun j => !lostAt u j) (i + 1) = cnt (fun j => !lostAt u j) i + 1 from by rw [cnt, if_pos (by rw [e]; rfl)], succ_cast (cnt _ i)] at ih
        exact ih
    · have e : lostAt u i = false := by unfold lostAt; rw [decide_eq_false g]; rfl
      rw [if_neg (by omega), if_pos (by omega), if_pos (by omega)]
      rw [e, if_neg (by decide)] at ih
      rw [show cnt (fun j => !lostAt u j) (i + 1) = cnt (fun j => !lostAt u j) i + 1 from by rw [cnt, if_pos (by rw [e]; rfl)], succ_cast (cnt _ i)] at ih
      exact ih
theorem back_f (l0 : List (List Int)) (h0 : okM l0) (a1 : Int) (u : List Bool) : XB.quartermasterlaw03_RsBack.f 500000 l0 a1 u = some true := by
  have jt : XB.quartermasterlaw03_RsBack.j0 500000 l0 a1 u true true = some true := by rw [show (500000 : Nat) = 499999 + 1 from rfl, XB.quartermasterlaw03_RsBack.j0, if_pos rfl]
  unfold XB.quartermasterlaw03_RsBack.f quartermasterlaw03_awake.f
  rw [Option.bind_some, light_f l0 (by omega), rmay_f l0 (by omega), Option.bind_some, Option.bind_some, if_pos rfl]
  by_cases hl : lightP l0
  · rw [decide_eq_true hl, if_pos rfl]
    by_cases hm : mayP l0
    · rw [decide_eq_true hm, if_pos rfl]
      by_cases g1 : a1 < 0
      · rw [if_pos g1, jt]
      · rw [if_neg g1]
        by_cases g2 : a1 > 20
        · rw [decide_eq_true g2, jt]
        · rw [decide_eq_false g2, show (500000 : Nat) = 499999 + 1 from rfl, XB.quartermasterlaw03_RsBack.j0, if_neg (by decide)]
          obtain ⟨m, rfl⟩ := Int.eq_ofNat_of_zero_le (show 0 ≤ a1 by omega)
          obtain ⟨D, e, hD⟩ := may_data h0 hm
          have hk := hm.1
          have hh := head_light hl.2
          have hc : 1 ≤ (l0.getD 0 []).length ∧ (l0.getD 0 []).length ≤ 4096 := ⟨hm.2.2.1, by omega⟩
          have hkm : l0.length + m ≤ 64 := by have := hl.1; omega
          have he : T.rs_Encode.f 499999 l0 (m : Int) = some (mints (shares m D), 0) := by
            have := renc_good (q := 499999) hD hk hc hkm (by omega)
            rw [← e] at this; exact this
          have hA := all_rect (m := m) hD hk
          have hcat : ([] : List (List Int)) ++ l0 ++ mints (shares m D) = mints (D ++ shares m D) := by rw [mints_app, ← e]; rfl
          rw [he, Option.bind_some, if_pos (by rw [List.length_nil]; omega), Option.bind_some]
          have hs := (shares_rect (m := m) hD hk).1
          rw [if_pos (by rw [List.nil_append]; show l0.length + (mints (shares m D)).length < _; rw [mints_len, hs]; omega), Option.bind_some, if_pos rfl]
          show XB.quartermasterlaw03_RsBack.j1 499999 l0 u ([] ++ l0 ++ mints (shares m D)) ((([] ++ l0 ++ mints (shares m D)).length : Int) != wrap64 ((l0.length : Int) + (m : Int))) = some true
          rw [hcat, mints_len, hA.1, w64 (by omega) (by omega), show (((l0.length + m : Nat) : Int) != ((l0.length : Int) + (m : Int))) = false from by simp, show (499999 : Nat) = 499998 + 1 from rfl, XB.quartermasterlaw03_RsBack.j1, if_neg (by decide)]
          exact back_l0 hD hk hkm hc l0 rfl u (l0.length + m) 0 499998 (by omega) (by omega)
    · rw [decide_eq_false hm, if_neg (by decide), jt]
  · rw [decide_eq_false hl, if_neg (by decide), jt]
theorem back_walk (W : World) (A0 : Option Addr) (len0 c0 : Nat) (l0 : List (List Int)) (y0 : MatArg W A0 len0 c0 l0) (a1 : Int) (w1 : (Lit.int .i64 a1).wf = true) (A2 : Option Addr) (len2 c2 : Nat) (l2 : List Bool) (y2 : BoolArg W A2 len2 c2 l2) :
    Calls Try.prog 18 #[.slice A0 len0 c0, .int .i64 a1, .slice A2 len2 c2] W fun e w' => e = .returned (.bool true) ∧ Below W.heap.size W w' := by
  have := XB.quartermasterlaw03_RsBack.calls 500000 (fun k => k < W.heap.size) A0 c0 l0 a1 A2 c2 l2 true W (Kd.V_mk y0.room (Kd.C_F (Kd.heap_slice 5 (Kd.heap_int .u8)) y0.reads)) y2.reads y2.room (back_f l0 y0.ok a1 l2)
  rw [y0.long, y2.long] at this
  exact this
end Go.Proofs.Ythblmkailhdhlaa.Mat
