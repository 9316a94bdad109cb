/- RsParts. -/
import Derived.Test.YthblmkailhdhlaaB5
import Derived.Test.YthblmkailhdhlaaRLb
import Derived.Test.YthblmkailhdhlaaOpen
import Derived.Test.YthblmkailhdhlaaXP2
namespace Go.Proofs.Ythblmkailhdhlaa.Mat
set_option linter.unusedVariables false
open Go.RowKit Go.Proofs.Ythblmkailhdhlaa.F Go.Proofs.Ythblmkailhdhlaa.R Go.Proofs.Ythblmkailhdhlaa.G Go.Proofs.Ythblmkailhdhlaa.P Go.Proofs.Ythblmkailhdhlaa.Given Go.Proofs.Ythblmkailhdhlaa.Gf Go.Proofs.YthblmkailhdhlaaW.PrintWords

theorem rd_L1_natXP (l : List (List Int)) (j : Nat) : XP.rd_L1 l (j : Int) = l.getD j [] := rd_L1_nat l j
theorem ints_take (l : List Nat) (a : Nat) : (ints l).take a = ints (l.take a) := by unfold ints; rw [List.map_take]
theorem getD_map {D : List (List Nat)} (g : List Nat → List Nat) {i : Nat} (h : i < D.length) : (D.map g).getD i [] = g (D.getD i []) := by
  rw [List.getD_eq_getElem?_getD, List.getElem?_map, List.getD_eq_getElem?_getD, List.getElem?_eq_getElem h]; rfl
theorem wf_i64b {n : Int} (h : (Lit.int .i64 n).wf = true) : -9223372036854775808 ≤ n ∧ n ≤ 9223372036854775807 := by
  simp [Lit.wf] at h
  have h1 : IntKind.i64.min = -9223372036854775808 := by decide
  have h2 : IntKind.i64.max = 9223372036854775807 := by decide
  omega
theorem mints_rowlen {n c : Nat} {M : List (List Nat)} (h : Rect n c M) {i : Nat} (hi : i < n) : ((mints M).getD i []).length = c := by
  obtain ⟨l, e1, e2, e3, e4⟩ := h.row hi
  rw [mints_getD, e2, ints_len]; exact e3
theorem parts_l1 {D : List (List Nat)} {k m c a : Nat} (hD : Rect k c D) (hk : 1 ≤ k) (h : k + m ≤ 64) (ha : a ≤ c) (hm : m ≤ 64) : ∀ d i q, i + d = m → d < q →
    XP.quartermasterlaw03_RsParts.l1 q (mints D) (m : Int) (a : Int) (mints (shares m D)) (mints ((shares m D).map fun r => r.take a)) (i : Int) = some true := by
  have hS := shares_rect (m := m) hD hk
  intro d
  induction d with
  | zero =>
    intro i q hi hq
    obtain ⟨q, rfl⟩ : ∃ p, q = p + 1 := ⟨q - 1, by omega⟩
    rw [XP.quartermasterlaw03_RsParts.l1, if_neg (by omega)]
  | succ d ih =>
    intro i q hi hq
    obtain ⟨q, rfl⟩ : ∃ p, q = p + 1 := ⟨q - 1, by omega⟩
    have r1 := mints_rowlen hS (show i < m by omega)
    have r0 := mints_rowlen hD (show 0 < k by omega)
    have e0 := rd_L1_natXP (mints D) 0
    rw [show ((0 : Nat) : Int) = 0 from rfl] at e0
    rw [XP.quartermasterlaw03_RsParts.l1, if_pos (by omega), if_pos (by omega), mints_len, hS.1, if_pos (by omega), mints_len, hD.1, if_pos (by omega), rd_L1_natXP, e0, r1, r0, if_pos rfl, if_pos (by omega), if_pos (by omega), mints_len, List.length_map, hS.1, if_pos (by omega), Int.toNat_natCast, rd_L1_natXP, w64 (by omega) (by omega), ← succ_cast]
    rw [if_pos (by rw [mints_getD, mints_getD, getD_map _ (by rw [hS.1]; omega), ints_take])]
    exact ih (i + 1) q (by omega) (by omega)
theorem parts_l0 {D : List (List Nat)} {k m c a : Nat} (hD : Rect k c D) (hk : 1 ≤ k) (h : k + m ≤ 64) (hc : c ≤ 4096) (ha : 1 ≤ a ∧ a ≤ c) : ∀ d i q, i + d = k → 1000 + d < q →
    XP.quartermasterlaw03_RsParts.l0 q (mints D) (m : Int) (a : Int) (mints ((D.take i).map fun r => r.take a)) (i : Int) = some true := by
  intro d
  induction d with
  | zero =>
    intro i q hi hq
    obtain ⟨q, rfl⟩ : ∃ p, q = p + 1 := ⟨q - 1, by omega⟩
    obtain rfl : i = k := by omega
    have hS := shares_rect (m := m) hD hk
    have hT := take_rect hD ha.2
    rw [XP.quartermasterlaw03_RsParts.l0, mints_len, hD.1, if_neg (by omega), List.take_of_length_le (by rw [hD.1]; exact Nat.le_refl _), renc_good hD hk ⟨by omega, hc⟩ h (by omega), renc_good hT hk ⟨by omega, by omega⟩ h (by omega), Option.bind_some, Option.bind_some, if_pos rfl, if_pos rfl, shares_take hD hk ha.2]
    rw [show ((mints (shares m D), (0 : Int)).1) = mints (shares m D) from rfl, show ((mints ((shares m D).map fun r => r.take a), (0 : Int)).1) = mints ((shares m D).map fun r => r.take a) from rfl, mints_len, hS.1, if_pos rfl, mints_len, List.length_map, hS.1, show ((m : Int) != (m : Int)) = false from by simp]
    obtain ⟨q, rfl⟩ : ∃ p, q = p + 1 := ⟨q - 1, by omega⟩
    rw [XP.quartermasterlaw03_RsParts.j2, if_neg (by decide)]
    exact parts_l1 hD hk h ha.2 (by omega) m 0 q (by omega) (by omega)
  | succ d ih =>
    intro i q hi hq
    obtain ⟨q, rfl⟩ : ∃ p, q = p + 1 := ⟨q - 1, by omega⟩
    have r1 := mints_rowlen hD (show i < k by omega)
    have ih := ih (i + 1) q (by omega) (by omega)
    have ht : (D.take i).length = i := by rw [List.length_take, hD.1]; omega
    have hx : D.take (i + 1) = D.take i ++ [D.getD i []] := by
      rw [List.take_add_one, getD_at (show i < D.length by rw [hD.1]; omega), List.getElem?_eq_getElem (show i < D.length by rw [hD.1]; omega)]; rfl
    rw [XP.quartermasterlaw03_RsParts.l0, mints_len, hD.1, if_pos (by omega), if_pos (by omega), if_pos (by omega), rd_L1_natXP, r1, if_pos (by omega), mints_len, List.length_map, ht, if_pos (by omega), Int.toNat_natCast, mints_getD, ints_take, w64 (by omega) (by omega), ← succ_cast]
    rw [hx, List.map_append, mints_app] at ih
    exact ih
theorem parts_f (l0 : List (List Int)) (h0 : okM l0) (a1 a2 : Int) : XP.quartermasterlaw03_RsParts.f 500000 l0 a1 a2 = some true := by
  have jt : XP.quartermasterlaw03_RsParts.j0 500000 l0 a1 a2 true true = some true := by rw [show (500000 : Nat) = 499999 + 1 from rfl, XP.quartermasterlaw03_RsParts.j0, if_pos rfl]
  unfold XP.quartermasterlaw03_RsParts.f quartermasterlaw03_awake.f
  rw [Option.bind_some, light_f l0 (by omega), rmay_f l0 (by omega), Option.bind_some, Option.bind_some, if_pos rfl]
  by_cases hl : lightP l0
  · rw [decide_eq_true hl, if_pos rfl]
    by_cases hm : mayP l0
    · rw [decide_eq_true hm, if_pos rfl]
      by_cases g1 : a1 < 0
      · rw [if_pos g1, jt]
      rw [if_neg g1]
      by_cases g2 : a1 > 10
      · rw [if_pos g2, jt]
      rw [if_neg g2]
      by_cases g3 : a2 < 1
      · rw [if_pos g3, jt]
      have e0 := rd_L1_natXP l0 0
      rw [show ((0 : Nat) : Int) = 0 from rfl] at e0
      have hk := hm.1
      rw [if_neg g3, if_pos (by omega), e0]
      by_cases g4 : a2 ≥ ((l0.getD 0 []).length : Int)
      · rw [decide_eq_true g4, jt]
      · rw [decide_eq_false g4, show (500000 : Nat) = 499999 + 1 from rfl, XP.quartermasterlaw03_RsParts.j0, if_neg (by decide)]
        obtain ⟨m, rfl⟩ := Int.eq_ofNat_of_zero_le (show 0 ≤ a1 by omega)
        obtain ⟨a, rfl⟩ := Int.eq_ofNat_of_zero_le (show 0 ≤ a2 by omega)
        obtain ⟨D, e, hD⟩ := may_data h0 hm
        have hh := head_light hl.2
        have h20 := hl.1
        have := parts_l0 (m := m) (a := a) hD hk (by omega) (by omega) ⟨by omega, by omega⟩ l0.length 0 499999 (by omega) (by omega)
        rw [← e] at this
        exact this
    · rw [decide_eq_false hm, if_neg (by decide), jt]
  · rw [decide_eq_false hl, if_neg (by decide), jt]
theorem parts_walk (W : World) (A0 : Option Addr) (len0 c0 : Nat) (l0 : List (List Int)) (y0 : MatArg W A0 len0 c0 l0) (a1 : Int) (w1 : (Lit.int .i64 a1).wf = true) (a2 : Int) (w2 : (Lit.int .i64 a2).wf = true) :
    Calls Try.prog 19 #[.slice A0 len0 c0, .int .i64 a1, .int .i64 a2] W fun e w' => e = .returned (.bool true) ∧ Below W.heap.size W w' := by
  have := XP.quartermasterlaw03_RsParts.calls 500000 (fun k => k < W.heap.size) A0 c0 l0 a1 a2 true W (Kd.V_mk y0.room (Kd.C_F (Kd.heap_slice 5 (Kd.heap_int .u8)) y0.reads)) (parts_f l0 y0.ok a1 a2)
  rw [y0.long] at this
  exact this
end Go.Proofs.Ythblmkailhdhlaa.Mat
