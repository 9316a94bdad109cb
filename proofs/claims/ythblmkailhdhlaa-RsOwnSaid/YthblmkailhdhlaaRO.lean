/- RsOwn. -/
import Derived.Test.YthblmkailhdhlaaRJz
import Derived.Test.YthblmkailhdhlaaOpen
import Derived.Test.YthblmkailhdhlaaXO2
namespace Go.Proofs.Ythblmkailhdhlaa.Mat
set_option linter.unusedVariables false
open Go.RowKit Go.Proofs.Ythblmkailhdhlaa.F Go.Proofs.Ythblmkailhdhlaa.R Go.Proofs.Ythblmkailhdhlaa.G Go.Proofs.Ythblmkailhdhlaa.P Go.Proofs.Ythblmkailhdhlaa.Given Go.Proofs.Ythblmkailhdhlaa.Gf Go.Proofs.YthblmkailhdhlaaW.PrintWords

theorem rd_L1_natXO (l : List (List Int)) (j : Nat) : XO.rd_L1 l (j : Int) = l.getD j [] := rd_L1_nat l j
theorem leftOf_none {A : List (List Int)} {n : Nat} (h : A.length = n) : leftOf A (fun _ => false) n = A := by
  apply List.ext_getElem?
  intro i
  unfold leftOf
  rw [List.getElem?_map]
  by_cases hi : i < n
  · rw [List.getElem?_range hi, List.getElem?_eq_getElem (by omega)]
    show some (if false = true then [] else A.getD i []) = _
    rw [if_neg (by decide), getD_at (by omega)]
  · rw [List.getElem?_eq_none (by simp; omega), List.getElem?_eq_none (by omega)]; rfl
theorem cnt_all : ∀ n, cnt (fun _ => !false) n = n
  | 0 => rfl
  | n + 1 => by
    have := cnt_all n
    rw [cnt, this, if_pos (by decide)]
theorem own_l0 {D : List (List Nat)} {k c : Nat} (hD : Rect k c D) (hk : 1 ≤ k) (h : k + 2 ≤ 64) (hc : 1 ≤ c ∧ c ≤ 4096) (l0 : List (List Int)) (hl : l0 = mints D) : ∀ d i q, i + d = k → 400000 + d < q →
    XO.quartermasterlaw03_RsOwn.l0 q l0 (l0.take i) (i : Int) = some true := by
  have hlen : l0.length = k := by rw [hl, mints_len, hD.1]
  intro d
  induction d with
  | zero =>
    intro i q hi hq
    obtain ⟨q, rfl⟩ : ∃ p, q = p + 1 := ⟨q - 1, by omega⟩
    obtain rfl : i = k := by omega
    have hA := all_rect (m := 2) hD hk
    have hs := (shares_rect (m := 2) hD hk).1
    have he : T.rs_Encode.f q l0 2 = some (mints (shares 2 D), 0) := by
      have := renc_good (m := 2) (q := q) hD hk hc h (by omega)
      rw [← hl] at this; exact this
    have hcat : l0 ++ mints (shares 2 D) = mints (D ++ shares 2 D) := by rw [mints_app, ← hl]
    have hd : XO.cat_Decode.f l0 (mints (shares 2 D)) (l0.length : Int) = some (mints (D ++ shares 2 D), 0) := by
      unfold XO.cat_Decode.f
      rw [if_pos (by rw [mints_len, hs]; omega), hcat, hlen]
      have := dec_left (m := 2) hD hk h hc (fun _ => false)
      rw [leftOf_none (by rw [mints_len, hA.1]), cnt_all, if_neg (by omega)] at this
      exact this
    rw [XO.quartermasterlaw03_RsOwn.l0, if_neg (by omega), he, Option.bind_some, hd, Option.bind_some, if_pos rfl, if_pos rfl]
    show (if ((mints (D ++ shares 2 D)).length : Int) = wrap64 ((l0.length : Int) + 2) then ((quartermasterref02_Same.f q l0 (l0.take i)).bind fun t119 => some t119) else none) = some true
    rw [mints_len, hA.1, hlen, w64 (by omega) (by omega), if_pos (by omega), List.take_of_length_le (by omega), hl, same_true hD (by omega) hc.2 (by omega), Option.bind_some]
  | succ d ih =>
    intro i q hi hq
    obtain ⟨q, rfl⟩ : ∃ p, q = p + 1 := ⟨q - 1, by omega⟩
    have ih := ih (i + 1) q (by omega) (by omega)
    have hrow : (l0.getD i []).length = c := by
      obtain ⟨l, e1, e2, e3, e4⟩ := hD.row (i := i) (by omega)
      rw [hl, mints_getD, e2, ints_len]; exact e3
    have hx : l0.take (i + 1) = l0.take i ++ [l0.getD i []] := by
      rw [List.take_add_one, getD_at (show i < l0.length by omega), List.getElem?_eq_getElem (show i < l0.length by omega)]; rfl
    rw [XO.quartermasterlaw03_RsOwn.l0, if_pos (by omega), if_pos (by omega), rd_L1_natXO, if_pos (by rw [hrow, List.length_nil]; omega), if_pos (by rw [List.length_take]; omega), List.nil_append, w64 (by omega) (by omega), ← succ_cast, ← hx]
    exact ih
theorem own_f (l0 : List (List Int)) (h0 : okM l0) : XO.quartermasterlaw03_RsOwn.f 500000 l0 = some true := by
  have jt : XO.quartermasterlaw03_RsOwn.j0 500000 l0 true true = some true := by rw [show (500000 : Nat) = 499999 + 1 from rfl, XO.quartermasterlaw03_RsOwn.j0, if_pos rfl]
  unfold XO.quartermasterlaw03_RsOwn.f quartermasterlaw03_awake.f
  rw [Option.bind_some, light_f l0 (by omega), rmay_f l0 (by omega), Option.bind_some, Option.bind_some, if_pos rfl]
  by_cases hl : lightP l0
  · rw [decide_eq_true hl, if_pos rfl]
    by_cases hm : mayP l0
    · rw [decide_eq_true hm, show (500000 : Nat) = 499999 + 1 from rfl, XO.quartermasterlaw03_RsOwn.j0, if_neg (by decide)]
      obtain ⟨D, e, hD⟩ := may_data h0 hm
      have hh := head_light hl.2
      have h20 := hl.1
      exact own_l0 hD hm.1 (by omega) ⟨hm.2.2.1, by omega⟩ l0 e l0.length 0 499999 (by omega) (by omega)
    · rw [decide_eq_false hm]; exact jt
  · rw [decide_eq_false hl, if_neg (by decide), jt]
theorem own_walk (W : World) (A0 : Option Addr) (len0 c0 : Nat) (l0 : List (List Int)) (y0 : MatArg W A0 len0 c0 l0) :
    Calls Try.prog 20 #[.slice A0 len0 c0] W fun e w' => e = .returned (.bool true) ∧ Below W.heap.size W w' := by
  have := XO.quartermasterlaw03_RsOwn.calls 500000 A0 c0 l0 true W y0.reads y0.room (own_f l0 y0.ok)
  rw [y0.long] at this
  exact this
end Go.Proofs.Ythblmkailhdhlaa.Mat
