/- What ref02's Det (as printed) comes to; MatInverts. -/
import Derived.Test.YthblmkailhdhlaaNI
import Derived.Test.YthblmkailhdhlaaP7
import Derived.Test.YthblmkailhdhlaaS2
namespace Go.Proofs.Ythblmkailhdhlaa.Mat
set_option linter.unusedVariables false
open Go.RowKit Go.Proofs.Ythblmkailhdhlaa.F Go.Proofs.Ythblmkailhdhlaa.R Go.Proofs.Ythblmkailhdhlaa.G Go.Proofs.Ythblmkailhdhlaa.P Go.Proofs.Ythblmkailhdhlaa.Given Go.Proofs.Ythblmkailhdhlaa.Gf Go.Proofs.YthblmkailhdhlaaW.PrintWords

theorem ints_drop (l : List Nat) (k : Nat) : (ints l).drop k = ints (l.drop k) := by unfold ints; rw [List.map_drop]
theorem drop_one {n : Nat} {l : List Nat} (h : l.length = n + 1) : l.drop 1 = (List.range n).map (fun c => l.getD (c + 1) 0) := by
  apply List.ext_getElem?
  intro j
  rw [List.getElem?_drop, List.getElem?_map]
  by_cases hj : j < n
  · rw [List.getElem?_range hj]
    show _ = some (l.getD (j + 1) 0)
    rw [getD_at (by omega), List.getElem?_eq_getElem (by omega)]
    congr 2; omega
  · rw [List.getElem?_eq_none (by omega), List.getElem?_eq_none (by simp; omega)]; rfl
theorem minor_l0 {n : Nat} {M : List (List Nat)} (h : Square (n + 1) M) (hn : n ≤ 64) (i : Nat) (hi : i < n + 1) : ∀ d r k, r + d = n + 1 → d < k →
    quartermasterref02_minor.l0 k (mints M) (i : Int) (mints ((grid n n (minF i (el M))).take (if r ≤ i then r else r - 1))) (r : Int) = some (mints (grid n n (minF i (el M)))) := by
  intro d
  have hl : (mints M).length = n + 1 := by rw [mints_len, h.1]
  induction d with
  | zero =>
    intro r k hr hk
    obtain ⟨k, rfl⟩ : ∃ q, k = q + 1 := ⟨k - 1, by omega⟩
    rw [quartermasterref02_minor.l0, hl, if_neg (by omega), if_neg (show ¬ r ≤ i by omega), List.take_of_length_le (by rw [grid_len]; omega)]
  | succ d ih =>
    intro r k hr hk
    obtain ⟨k, rfl⟩ : ∃ q, k = q + 1 := ⟨k - 1, by omega⟩
    have := ih (r + 1) k (by omega) (by omega)
    rw [quartermasterref02_minor.l0, hl, if_pos (by omega)]
    by_cases e : r = i
    · subst e
      rw [if_pos rfl, w64 (by omega) (by omega), ← succ_cast, if_pos (Nat.le_refl _)]
      rw [if_neg (by omega)] at this
      exact this
    · obtain ⟨l, _, e1, q1, _⟩ := h.row (show r < n + 1 by omega)
      rw [if_neg (by omega), if_pos (by omega), rd_L1_nat, mints_getD, ints_len, e1, q1, if_pos (by omega)]
      have hs : ∃ s, s < n ∧ skip i s = r ∧ (if r ≤ i then r else r - 1) = s ∧ (if r + 1 ≤ i then r + 1 else r + 1 - 1) = s + 1 := by
        by_cases hlt : r < i
        · exact ⟨r, by omega, by unfold skip; rw [if_pos hlt], by rw [if_pos (by omega)], by rw [if_pos (by omega)]⟩
        · exact ⟨r - 1, by omega, by unfold skip; rw [if_neg (by omega)]; omega, by rw [if_neg (by omega)], by rw [if_neg (by omega)]; omega⟩
      obtain ⟨s, s1, s2, s3, s4⟩ := hs
      rw [s3]
      rw [s4, grid_take_succ n n _ s s1, mints_app] at this
      rw [if_pos (by rw [mints_len, List.length_take]; omega), w64 (by omega) (by omega), ← succ_cast, ints_drop, drop_one q1]
      have e3 : (List.range n).map (fun c => l.getD (c + 1) 0) = (List.range n).map (minF i (el M) s) := by
        apply List.map_congr_left
        intro c _
        show _ = el M (skip i s) (c + 1)
        rw [s2]; unfold el; rw [e1]
      rw [e3]
      exact this
theorem minor_f {n : Nat} {M : List (List Nat)} (h : Square (n + 1) M) (hn : n ≤ 64) (i : Nat) (hi : i < n + 1) {k : Nat} (hk : n + 1 < k) :
    quartermasterref02_minor.f k (mints M) (i : Int) = some (mints (grid n n (minF i (el M)))) := by
  unfold quartermasterref02_minor.f
  have := minor_l0 h hn i hi (n + 1) 0 k (by omega) hk
  rw [if_pos (by omega), List.take_zero] at this
  exact this
theorem det_f : ∀ {n : Nat} {M : List (List Nat)}, Square n M → n ≤ 64 → ∀ {k : Nat}, 100 * (n + 1) ≤ k → quartermasterref02_Det.f k (mints M) = some ((detF n (el M) : Nat) : Int)
  | 0, M, h, _, k, hk => by
    obtain ⟨k, rfl⟩ : ∃ q, k = q + 1 := ⟨k - 1, by omega⟩
    rw [quartermasterref02_Det.f, mints_len, h.1, if_pos (show ((0 : Nat) : Int) = 0 from rfl)]
    rfl
  | n + 1, M, h, hn, k, hk => by
    obtain ⟨k, rfl⟩ : ∃ q, k = q + 1 := ⟨k - 1, by omega⟩
    have hl : (mints M).length = n + 1 := by rw [mints_len, h.1]
    rw [quartermasterref02_Det.f, hl, if_neg (by omega)]
    have loop : ∀ d i k, i + d = n + 1 → 100 * (n + 1) + d < k → quartermasterref02_Det.l0 k (mints M) ((sg (fun i => gm (el M i 0) (detF n (minF i (el M)))) i : Nat) : Int) (i : Int) = some ((detF (n + 1) (el M) : Nat) : Int) := by
      intro d
      induction d with
      | zero =>
        intro i k hi hk
        obtain ⟨k, rfl⟩ : ∃ q, k = q + 1 := ⟨k - 1, by omega⟩
        rw [quartermasterref02_Det.l0, hl, if_neg (by omega), show i = n + 1 by omega]
        have e : detF (n + 1) (el M) = sg (fun i => gm (el M i 0) (detF n (minF i (el M)))) (n + 1) := rfl
        rw [e]
      | succ d ih =>
        intro i k hi hk
        obtain ⟨k, rfl⟩ : ∃ q, k = q + 1 := ⟨k - 1, by omega⟩
        have this := ih (i + 1) k (by omega) (by omega)
        obtain ⟨l, _, e1, q1, _⟩ := h.row (show i < n + 1 by omega)
        rw [quartermasterref02_Det.l0, hl, if_pos (by omega), if_pos (by omega), rd_L1_nat]
        have r0 : Go.Proofs.YthblmkailhdhlaaW.PrintWords.rd ((mints M).getD i []) 0 = ((el M i 0 : Nat) : Int) := by
          have := rd_nat ((mints M).getD i []) 0
          rw [mints_at] at this
          exact this
        rw [r0, mints_getD, ints_len, e1, q1, if_pos (by omega), w64 (by omega) (by omega), ← succ_cast]
        have es : sg (fun i => gm (el M i 0) (detF n (minF i (el M)))) (i + 1) = sg (fun i => gm (el M i 0) (detF n (minF i (el M)))) i ^^^ gm (el M i 0) (detF n (minF i (el M))) := rfl
        rw [es] at this
        have hsl : sg (fun i => gm (el M i 0) (detF n (minF i (el M)))) i < 256 := sg_lt fun _ _ => gm_lt _ _
        by_cases z : el M i 0 = 0
        · rw [z, zero_gm, xor_zero] at this
          rw [if_pos (by omega)]
          exact this
        · have hg : Square n (grid n n (minF i (el M))) := grid_rect fun a b _ _ => h.rect.lt _ _
          have hmin := minor_f h (by omega) i (by omega) (k := k) (by omega)
          have hdet := det_f hg (by omega) (k := k) (by omega)
          have ed : detF n (el (grid n n (minF i (el M)))) = detF n (minF i (el M)) := detF_congr fun a b ha hb => el_grid ha hb
          rw [ed] at hdet
          have hmul := mul_f (k := k) (h.rect.lt i 0) (detF_lt n (minF i (el M))) (by omega)
          have hadd := add_f (k := k) hsl (gm_lt (el M i 0) (detF n (minF i (el M)))) (by omega)
          generalize sg (fun i => gm (el M i 0) (detF n (minF i (el M)))) i = s at *
          generalize gm (el M i 0) (detF n (minF i (el M))) = p at *
          rw [if_neg (by omega), hmin, Option.bind_some, hdet, Option.bind_some, hmul, Option.bind_some, hadd, Option.bind_some]
          exact this
    exact loop (n + 1) 0 k (by omega) (by omega)

/-! MatInverts -/
theorem rd_L1_natS (l : List (List Int)) (j : Nat) : S.rd_L1 l (j : Int) = l.getD j [] := rd_L1_nat l j
theorem inverts_l0 (l : List (List Int)) (h6 : fewP l 6) (r : Option Bool) (hr : ∀ k, 400000 ≤ k →
      ((mat_Inv.f l).bind fun bt110 => ((quartermasterref02_Same.f k l l).bind fun t114 => ((quartermasterref02_May.f k l).bind fun t115 => (if t114 = true then (if t115 = true then (if 0 < (l.length : Int) then (S.quartermasterlaw02_MatInverts.j2 k l bt110.1 bt110.2 (((S.rd_L1 l 0).length : Int) != (l.length : Int))) else (none)) else (S.quartermasterlaw02_MatInverts.j2 k l bt110.1 bt110.2 true)) else (some false))))) = r) :
    ∀ d i k, i + d = l.length → 400000 + d < k → S.quartermasterlaw02_MatInverts.l0 k l (l.take i) (i : Int) = r := by
  intro d
  induction d with
  | zero =>
    intro i k h hk
    obtain ⟨k, rfl⟩ : ∃ q, k = q + 1 := ⟨k - 1, by omega⟩
    rw [S.quartermasterlaw02_MatInverts.l0, if_neg (by omega), List.take_of_length_le (by omega)]
    exact hr k (by omega)
  | succ d ih =>
    intro i k h hk
    obtain ⟨k, rfl⟩ : ∃ q, k = q + 1 := ⟨k - 1, by omega⟩
    have h1 := h6.1
    have h2 : (l.getD i []).length ≤ 6 := by rw [getD_at (by omega)]; exact h6.2 _ (List.getElem_mem _)
    rw [S.quartermasterlaw02_MatInverts.l0, if_pos (by omega), if_pos (by omega), rd_L1_natS, if_pos (by simp only [List.length_nil]; omega), if_pos (by rw [List.length_take]; omega), w64 (by omega) (by omega), ← succ_cast, List.nil_append]
    have := ih (i + 1) k (by omega) (by omega)
    rw [List.take_add_one, List.getElem?_eq_getElem (show i < l.length by omega)] at this
    rw [getD_at (by omega)]
    exact this
theorem inverts_f (l : List (List Int)) (h : okM l) : S.quartermasterlaw02_MatInverts.f 500000 l = some true := by
  have f0 := few_f l 6 (by omega) (show 101 ≤ 500000 by omega)
  rw [show ((6 : Nat) : Int) = 6 from rfl] at f0
  unfold S.quartermasterlaw02_MatInverts.f quartermasterlaw02_awake.f
  rw [f0, Option.bind_some, Option.bind_some, if_pos rfl, show (500000 : Nat) = 499999 + 1 from rfl]
  by_cases e0 : fewP l 6
  · rw [decide_eq_true e0, S.quartermasterlaw02_MatInverts.j0, if_neg (by decide)]
    refine inverts_l0 l e0 (some true) (fun k hk => ?_) l.length 0 499999 (by omega) (by have := e0.1; omega)
    obtain ⟨k, rfl⟩ : ∃ q, k = q + 1 := ⟨k - 1, by omega⟩
    have hl := e0.1
    have hs := same_self l 6 (by omega) (by omega) e0.2 (k := k + 1) (by omega)
    have hi : mat_Inv.f l = some (invAns l) := by unfold mat_Inv.f; rw [if_pos h]
    rw [hi, hs, rmay_f l (by omega), Option.bind_some, Option.bind_some, Option.bind_some, if_pos rfl]
    by_cases m : mayP l
    · rw [decide_eq_true m, if_pos rfl, if_pos (by have := m.1; omega), show S.rd_L1 l 0 = l.getD 0 [] from rd_L1_natS l 0]
      have r0 := mayP_rect m h
      by_cases e : (l.getD 0 []).length = l.length
      · have hsq : Square l.length (mnats l) := by rw [e] at r0; exact r0
        have hb : ((((l.getD 0 []).length : Nat) : Int) != ((l.length : Nat) : Int)) = false := by rw [e]; simp
        have hmn := mints_mnats h
        have h1 := m.1
        rw [hb, S.quartermasterlaw02_MatInverts.j2, if_neg (by decide)]
        have hdet := det_f hsq (by omega) (k := k) (by omega)
        rw [hmn] at hdet
        rw [hdet, Option.bind_some]
        have hinv : ∀ S, gauss l.length 0 (mnats l, grid l.length l.length oneAt) = some S → invAns l = (mints S.2, 0) := fun S g => by
          unfold invAns; rw [if_pos ⟨m, e⟩, g]
        have hinv0 : gauss l.length 0 (mnats l, grid l.length l.length oneAt) = none → invAns l = ([], 5) := fun g => by
          unfold invAns; rw [if_pos ⟨m, e⟩, g]
        rcases gauss_all hsq (by omega) with ⟨g, z, _⟩ | ⟨T, g, nz, s, e1, e2⟩
        · rw [hinv0 g, z, if_pos (show ((0 : Nat) : Int) = 0 from rfl)]
          rfl
        · rw [hinv T g, if_neg (by omega)]
          have q1 := mul_rect r0 (by rw [e]; exact s.rect : Rect (l.getD 0 []).length l.length T.2) (by omega) (by omega) (by omega)
          have q2 := mul_rect s.rect hsq.rect (by omega) (by omega) (by omega)
          rw [hmn, e2] at q1
          rw [hmn, e1] at q2
          have ok2 : okM (mints T.2) := okM_mints s.rect.bytes
          have hd1 : ((mints T.2).getD 0 []).length ≤ 6 := by rw [mints_head, ints_len, s.rect.head (by omega)]; omega
          have hd2 : (l.getD 0 []).length ≤ 6 := by omega
          rw [show ((mints T.2, (0 : Int)).1) = mints T.2 from rfl, show ((mints T.2, (0 : Int)).2) = 0 from rfl]
          rw [rmul_f l (mints T.2) h ok2 6 (by omega) hd1 (by omega), q1, Option.bind_some, rmul_f (mints T.2) l ok2 h 6 (by omega) hd2 (by omega), q2, Option.bind_some, rone_f _ (by omega), one_f (by omega), Option.bind_some]
          rw [same_true (one_rect l.length) (by omega) (by omega) (by omega), Option.bind_some, Option.bind_some]
          rfl
      · have hb : ((((l.getD 0 []).length : Nat) : Int) != ((l.length : Nat) : Int)) = true := bne_iff_ne.2 (by omega)
        have hinv : invAns l = ([], 1) := by unfold invAns; rw [if_neg (fun z => e z.2)]
        rw [hb, S.quartermasterlaw02_MatInverts.j2, if_pos rfl, hinv]
        rfl
    · have hinv : invAns l = ([], 1) := by unfold invAns; rw [if_neg (fun z => m z.1)]
      rw [decide_eq_false m, if_neg (by decide), S.quartermasterlaw02_MatInverts.j2, if_pos rfl, hinv]
      rfl
  · rw [decide_eq_false e0, S.quartermasterlaw02_MatInverts.j0]; rfl
theorem inverts_walk (W : World) (A0 : Option Addr) (len0 c0 : Nat) (l0 : List (List Int)) (y0 : MatArg W A0 len0 c0 l0) :
    Calls Try.prog 11 #[.slice A0 len0 c0] W fun e w' => e = .returned (.bool true) ∧ Below W.heap.size W w' := by
  have := S.quartermasterlaw02_MatInverts.calls 500000 A0 c0 l0 true W y0.reads y0.room (inverts_f l0 y0.ok)
  rw [y0.long] at this
  exact this
end Go.Proofs.Ythblmkailhdhlaa.Mat
