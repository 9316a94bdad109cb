import Derived.Test.YthblmkailhdhlaaD2
import Derived.Test.YthblmkailhdhlaaD3
import Derived.Test.YthblmkailhdhlaaD4
import Derived.Test.YthblmkailhdhlaaD7
-- PRINTED by print.py (a twelfth state) out of the translation. Not trusted: Lean checks it.
namespace Go.Proofs.Ythblmkailhdhlaa.P
open Go.Proofs.Ythblmkailhdhlaa.G Go.RowKit Go.Proofs.YthblmkailhdhlaaW.PrintWords Go.Proofs.YthblmkailhdhlaaW.PrintLast Go.Proofs.YthblmkailhdhlaaW.PrintMore
attribute [local go_sem] max2_int min2_int max_two min_two max_three min_three max_four min_four   -- for this text's walks alone
set_option linter.unusedVariables false
set_option linter.unusedSimpArgs false
/-! ### quartermasterref02_One: function 38 -/
mutual
def quartermasterref02_One.j0 : Nat → Int → Bool → Option ((List (List Int)) × Int)
  | 0, _, _ => none
  | k + 1, x0, x12 => if x12 = true then (some (([] : List (List Int)), 1)) else (quartermasterref02_One.l0 k x0 ([] : List (List Int)) 0)
def quartermasterref02_One.l0 : Nat → Int → List (List Int) → Int → Option ((List (List Int)) × Int)
  | 0, _, _, _ => none
  | k + 1, x0, x4, x5 => if x5 < x0 then (if 0 ≤ x0 then (if (x0 : Int).toNat ≤ 281474976710656 then ((some (List.replicate (x0 : Int).toNat 0 : List Int)).bind fun y111 => (if 0 ≤ x5 then (if x5 < (y111.length : Int) then (if x4.length < 5864062014805 then (quartermasterref02_One.l0 k x0 (x4 ++ [(y111.set (x5 : Int).toNat 1)]) (wrap64 (x5 + 1))) else (none)) else (none)) else (none))) else (none)) else (none)) else (some (x4, 0))
end
def quartermasterref02_One.f (k : Nat) (a0 : Int) : Option ((List (List Int)) × Int) := if a0 < 1 then (quartermasterref02_One.j0 k a0 true) else (quartermasterref02_One.j0 k a0 (decide (a0 > 64)))
set_option maxHeartbeats 8000000 in
set_option maxRecDepth 100000 in
theorem quartermasterref02_One.calls (k : Nat) (a0 : Int) (r1 : List (List Int)) (r2 : Int) (w : World) (h : quartermasterref02_One.f k a0 = some (r1, r2)) :
    Calls Try.prog 38 #[.int .i64 a0] w fun e w' => ∃ v0_ : Value, e = .returned (.tuple #[v0_, .int .i64 r2]) ∧ Kd.S (Kd.slice 5 (Kd.int .u8)) 43 w' w.heap.size (fun _ => True) v0_ r1 ∧ Below w.heap.size w w' := by
  have HB := Aside0.mk (Below.refl w.heap.size w)
  have H : (if a0 < 1 then (quartermasterref02_One.j0 k a0 true) else (quartermasterref02_One.j0 k a0 (decide (a0 > 64)))) = some (r1, r2) := h
  clear h
  have HC2 := Aside0.mk H
  clear H
  go_enter Try.func38, Try.ntmps38
  go_upto_region 1 with (fail)
  go_cut [12] (fun v12 wc => ∃ (kq : Nat) (x12_1 : Bool), v12 = .bool x12_1 ∧ Aside0 (quartermasterref02_One.j0 kq a0 x12_1 = some (r1, r2)) ∧ Aside0 (kq ≤ k) ∧ Aside0 (Below w.heap.size w wc))
  case first =>
    have H := HC2.out
    clear HC2
    by_cases c3 : a0 < 1
    · rw [if_pos c3] at H
      have c3b0 : decide (a0 < 1) = true := decide_eq_true c3
      clear c3
      (first | rw [c3b0] | (simp only [i64_w, i32_w]; rw [c3b0]) | skip)
      have H' := Aside0.mk H
      clear H
      go_wp2
      go_meet
      case rel => exact ⟨_, (true), (by first | rfl | (simp; done) | (simp [*]; done)), H', ⟨by first | omega | exact Nat.le_refl _⟩, ⟨by repeat (first | (with_reducible first | exact HB.out | apply below_alloc | apply pw_below_drewN | apply below_drew1) | exact HB.out)⟩⟩
    · rw [if_neg c3] at H
      have c3b0 : decide (a0 < 1) = false := decide_eq_false c3
      clear c3
      (first | rw [c3b0] | (simp only [i64_w, i32_w]; rw [c3b0]) | skip)
      have H' := Aside0.mk H
      clear H
      go_wp2
      go_meet
      case rel => exact ⟨_, (decide (a0 > 64)), (by first | rfl | (simp; done) | (simp [*]; done)), H', ⟨by first | omega | exact Nat.le_refl _⟩, ⟨by repeat (first | (with_reducible first | exact HB.out | apply below_alloc | apply pw_below_drewN | apply below_drew1) | exact HB.out)⟩⟩
  case rest =>
    clear HC2
    try clear p2
    try clear c3
    try clear c3b0
    obtain ⟨kq, x12_1, rfl, HA, HJ1, HB⟩ := hcut
    cases kq with
    | zero => exact absurd HA.out (by simp [quartermasterref02_One.j0])
    | succ kj1 =>
      have H := HA.out
      clear HA
      simp only [quartermasterref02_One.j0] at H
      by_cases c4 : x12_1 = true
      · subst c4
        have H1 : (some (([] : List (List Int)), 1)) = some (r1, r2) := by rw [if_pos rfl] at H; exact H
        clear H
        have H := H1
        clear H1
        simp only [Option.some.injEq, Prod.mk.injEq] at H
        obtain ⟨rfl, rfl⟩ := H
        go_wp2
        go_ret2
        exact ⟨_, by first | rfl | (simp [errW_none, errW_some] <;> rfl) | (simp [*, errW_none, errW_some] <;> rfl), by first | exact Kd.S_nil _ _ _ _ _ | exact Kd.N_nil _ _ _ _ _ | exact Kd.V_nil _ _ _ _ _ | exact Kd.Q_nil _ _ _ _ _ | exact Kd.R_nil _ _ _ _ _, by repeat (first | (with_reducible first | exact HB.out | apply below_alloc | apply pw_below_drewN | apply below_drew1) | exact HB.out)⟩
      · replace c4 := Bool.eq_false_iff.mpr c4
        subst c4
        have H1 : (quartermasterref02_One.l0 kj1 a0 ([] : List (List Int)) 0) = some (r1, r2) := by rw [if_neg (show ¬ (false = true) by decide)] at H; exact H
        clear H
        have H := H1
        clear H1
        have H' := Aside0.mk H
        clear H
        go_wp2
        go_loopg [4, 5] kj1 (fun kq v4 v5 w' => ∃ (x4_2 : List (List Int)) (x5_2 : Int), v5 = .int .i64 x5_2 ∧ Aside0 (quartermasterref02_One.l0 kq a0 x4_2 x5_2 = some (r1, r2)) ∧ Aside0 (kq ≤ kj1) ∧ Aside0 (Kd.S (Kd.slice 5 (Kd.int .u8)) 43 w' w.heap.size (fun _ => True) v4 x4_2) ∧ Aside0 (Below w.heap.size w w'))
        case atStart => exact ⟨(([] : List (List Int))), (0), (by first | rfl | (simp; done) | (simp [*]; done)), H', ⟨Nat.le_refl _⟩, ⟨by first | exact Kd.S_nil _ _ _ _ _ | exact Kd.N_nil _ _ _ _ _ | exact Kd.V_nil _ _ _ _ _ | exact Kd.Q_nil _ _ _ _ _ | exact Kd.R_nil _ _ _ _ _⟩, ⟨by repeat (first | (with_reducible first | exact HB.out | apply below_alloc | apply pw_below_drewN | apply below_drew1) | exact HB.out)⟩⟩
        case round =>
          clear H'
          try clear p2
          try clear c3
          try clear c3b0
          try clear c4
          try clear p2
          obtain ⟨x4_2, x5_2, rfl, HA, HK2, HO_4, HB⟩ := hrel
          cases gk with
          | zero => exact absurd HA.out (by simp [quartermasterref02_One.l0])
          | succ k2 =>
            have H := HA.out
            clear HA
            simp only [quartermasterref02_One.l0] at H
            by_cases c5 : x5_2 < a0
            · rw [if_pos c5] at H
              have c5b0 : decide (x5_2 < a0) = true := decide_eq_true c5
              clear c5
              by_cases c6 : 0 ≤ a0
              · rw [if_pos c6] at H
                have c6b0 := eq_true c6
                have c6b1 : decide (0 ≤ a0) = true := decide_eq_true c6
                clear c6
                by_cases c7 : (a0 : Int).toNat ≤ 281474976710656
                · rw [if_pos c7] at H
                  have c7b0 := eq_true c7
                  have c7b1 : decide ((a0 : Int).toNat ≤ 281474976710656) = true := decide_eq_true c7
                  clear c7
                  obtain ⟨y111, hy111⟩ : ∃ y_ : List Int, y_ = (List.replicate (a0 : Int).toNat 0) := ⟨_, rfl⟩
                  replace H : (if 0 ≤ x5_2 then (if x5_2 < (y111.length : Int) then (if x4_2.length < 5864062014805 then (quartermasterref02_One.l0 k2 a0 (x4_2 ++ [(y111.set (x5_2 : Int).toNat 1)]) (wrap64 (x5_2 + 1))) else (none)) else (none)) else (none)) = some (r1, r2) := by first | (rw [hy111]; with_reducible exact H) | (have H2_ := (Option.bind_some _ _).symm.trans H; rw [hy111]; with_reducible exact H2_) | (have H2_ := (Option.bind_some _ _).symm.trans H; with_reducible exact H2_) | with_reducible exact H | (rw [hy111]; exact H) | exact H
                  have Ny111 := Aside0.mk hy111
                  clear hy111
                  by_cases c8 : 0 ≤ x5_2
                  · rw [if_pos c8] at H
                    have c8b0 : decide (0 ≤ x5_2) = true := decide_eq_true c8
                    clear c8
                    by_cases c9 : x5_2 < (y111.length : Int)
                    · rw [if_pos c9] at H
                      have c9b0 : decide (x5_2 < (y111.length : Int)) = true := decide_eq_true c9
                      clear c9
                      obtain ⟨y114, hy114⟩ : ∃ y_ : List Int, y_ = (y111.set (x5_2 : Int).toNat 1) := ⟨_, rfl⟩
                      replace H : (if x4_2.length < 5864062014805 then (quartermasterref02_One.l0 k2 a0 (x4_2 ++ [y114]) (wrap64 (x5_2 + 1))) else (none)) = some (r1, r2) := by first | (rw [hy114]; with_reducible exact H) | (have H2_ := (Option.bind_some _ _).symm.trans H; rw [hy114]; with_reducible exact H2_) | (have H2_ := (Option.bind_some _ _).symm.trans H; with_reducible exact H2_) | with_reducible exact H | (rw [hy114]; exact H) | exact H
                      have Ny114 := Aside0.mk hy114
                      clear hy114
                      by_cases c11 : x4_2.length < 5864062014805
                      · rw [if_pos c11] at H
                        have LMc11 := Aside0.mk c11
                        clear c11
                        obtain ⟨y115, hy115⟩ : ∃ y_ : List (List Int), y_ = (x4_2 ++ [y114]) := ⟨_, rfl⟩
                        replace H : (quartermasterref02_One.l0 k2 a0 y115 (wrap64 (x5_2 + 1))) = some (r1, r2) := by first | (rw [hy115]; with_reducible exact H) | (have H2_ := (Option.bind_some _ _).symm.trans H; rw [hy115]; with_reducible exact H2_) | (have H2_ := (Option.bind_some _ _).symm.trans H; with_reducible exact H2_) | with_reducible exact H | (rw [hy115]; exact H) | exact H
                        have Ny115 := Aside0.mk hy115
                        clear hy115
                        have H' := Aside0.mk H
                        clear H
                        go_wp2_with (first | ((with_reducible refine gate_dst (N := 19) rfl ?_); refine Kd.R_make (Kd.int .u8) _ 5 rfl (N := 19) rfl 43 _ _ rfl a0 rfl rfl Try.underlying43 (.int .u8 0) 1 info5 rfl (by decide) (by omega) 0 (ok := fun _ => True) (okp := fun _ => True) rfl (fun _ hk => hk) trivial (of_decide_eq_true (by first | (with_reducible assumption) | assumption)) (Nat.le_trans (Nat.mul_le_mul_right _ (of_decide_eq_true (by first | (with_reducible assumption) | assumption) : a0.toNat ≤ 281474976710656)) (by omega)) (Below.refl _ _) (Nat.le_refl _) ?_; intro v112 w12 ho13 hb hg_ hnew_; clear hg_ hnew_; (first | rw [← Ny111.out] at ho13 | (simp only [Int.reduceToNat] at ho13; rw [← Ny111.out] at ho13)); have n0_ := Aside0.mk (Kd.S_elder' (by (with_reducible repeat (first | apply Kd.S_alloc | apply Kd.S_drewN | apply Kd.S_drew)); exact HO_4.out) (Kd.R_base ho13) hb); have n1_ := Aside0.mk (Kd.R_lower ho13 (below_size (by repeat (first | (with_reducible first | exact HB.out | apply below_alloc | apply pw_below_drewN | apply below_drew1) | exact HB.out)))); have n2_ := Aside0.mk (below_step (by repeat (first | (with_reducible first | exact HB.out | apply below_alloc | apply pw_below_drewN | apply below_drew1) | exact HB.out)) hb); clear HO_4; clear HB; have HO_4 := n0_; have HO113 := n1_; have HB := n2_; clear n0_ n1_ n2_; clear hb ho13; have p10 : 0 ≤ (x5_2 : Int) := of_decide_eq_true (by first | (with_reducible assumption) | assumption); have q10 : (x5_2 : Int) < ((y111.length : Int) : Int) := of_decide_eq_true (by first | (with_reducible assumption) | assumption); obtain ⟨go10, co10, eo10, gb10, gl10, cl10, HG10⟩ := Kd.R_form HO113.out (by omega); (first | cases eo10 | (injection eo10 with ea_ en_ ec_; (first | subst ea_ | (injection ea_ with ea_; subst ea_)); subst ec_; clear en_)); have GB10 := Aside0.mk gb10; have GG10 := Aside0.mk HG10; clear gb10 gl10 HG10; obtain ⟨hx10_0, hf10_0⟩ := Kd.R_celln 0 HO113.out (x5_2 : Int) p10 q10; replace p10 := eq_true p10; replace q10 := eq_true q10; obtain ⟨hy14_, hz14_⟩ := Kd.R_celln 0 HO113.out (x5_2 : Int) (of_decide_eq_true (by first | (with_reducible assumption) | assumption)) (of_decide_eq_true (by first | (with_reducible assumption) | assumption)); have HP14 := Kd.R_putg HO113.out (x5_2 : Int) 1) | ((with_reducible refine gate_store (t := 5) (p := 22) rfl ?_); refine store_event (t := 5) (p := 22) (v := ?vo_w15) (w1 := (w12.setCell ⟨go10, (x5_2 : Int).toNat, none⟩ (.int .u8 1))) ?hg ?ho ?hn ?hr ?_; (case ho => rfl); (case hg => rfl); (case hn => rfl); (case hr => first | (go_simp; done) | (go_simp; rfl)); intro w15 hw; have hg : w12.grownBy w15 (some go10) := (by rw [hw]; exact HP14.2); have hp_ : Kd.R (Kd.int .u8) 5 w15 w.heap.size (fun _ => True) (.slice (some ⟨go10, 0, none⟩) y111.length co10) y114 := (by rw [hw, Ny114.out]; exact HP14.1); clear HP14; have n0_ := Aside0.mk (Kd.S_after (v := (.slice (some ⟨go10, 0, none⟩) y111.length co10)) (v1 := (.slice (some ⟨go10, 0, none⟩) y111.length co10)) (ok := (fun _ => True)) (by (with_reducible repeat (first | apply Kd.S_alloc | apply Kd.S_drewN | apply Kd.S_drew)); exact HO_4.out) hg (.inl rfl)); have n1_ := Aside0.mk (hp_); have n2_ := Aside0.mk ((by rw [hw]; exact below_set (HB.out) GB10.out : Below w.heap.size w w15)); clear HO_4; clear HO113; clear HB; have HO_4 := n0_; have HO113 := n1_; have HB := n2_; clear n0_ n1_ n2_; clear hg hw hp_) | ((with_reducible refine gate_builtin (b := .append) (xs := #[.tmp 23, .tmp 25]) rfl ?_); at_builtin; refine Kd.S_append (Kd.slice 5 (Kd.int .u8)) (w0 := w) w.heap.size rfl (.tmp 23) (.tmp 25) 42 43 (.slice none 0 0) 24 rfl Try.underlying42 info43 rfl (by decide) (by omega) u4 x4_2 y114 [.slice (some ⟨go10, 0, none⟩) y111.length co10] (fun _ => True) (fun k_ => some k_ = (.slice (some ⟨go10, 0, none⟩) y111.length co10 : Value).ownBlock) rfl rfl ?aP (fun k_ hk_ => ((Kd.R_mono (ok' := fun k_ => ((fun _ => True)) k_ ∧ some k_ ≠ (u4 : Value).ownBlock) (Kd.R_apart' (HO113.out) (Kd.S_typed HO_4.out) (by decide)) (fun k_ hk => ⟨trivial, hk.2⟩))).1 k_ hk_.symm) ?aF ?aO ?aB ?aS ?aL ?_; (case aP => exact Kd.M_row (Kd.R_mono (Kd.R_tight rfl (Kd.R_mono (ok' := fun k_ => ((fun _ => True)) k_ ∧ some k_ ≠ (u4 : Value).ownBlock) (Kd.R_apart' (HO113.out) (Kd.S_typed HO_4.out) (by decide)) (fun k_ hk => ⟨trivial, hk.2⟩))) (fun _ h_ => h_))); (case aB => exact (by repeat (first | (with_reducible first | exact HB.out | apply below_alloc | apply pw_below_drewN | apply below_drew1) | exact HB.out))); (case aF => exact (fun _ _ => trivial)); (case aO => exact (by (with_reducible repeat (first | apply Kd.S_alloc | apply Kd.S_drewN | apply Kd.S_drew)); exact Kd.S_mono HO_4.out (fun k_ hk => ⟨trivial, fun e_ => hk.2 e_⟩))); (case aS => exact (below_size (by repeat (first | (with_reducible first | exact HB.out | apply below_alloc | apply pw_below_drewN | apply below_drew1) | exact HB.out)))); (case aL => have := LMc11.out; omega); intro v116 w16 ho hb hg hat; rw [← Ny115.out] at ho; have n0_ := Aside0.mk (hb); have n1_ := Aside0.mk (ho); clear HB; clear HO_4; clear HO113; have HB := n0_; have HO117 := n1_; clear n0_ n1_; clear ho hb hg hat))
                        go_roundg k2
                        case measure => have := HJ1.out; have := HK2.out; omega
                        case rel => exact ⟨(y115), (wrap64 (x5_2 + 1)), (by first | rfl | (simp; done) | (simp [*]; done)), H', ⟨by have := HJ1.out; have := HK2.out; omega⟩, ⟨by (with_reducible repeat (first | apply Kd.S_alloc | apply Kd.S_drewN | apply Kd.S_drew)); exact HO117.out⟩, ⟨by repeat (first | (with_reducible first | exact HB.out | apply below_alloc | apply pw_below_drewN | apply below_drew1) | exact HB.out)⟩⟩
                      · rw [if_neg c11] at H
                        exact absurd H (by simp)
                    · rw [if_neg c9] at H
                      exact absurd H (by simp)
                  · rw [if_neg c8] at H
                    exact absurd H (by simp)
                · rw [if_neg c7] at H
                  exact absurd H (by simp)
              · rw [if_neg c6] at H
                exact absurd H (by simp)
            · rw [if_neg c5] at H
              have c5b0 : decide (x5_2 < a0) = false := decide_eq_false c5
              clear c5
              simp only [Option.some.injEq, Prod.mk.injEq] at H
              obtain ⟨rfl, rfl⟩ := H
              go_wp2
              go_ret2
              exact ⟨_, by first | rfl | (simp [errW_none, errW_some] <;> rfl) | (simp [*, errW_none, errW_some] <;> rfl), by (with_reducible repeat (first | apply Kd.S_alloc | apply Kd.S_drewN | apply Kd.S_drew)); exact HO_4.out, by repeat (first | (with_reducible first | exact HB.out | apply below_alloc | apply pw_below_drewN | apply below_drew1) | exact HB.out)⟩
-- GIVEN: function 60 (quartermasterref01_bit)
-- GIVEN: function 62 (quartermasterref01_power)
-- GIVEN: function 61 (quartermasterref01_sum)
-- GIVEN: function 33 (quartermasterref01_Mul)
-- GIVEN: function 26 (quartermasterref01_Div)
-- GIVEN: function 35 (quartermasterref01_Add)
end Go.Proofs.Ythblmkailhdhlaa.P
-- PRINTED by print.py (a twelfth state) out of the translation. Not trusted: Lean checks it.
namespace Go.Proofs.Ythblmkailhdhlaa.P
open Go.Proofs.Ythblmkailhdhlaa.G Go.RowKit Go.Proofs.YthblmkailhdhlaaW.PrintWords Go.Proofs.YthblmkailhdhlaaW.PrintLast Go.Proofs.YthblmkailhdhlaaW.PrintMore
attribute [local go_sem] max2_int min2_int max_two min_two max_three min_three max_four min_four   -- for this text's walks alone
set_option linter.unusedVariables false
set_option linter.unusedSimpArgs false
/-! ### quartermasterref02_Cauchy: function 40 -/
mutual
def quartermasterref02_Cauchy.j0 : Nat → Int → Int → Bool → Option ((List (List Int)) × Int)
  | 0, _, _, _ => none
  | k + 1, x0, x1, x26 => if x26 = true then (some (([] : List (List Int)), 1)) else (quartermasterref02_Cauchy.l0 k x0 x1 ([] : List (List Int)) 0)
def quartermasterref02_Cauchy.l0 : Nat → Int → Int → List (List Int) → Int → Option ((List (List Int)) × Int)
  | 0, _, _, _, _ => none
  | k + 1, x0, x1, x6, x7 => if x7 < x0 then (quartermasterref02_Cauchy.l1 k x0 x1 x6 x7 ([] : List Int) 0) else (some (x6, 0))
def quartermasterref02_Cauchy.l1 : Nat → Int → Int → List (List Int) → Int → List Int → Int → Option ((List (List Int)) × Int)
  | 0, _, _, _, _, _, _ => none
  | k + 1, x0, x1, x6, x7, x8, x9 => if x9 < x1 then ((quartermasterref01_Add.f k ((wrap64 (x1 + x7)) % 256) ((x9) % 256)).bind fun t118 => ((quartermasterref01_Div.f k 1 t118).bind fun bt119 => (if x8.length < 140737488355328 then (quartermasterref02_Cauchy.l1 k x0 x1 x6 x7 (x8 ++ [bt119.1]) (wrap64 (x9 + 1))) else (none)))) else (if x6.length < 5864062014805 then (quartermasterref02_Cauchy.l0 k x0 x1 (x6 ++ [x8]) (wrap64 (x7 + 1))) else (none))
end
def quartermasterref02_Cauchy.f (k : Nat) (a0 : Int) (a1 : Int) : Option ((List (List Int)) × Int) := if a0 < 1 then (quartermasterref02_Cauchy.j0 k a0 a1 true) else (if a1 < 1 then (quartermasterref02_Cauchy.j0 k a0 a1 true) else (if a0 > 64 then (quartermasterref02_Cauchy.j0 k a0 a1 true) else (quartermasterref02_Cauchy.j0 k a0 a1 (decide (a1 > 64)))))
set_option maxHeartbeats 8000000 in
set_option maxRecDepth 100000 in
theorem quartermasterref02_Cauchy.calls (k : Nat) (a0 : Int) (a1 : Int) (r1 : List (List Int)) (r2 : Int) (w : World) (h : quartermasterref02_Cauchy.f k a0 a1 = some (r1, r2)) :
    Calls Try.prog 40 #[.int .i64 a0, .int .i64 a1] w fun e w' => ∃ v0_ : Value, e = .returned (.tuple #[v0_, .int .i64 r2]) ∧ Kd.S (Kd.slice 5 (Kd.int .u8)) 43 w' w.heap.size (fun _ => True) v0_ r1 ∧ Below w.heap.size w w' := by
  have HB := Aside0.mk (Below.refl w.heap.size w)
  have H : (if a0 < 1 then (quartermasterref02_Cauchy.j0 k a0 a1 true) else (if a1 < 1 then (quartermasterref02_Cauchy.j0 k a0 a1 true) else (if a0 > 64 then (quartermasterref02_Cauchy.j0 k a0 a1 true) else (quartermasterref02_Cauchy.j0 k a0 a1 (decide (a1 > 64)))))) = some (r1, r2) := h
  clear h
  have HC3 := Aside0.mk H
  clear H
  go_enter Try.func40, Try.ntmps40
  go_upto_region 1 with (fail)
  go_cut [26] (fun v26 wc => ∃ (kq : Nat) (x26_2 : Bool), v26 = .bool x26_2 ∧ Aside0 (quartermasterref02_Cauchy.j0 kq a0 a1 x26_2 = some (r1, r2)) ∧ Aside0 (kq ≤ k) ∧ Aside0 (Below w.heap.size w wc))
  case first =>
    have H := HC3.out
    clear HC3
    by_cases c4 : a0 < 1
    · rw [if_pos c4] at H
      have c4b0 : decide (a0 < 1) = true := decide_eq_true c4
      clear c4
      (first | rw [c4b0] | (simp only [i64_w, i32_w]; rw [c4b0]) | skip)
      have H' := Aside0.mk H
      clear H
      go_wp2
      go_meet
      case rel => exact ⟨_, (true), (by first | rfl | (simp; done) | (simp [*]; done)), H', ⟨by first | omega | exact Nat.le_refl _⟩, ⟨by repeat (first | (with_reducible first | exact HB.out | apply below_alloc | apply pw_below_drewN | apply below_drew1) | exact HB.out)⟩⟩
    · rw [if_neg c4] at H
      have c4b0 : decide (a0 < 1) = false := decide_eq_false c4
      clear c4
      (first | rw [c4b0] | (simp only [i64_w, i32_w]; rw [c4b0]) | skip)
      by_cases c5 : a1 < 1
      · rw [if_pos c5] at H
        have c5b0 : decide (a1 < 1) = true := decide_eq_true c5
        clear c5
        have H' := Aside0.mk H
        clear H
        go_wp2
        go_meet
        case rel => exact ⟨_, (true), (by first | rfl | (simp; done) | (simp [*]; done)), H', ⟨by first | omega | exact Nat.le_refl _⟩, ⟨by repeat (first | (with_reducible first | exact HB.out | apply below_alloc | apply pw_below_drewN | apply below_drew1) | exact HB.out)⟩⟩
      · rw [if_neg c5] at H
        have c5b0 : decide (a1 < 1) = false := decide_eq_false c5
        clear c5
        by_cases c6 : a0 > 64
        · rw [if_pos c6] at H
          have c6b0 : decide (64 < a0) = true := decide_eq_true c6
          clear c6
          have H' := Aside0.mk H
          clear H
          go_wp2
          go_meet
          case rel => exact ⟨_, (true), (by first | rfl | (simp; done) | (simp [*]; done)), H', ⟨by first | omega | exact Nat.le_refl _⟩, ⟨by repeat (first | (with_reducible first | exact HB.out | apply below_alloc | apply pw_below_drewN | apply below_drew1) | exact HB.out)⟩⟩
        · rw [if_neg c6] at H
          have c6b0 : decide (64 < a0) = false := decide_eq_false c6
          clear c6
          have H' := Aside0.mk H
          clear H
          go_wp2
          go_meet
          case rel => exact ⟨_, (decide (a1 > 64)), (by first | rfl | (simp; done) | (simp [*]; done)), H', ⟨by first | omega | exact Nat.le_refl _⟩, ⟨by repeat (first | (with_reducible first | exact HB.out | apply below_alloc | apply pw_below_drewN | apply below_drew1) | exact HB.out)⟩⟩
  case rest =>
    clear HC3
    try clear p2
    try clear c4
    try clear c4b0
    try clear c5
    try clear c5b0
    try clear c6
    try clear c6b0
    obtain ⟨kq, x26_2, rfl, HA, HJ2, HB⟩ := hcut
    cases kq with
    | zero => exact absurd HA.out (by simp [quartermasterref02_Cauchy.j0])
    | succ kj2 =>
      have H := HA.out
      clear HA
      simp only [quartermasterref02_Cauchy.j0] at H
      by_cases c7 : x26_2 = true
      · subst c7
        have H1 : (some (([] : List (List Int)), 1)) = some (r1, r2) := by rw [if_pos rfl] at H; exact H
        clear H
        have H := H1
        clear H1
        simp only [Option.some.injEq, Prod.mk.injEq] at H
        obtain ⟨rfl, rfl⟩ := H
        go_wp2
        go_ret2
        exact ⟨_, by first | rfl | (simp [errW_none, errW_some] <;> rfl) | (simp [*, errW_none, errW_some] <;> rfl), by first | exact Kd.S_nil _ _ _ _ _ | exact Kd.N_nil _ _ _ _ _ | exact Kd.V_nil _ _ _ _ _ | exact Kd.Q_nil _ _ _ _ _ | exact Kd.R_nil _ _ _ _ _, by repeat (first | (with_reducible first | exact HB.out | apply below_alloc | apply pw_below_drewN | apply below_drew1) | exact HB.out)⟩
      · replace c7 := Bool.eq_false_iff.mpr c7
        subst c7
        have H1 : (quartermasterref02_Cauchy.l0 kj2 a0 a1 ([] : List (List Int)) 0) = some (r1, r2) := by rw [if_neg (show ¬ (false = true) by decide)] at H; exact H
        clear H
        have H := H1
        clear H1
        have H' := Aside0.mk H
        clear H
        go_wp2
        go_loopg [6, 7] kj2 (fun kq v6 v7 w' => ∃ (x6_2 : List (List Int)) (x7_2 : Int), v7 = .int .i64 x7_2 ∧ Aside0 (quartermasterref02_Cauchy.l0 kq a0 a1 x6_2 x7_2 = some (r1, r2)) ∧ Aside0 (kq ≤ kj2) ∧ Aside0 (Kd.S (Kd.slice 5 (Kd.int .u8)) 43 w' w.heap.size (fun _ => True) v6 x6_2) ∧ Aside0 (Below w.heap.size w w'))
        case atStart => exact ⟨(([] : List (List Int))), (0), (by first | rfl | (simp; done) | (simp [*]; done)), H', ⟨Nat.le_refl _⟩, ⟨by first | exact Kd.S_nil _ _ _ _ _ | exact Kd.N_nil _ _ _ _ _ | exact Kd.V_nil _ _ _ _ _ | exact Kd.Q_nil _ _ _ _ _ | exact Kd.R_nil _ _ _ _ _⟩, ⟨by repeat (first | (with_reducible first | exact HB.out | apply below_alloc | apply pw_below_drewN | apply below_drew1) | exact HB.out)⟩⟩
        case round =>
          clear H'
          try clear p2
          try clear c4
          try clear c4b0
          try clear c5
          try clear c5b0
          try clear c6
          try clear c6b0
          try clear c7
          try clear p2
          obtain ⟨x6_2, x7_2, rfl, HA, HK2, HO_6, HB⟩ := hrel
          cases gk with
          | zero => exact absurd HA.out (by simp [quartermasterref02_Cauchy.l0])
          | succ k2 =>
            have H := HA.out
            clear HA
            simp only [quartermasterref02_Cauchy.l0] at H
            by_cases c8 : x7_2 < a0
            · rw [if_pos c8] at H
              have c8b0 : decide (x7_2 < a0) = true := decide_eq_true c8
              clear c8
              have H' := Aside0.mk H
              clear H
              go_wp2
              go_loopg [8, 9] k2 (fun kq v8 v9 w' => ∃ (x8_3 : List Int) (x9_3 : Int), v9 = .int .i64 x9_3 ∧ Aside0 (quartermasterref02_Cauchy.l1 kq a0 a1 x6_2 x7_2 x8_3 x9_3 = some (r1, r2)) ∧ Aside0 (kq ≤ k2) ∧ Aside0 (Kd.S (Kd.slice 5 (Kd.int .u8)) 43 w' w.heap.size (fun k_ => some k_ ≠ (v8 : Value).ownBlock) u6 x6_2) ∧ Aside0 (Kd.R (Kd.int .u8) 5 w' w.heap.size (fun _ => True) v8 x8_3) ∧ Aside0 (Below w.heap.size w w'))
              case atStart => exact ⟨(([] : List Int)), (0), (by first | rfl | (simp; done) | (simp [*]; done)), H', ⟨Nat.le_refl _⟩, ⟨by (with_reducible repeat (first | apply Kd.S_alloc | apply Kd.S_drewN | apply Kd.S_drew)); exact Kd.S_mono HO_6.out (fun _ hk => (by simp [Value.ownBlock]))⟩, ⟨by first | exact Kd.R_nil _ _ _ _ _ | exact Kd.N_nil _ _ _ _ _ | exact Kd.V_nil _ _ _ _ _ | exact Kd.Q_nil _ _ _ _ _ | exact Kd.S_nil _ _ _ _ _⟩, ⟨by repeat (first | (with_reducible first | exact HB.out | apply below_alloc | apply pw_below_drewN | apply below_drew1) | exact HB.out)⟩⟩
              case round =>
                clear H'
                try clear p2
                try clear c4
                try clear c4b0
                try clear c5
                try clear c5b0
                try clear c6
                try clear c6b0
                try clear c7
                try clear c8
                try clear c8b0
                try clear p2
                obtain ⟨x8_3, x9_3, rfl, HA, HK3, HO_6, HO_8, HB⟩ := hrel
                cases gk with
                | zero => exact absurd HA.out (by simp [quartermasterref02_Cauchy.l1])
                | succ k3 =>
                  have H := HA.out
                  clear HA
                  simp only [quartermasterref02_Cauchy.l1] at H
                  by_cases c9 : x9_3 < a1
                  · rw [if_pos c9] at H
                    have c9b0 : decide (x9_3 < a1) = true := decide_eq_true c9
                    clear c9
                    replace H := Option.bind_eq_some_iff.mp H
                    obtain ⟨t118, A100, H⟩ := H
                    replace H : ((quartermasterref01_Div.f k3 1 t118).bind fun bt119 => (if x8_3.length < 140737488355328 then (quartermasterref02_Cauchy.l1 k3 a0 a1 x6_2 x7_2 (x8_3 ++ [bt119.1]) (wrap64 (x9_3 + 1))) else (none))) = some (r1, r2) := H
                    have A10 := Aside0.mk A100
                    clear A100
                    replace H := Option.bind_eq_some_iff.mp H
                    obtain ⟨⟨t119, t120⟩, A110, H⟩ := H
                    replace H : (if x8_3.length < 140737488355328 then (quartermasterref02_Cauchy.l1 k3 a0 a1 x6_2 x7_2 (x8_3 ++ [t119]) (wrap64 (x9_3 + 1))) else (none)) = some (r1, r2) := H
                    have A11 := Aside0.mk A110
                    clear A110
                    by_cases c12 : x8_3.length < 140737488355328
                    · rw [if_pos c12] at H
                      have LMc12 := Aside0.mk c12
                      clear c12
                      obtain ⟨y121, hy121⟩ : ∃ y_ : List Int, y_ = (x8_3 ++ [t119]) := ⟨_, rfl⟩
                      replace H : (quartermasterref02_Cauchy.l1 k3 a0 a1 x6_2 x7_2 y121 (wrap64 (x9_3 + 1))) = some (r1, r2) := by first | (rw [hy121]; with_reducible exact H) | (have H2_ := (Option.bind_some _ _).symm.trans H; rw [hy121]; with_reducible exact H2_) | (have H2_ := (Option.bind_some _ _).symm.trans H; with_reducible exact H2_) | with_reducible exact H | (rw [hy121]; exact H) | exact H
                      have Ny121 := Aside0.mk hy121
                      clear hy121
                      have H' := Aside0.mk H
                      clear H
                      go_wp2_with (first | ((with_reducible refine gate_callee (f := 35) rfl ?_); refine goesL_ (some 43) rfl rfl Try.func35 (by kernel_rfl) rfl #[.int .u8 ((wrap64 (a1 + x7_2)) % 256), .int .u8 ((x9_3) % 256)] rfl (by (try simp only [List.map_toArray, List.map_cons, List.map_nil]); first | done | rfl | (simp only [List.length_drop, List.length_take]; rfl)) ?_; (with_reducible refine (quartermasterref01_Add.calls k3 ((wrap64 (a1 + x7_2)) % 256) ((x9_3) % 256) t118 _ A10.out).mono ?_); rintro e w' ⟨rfl, ⟨nd, rfl⟩⟩; refine ⟨_, rfl, ?_⟩) | ((with_reducible refine gate_callee (f := 26) rfl ?_); refine goesL_ (some 46) rfl rfl Try.func26 (by kernel_rfl) rfl #[.int .u8 1, .int .u8 t118] rfl (by (try simp only [List.map_toArray, List.map_cons, List.map_nil]); first | done | rfl | (simp only [List.length_drop, List.length_take]; rfl)) ?_; (with_reducible refine (quartermasterref01_Div.calls k3 1 t118 t119 t120 _ A11.out).mono ?_); rintro e w' ⟨rfl, ⟨nd, rfl⟩⟩; refine ⟨_, rfl, ?_⟩) | ((with_reducible refine gate_builtin (b := .append) (xs := #[.tmp 49, .tmp 51]) rfl ?_); at_builtin; refine Kd.R_append (Kd.int .u8) (w0 := w) w.heap.size rfl (.tmp 49) (.tmp 51) 43 5 (.int .u8 0) 1 rfl Try.underlying43 info5 rfl (by decide) (by omega) u8 x8_3 t119 [.int .u8 t119] (fun _ => True) (fun _ => False) rfl rfl ?aP (fun _ hk => hk.elim) ?aF ?aO ?aB ?aS ?aL ?_; (case aP => exact rfl); (case aB => exact (by repeat (first | (with_reducible first | exact HB.out | apply below_alloc | apply pw_below_drewN | apply below_drew1) | exact HB.out))); (case aF => exact (fun _ _ => trivial)); (case aO => exact (by (with_reducible repeat (first | apply Kd.R_alloc | apply Kd.R_drewN | apply Kd.R_drew)); exact HO_8.out)); (case aS => exact (below_size (by repeat (first | (with_reducible first | exact HB.out | apply below_alloc | apply pw_below_drewN | apply below_drew1) | exact HB.out)))); (case aL => have := LMc12.out; omega); intro v122 w13 ho hb hg hat; rw [← Ny121.out] at ho; have n0_ := Aside0.mk (Kd.S_after (ok := (fun _ => True)) (by (with_reducible repeat (first | apply Kd.S_alloc | apply Kd.S_drewN | apply Kd.S_drew)); exact Kd.S_mono HO_6.out (fun _ hk => ⟨trivial, hk⟩)) hg hat); have n1_ := Aside0.mk (hb); have n2_ := Aside0.mk (ho); clear HO_6; clear HB; clear HO_8; have HO_6 := n0_; have HB := n1_; have HO123 := n2_; clear n0_ n1_ n2_; clear ho hb hg hat))
                      go_roundg k3
                      case measure => have := HJ2.out; have := HK2.out; have := HK3.out; omega
                      case rel => exact ⟨(y121), (wrap64 (x9_3 + 1)), (by first | rfl | (simp; done) | (simp [*]; done)), H', ⟨by have := HJ2.out; have := HK2.out; have := HK3.out; omega⟩, ⟨by (with_reducible repeat (first | apply Kd.S_alloc | apply Kd.S_drewN | apply Kd.S_drew)); exact Kd.S_mono HO_6.out (fun _ hk => hk.2)⟩, ⟨by (with_reducible repeat (first | apply Kd.R_alloc | apply Kd.R_drewN | apply Kd.R_drew)); exact HO123.out⟩, ⟨by repeat (first | (with_reducible first | exact HB.out | apply below_alloc | apply pw_below_drewN | apply below_drew1) | exact HB.out)⟩⟩
                    · rw [if_neg c12] at H
                      exact absurd H (by simp)
                  · rw [if_neg c9] at H
                    have c9b0 : decide (x9_3 < a1) = false := decide_eq_false c9
                    clear c9
                    by_cases c14 : x6_2.length < 5864062014805
                    · rw [if_pos c14] at H
                      have LMc14 := Aside0.mk c14
                      clear c14
                      obtain ⟨y124, hy124⟩ : ∃ y_ : List (List Int), y_ = (x6_2 ++ [x8_3]) := ⟨_, rfl⟩
                      replace H : (quartermasterref02_Cauchy.l0 k3 a0 a1 y124 (wrap64 (x7_2 + 1))) = some (r1, r2) := by first | (rw [hy124]; with_reducible exact H) | (have H2_ := (Option.bind_some _ _).symm.trans H; rw [hy124]; with_reducible exact H2_) | (have H2_ := (Option.bind_some _ _).symm.trans H; with_reducible exact H2_) | with_reducible exact H | (rw [hy124]; exact H) | exact H
                      have Ny124 := Aside0.mk hy124
                      clear hy124
                      have H' := Aside0.mk H
                      clear H
                      obtain ⟨Ao16, co16, eo16⟩ := Kd.R_slice HO_8.out
                      subst eo16
                      go_wp2_with (first | ((with_reducible refine gate_builtin (b := .append) (xs := #[.tmp 53, .tmp 55]) rfl ?_); at_builtin; refine Kd.S_append (Kd.slice 5 (Kd.int .u8)) (w0 := w) w.heap.size rfl (.tmp 53) (.tmp 55) 42 43 (.slice none 0 0) 24 rfl Try.underlying42 info43 rfl (by decide) (by omega) u6 x6_2 x8_3 [.slice Ao16 x8_3.length co16] (fun _ => True) (fun k_ => some k_ = (.slice Ao16 x8_3.length co16 : Value).ownBlock) rfl rfl ?aP (fun k_ hk_ => ((Kd.R_mono (ok' := fun k_ => ((fun _ => True)) k_ ∧ some k_ ≠ (u6 : Value).ownBlock) (Kd.R_apart' (HO_8.out) (Kd.S_typed HO_6.out) (by decide)) (fun k_ hk => ⟨trivial, hk.2⟩))).1 k_ hk_.symm) ?aF ?aO ?aB ?aS ?aL ?_; (case aP => exact Kd.M_row (Kd.R_mono (Kd.R_tight rfl (Kd.R_mono (ok' := fun k_ => ((fun _ => True)) k_ ∧ some k_ ≠ (u6 : Value).ownBlock) (Kd.R_apart' (HO_8.out) (Kd.S_typed HO_6.out) (by decide)) (fun k_ hk => ⟨trivial, hk.2⟩))) (fun _ h_ => h_))); (case aB => exact (by repeat (first | (with_reducible first | exact HB.out | apply below_alloc | apply pw_below_drewN | apply below_drew1) | exact HB.out))); (case aF => exact (fun _ _ => trivial)); (case aO => exact (by (with_reducible repeat (first | apply Kd.S_alloc | apply Kd.S_drewN | apply Kd.S_drew)); exact Kd.S_mono HO_6.out (fun k_ hk => ⟨trivial, fun e_ => hk e_⟩))); (case aS => exact (below_size (by repeat (first | (with_reducible first | exact HB.out | apply below_alloc | apply pw_below_drewN | apply below_drew1) | exact HB.out)))); (case aL => have := LMc14.out; omega); intro v125 w15 ho hb hg hat; rw [← Ny124.out] at ho; have n0_ := Aside0.mk (hb); have n1_ := Aside0.mk (ho); clear HB; clear HO_6; clear HO_8; have HB := n0_; have HO126 := n1_; clear n0_ n1_; clear ho hb hg hat))
                      go_roundg k3
                      case measure => have := HJ2.out; have := HK2.out; have := HK3.out; omega
                      case rel => exact ⟨(y124), (wrap64 (x7_2 + 1)), (by first | rfl | (simp; done) | (simp [*]; done)), H', ⟨by have := HJ2.out; have := HK2.out; have := HK3.out; omega⟩, ⟨by (with_reducible repeat (first | apply Kd.S_alloc | apply Kd.S_drewN | apply Kd.S_drew)); exact HO126.out⟩, ⟨by repeat (first | (with_reducible first | exact HB.out | apply below_alloc | apply pw_below_drewN | apply below_drew1) | exact HB.out)⟩⟩
                    · rw [if_neg c14] at H
                      exact absurd H (by simp)
            · rw [if_neg c8] at H
              have c8b0 : decide (x7_2 < a0) = false := decide_eq_false c8
              clear c8
              simp only [Option.some.injEq, Prod.mk.injEq] at H
              obtain ⟨rfl, rfl⟩ := H
              go_wp2
              go_ret2
              exact ⟨_, by first | rfl | (simp [errW_none, errW_some] <;> rfl) | (simp [*, errW_none, errW_some] <;> rfl), by (with_reducible repeat (first | apply Kd.S_alloc | apply Kd.S_drewN | apply Kd.S_drew)); exact HO_6.out, by repeat (first | (with_reducible first | exact HB.out | apply below_alloc | apply pw_below_drewN | apply below_drew1) | exact HB.out)⟩
end Go.Proofs.Ythblmkailhdhlaa.P
-- PRINTED by print.py (a twelfth state) out of the translation. Not trusted: Lean checks it.
namespace Go.Proofs.Ythblmkailhdhlaa.P
open Go.Proofs.Ythblmkailhdhlaa.G Go.RowKit Go.Proofs.YthblmkailhdhlaaW.PrintWords Go.Proofs.YthblmkailhdhlaaW.PrintLast Go.Proofs.YthblmkailhdhlaaW.PrintMore
attribute [local go_sem] max2_int min2_int max_two min_two max_three min_three max_four min_four   -- for this text's walks alone
set_option linter.unusedVariables false
set_option linter.unusedSimpArgs false
/-! ### quartermasterref02_Mul: function 47 -/
mutual
def quartermasterref02_Mul.j0 : Nat → List (List Int) → List (List Int) → Bool → Option ((List (List Int)) × Int)
  | 0, _, _, _ => none
  | k + 1, x0, x1, x33 => if x33 = true then (some (([] : List (List Int)), 1)) else (quartermasterref02_Mul.l0 k x0 x1 ([] : List (List Int)) 0)
def quartermasterref02_Mul.l0 : Nat → List (List Int) → List (List Int) → List (List Int) → Int → Option ((List (List Int)) × Int)
  | 0, _, _, _, _ => none
  | k + 1, x0, x1, x8, x9 => if x9 < (x0.length : Int) then (quartermasterref02_Mul.l1 k x0 x1 x8 x9 ([] : List Int) 0) else (some (x8, 0))
def quartermasterref02_Mul.l1 : Nat → List (List Int) → List (List Int) → List (List Int) → Int → List Int → Int → Option ((List (List Int)) × Int)
  | 0, _, _, _, _, _, _ => none
  | k + 1, x0, x1, x8, x9, x10, x11 => if 0 < (x1.length : Int) then (if x11 < ((rd_L1 x1 0).length : Int) then (quartermasterref02_Mul.l2 k x0 x1 x8 x9 x10 x11 0 0) else (if x8.length < 5864062014805 then (quartermasterref02_Mul.l0 k x0 x1 (x8 ++ [x10]) (wrap64 (x9 + 1))) else (none))) else (none)
def quartermasterref02_Mul.l2 : Nat → List (List Int) → List (List Int) → List (List Int) → Int → List Int → Int → Int → Int → Option ((List (List Int)) × Int)
  | 0, _, _, _, _, _, _, _, _ => none
  | k + 1, x0, x1, x8, x9, x10, x11, x12, x13 => if x13 < (x1.length : Int) then (if 0 ≤ x9 then (if x9 < (x0.length : Int) then (if 0 ≤ x13 then (if x13 < ((rd_L1 x0 x9).length : Int) then (if 0 ≤ x11 then (if x11 < ((rd_L1 x1 x13).length : Int) then ((quartermasterref01_Mul.f k (rd (rd_L1 x0 x9) x13) (rd (rd_L1 x1 x13) x11)).bind fun t169 => ((quartermasterref01_Add.f k x12 t169).bind fun t170 => (quartermasterref02_Mul.l2 k x0 x1 x8 x9 x10 x11 t170 (wrap64 (x13 + 1))))) else (none)) else (none)) else (none)) else (none)) else (none)) else (none)) else (if x10.length < 140737488355328 then (quartermasterref02_Mul.l1 k x0 x1 x8 x9 (x10 ++ [x12]) (wrap64 (x11 + 1))) else (none))
end
def quartermasterref02_Mul.f (k : Nat) (l0 : List (List Int)) (l1 : List (List Int)) : Option ((List (List Int)) × Int) := (quartermasterref02_May.f k l0).bind fun t158 => ((quartermasterref02_May.f k l1).bind fun t159 => (if t158 = true then (if t159 = true then (if 0 < (l0.length : Int) then (quartermasterref02_Mul.j0 k l0 l1 (((rd_L1 l0 0).length : Int) != (l1.length : Int))) else (none)) else (quartermasterref02_Mul.j0 k l0 l1 true)) else (quartermasterref02_Mul.j0 k l0 l1 true)))
set_option maxHeartbeats 8000000 in
set_option maxRecDepth 100000 in
theorem quartermasterref02_Mul.calls (k : Nat) (A0 : Option Addr) (c0 : Nat) (l0 : List (List Int)) (A1 : Option Addr) (c1 : Nat) (l1 : List (List Int)) (r1 : List (List Int)) (r2 : Int) (w : World) (hr0 : Kd.C (Kd.slice 5 (Kd.int .u8)) w A0 l0.length l0) (hc0 : l0.length ≤ c0) (hr1 : Kd.C (Kd.slice 5 (Kd.int .u8)) w A1 l1.length l1) (hc1 : l1.length ≤ c1) (h : quartermasterref02_Mul.f k l0 l1 = some (r1, r2)) :
    Calls Try.prog 47 #[.slice A0 l0.length c0, .slice A1 l1.length c1] w fun e w' => ∃ v0_ : Value, e = .returned (.tuple #[v0_, .int .i64 r2]) ∧ Kd.S (Kd.slice 5 (Kd.int .u8)) 43 w' w.heap.size (fun _ => True) v0_ r1 ∧ Below w.heap.size w w' := by
  have HR0 := Aside0.mk hr0
  have HC0 := Aside0.mk hc0
  clear hr0 hc0
  have HR1 := Aside0.mk hr1
  have HC1 := Aside0.mk hc1
  clear hr1 hc1
  have HB := Aside0.mk (Below.refl w.heap.size w)
  have H : ((quartermasterref02_May.f k l0).bind fun t158 => ((quartermasterref02_May.f k l1).bind fun t159 => (if t158 = true then (if t159 = true then (if 0 < (l0.length : Int) then (quartermasterref02_Mul.j0 k l0 l1 (((rd_L1 l0 0).length : Int) != (l1.length : Int))) else (none)) else (quartermasterref02_Mul.j0 k l0 l1 true)) else (quartermasterref02_Mul.j0 k l0 l1 true)))) = some (r1, r2) := h
  clear h
  replace H := Option.bind_eq_some_iff.mp H
  obtain ⟨t158, A30, H⟩ := H
  replace H : ((quartermasterref02_May.f k l1).bind fun t159 => (if t158 = true then (if t159 = true then (if 0 < (l0.length : Int) then (quartermasterref02_Mul.j0 k l0 l1 (((rd_L1 l0 0).length : Int) != (l1.length : Int))) else (none)) else (quartermasterref02_Mul.j0 k l0 l1 true)) else (quartermasterref02_Mul.j0 k l0 l1 true))) = some (r1, r2) := H
  have A3 := Aside0.mk A30
  clear A30
  replace H := Option.bind_eq_some_iff.mp H
  obtain ⟨t159, A40, H⟩ := H
  replace H : (if t158 = true then (if t159 = true then (if 0 < (l0.length : Int) then (quartermasterref02_Mul.j0 k l0 l1 (((rd_L1 l0 0).length : Int) != (l1.length : Int))) else (none)) else (quartermasterref02_Mul.j0 k l0 l1 true)) else (quartermasterref02_Mul.j0 k l0 l1 true)) = some (r1, r2) := H
  have A4 := Aside0.mk A40
  clear A40
  have HC5 := Aside0.mk H
  clear H
  go_enter Try.func47, Try.ntmps47
  go_upto_region 3 with (first | (go_at_call 43; (with_reducible refine (quartermasterref02_May.calls k _ _ l0 t158 _ ?side1 ?side2 A3.out).mono ?_); (case side1 => repeat (first | exact HR0.out | (with_reducible refine Kd.C_alloc ?_ _) | (with_reducible refine Kd.C_drewN ?_ _) | (with_reducible refine Kd.C_drew ?_))); (case side2 => exact HC0.out); rintro e w' ⟨rfl, ⟨nd, rfl⟩⟩; (try first | exact ⟨rfl, _, World.drewN_drewN _ _ _⟩ | exact ⟨rfl, _, Eq.trans (World.drewN_drewN _ _ _) (congrArg (World.drewN _) (Nat.add_assoc _ _ _))⟩)) | (go_at_call 43; (with_reducible refine (quartermasterref02_May.calls k _ _ l1 t159 _ ?side1 ?side2 A4.out).mono ?_); (case side1 => repeat (first | exact HR1.out | (with_reducible refine Kd.C_alloc ?_ _) | (with_reducible refine Kd.C_drewN ?_ _) | (with_reducible refine Kd.C_drew ?_))); (case side2 => exact HC1.out); rintro e w' ⟨rfl, ⟨nd, rfl⟩⟩; (try first | exact ⟨rfl, _, World.drewN_drewN _ _ _⟩ | exact ⟨rfl, _, Eq.trans (World.drewN_drewN _ _ _) (congrArg (World.drewN _) (Nat.add_assoc _ _ _))⟩)))
  repeat (go_quiet (first | (go_at_call 43; (with_reducible refine (quartermasterref02_May.calls k _ _ l0 t158 _ ?side1 ?side2 A3.out).mono ?_); (case side1 => repeat (first | exact HR0.out | (with_reducible refine Kd.C_alloc ?_ _) | (with_reducible refine Kd.C_drewN ?_ _) | (with_reducible refine Kd.C_drew ?_))); (case side2 => exact HC0.out); rintro e w' ⟨rfl, ⟨nd, rfl⟩⟩; (try first | exact ⟨rfl, _, World.drewN_drewN _ _ _⟩ | exact ⟨rfl, _, Eq.trans (World.drewN_drewN _ _ _) (congrArg (World.drewN _) (Nat.add_assoc _ _ _))⟩)) | (go_at_call 43; (with_reducible refine (quartermasterref02_May.calls k _ _ l1 t159 _ ?side1 ?side2 A4.out).mono ?_); (case side1 => repeat (first | exact HR1.out | (with_reducible refine Kd.C_alloc ?_ _) | (with_reducible refine Kd.C_drewN ?_ _) | (with_reducible refine Kd.C_drew ?_))); (case side2 => exact HC1.out); rintro e w' ⟨rfl, ⟨nd, rfl⟩⟩; (try first | exact ⟨rfl, _, World.drewN_drewN _ _ _⟩ | exact ⟨rfl, _, Eq.trans (World.drewN_drewN _ _ _) (congrArg (World.drewN _) (Nat.add_assoc _ _ _))⟩))); go_upto_region 3 with (first | (go_at_call 43; (with_reducible refine (quartermasterref02_May.calls k _ _ l0 t158 _ ?side1 ?side2 A3.out).mono ?_); (case side1 => repeat (first | exact HR0.out | (with_reducible refine Kd.C_alloc ?_ _) | (with_reducible refine Kd.C_drewN ?_ _) | (with_reducible refine Kd.C_drew ?_))); (case side2 => exact HC0.out); rintro e w' ⟨rfl, ⟨nd, rfl⟩⟩; (try first | exact ⟨rfl, _, World.drewN_drewN _ _ _⟩ | exact ⟨rfl, _, Eq.trans (World.drewN_drewN _ _ _) (congrArg (World.drewN _) (Nat.add_assoc _ _ _))⟩)) | (go_at_call 43; (with_reducible refine (quartermasterref02_May.calls k _ _ l1 t159 _ ?side1 ?side2 A4.out).mono ?_); (case side1 => repeat (first | exact HR1.out | (with_reducible refine Kd.C_alloc ?_ _) | (with_reducible refine Kd.C_drewN ?_ _) | (with_reducible refine Kd.C_drew ?_))); (case side2 => exact HC1.out); rintro e w' ⟨rfl, ⟨nd, rfl⟩⟩; (try first | exact ⟨rfl, _, World.drewN_drewN _ _ _⟩ | exact ⟨rfl, _, Eq.trans (World.drewN_drewN _ _ _) (congrArg (World.drewN _) (Nat.add_assoc _ _ _))⟩))))
  (try simp only [Act.put, List.setIfInBounds_toArray, List.set_cons_zero, List.set_cons_succ])
  go_cut [33] (fun v33 wc => ∃ (kq : Nat) (x33_4 : Bool), v33 = .bool x33_4 ∧ Aside0 (quartermasterref02_Mul.j0 kq l0 l1 x33_4 = some (r1, r2)) ∧ Aside0 (kq ≤ k) ∧ Aside0 (Below w.heap.size w wc))
  case first =>
    have H := HC5.out
    clear HC5
    by_cases c6 : t158 = true
    · subst c6
      have H1 : (if t159 = true then (if 0 < (l0.length : Int) then (quartermasterref02_Mul.j0 k l0 l1 (((rd_L1 l0 0).length : Int) != (l1.length : Int))) else (none)) else (quartermasterref02_Mul.j0 k l0 l1 true)) = some (r1, r2) := by rw [if_pos rfl] at H; exact H
      clear H
      have H := H1
      clear H1
      by_cases c7 : t159 = true
      · subst c7
        have H1 : (if 0 < (l0.length : Int) then (quartermasterref02_Mul.j0 k l0 l1 (((rd_L1 l0 0).length : Int) != (l1.length : Int))) else (none)) = some (r1, r2) := by rw [if_pos rfl] at H; exact H
        clear H
        have H := H1
        clear H1
        by_cases c8 : 0 < (l0.length : Int)
        · rw [if_pos c8] at H
          have c8b0 : decide (0 < (l0.length : Int)) = true := decide_eq_true c8
          have c8b1 : decide (0 < l0.length) = true := decide_eq_true (by omega)
          clear c8
          (first | rw [c8b0] | (simp only [i64_w, i32_w]; rw [c8b0]) | skip)
          have H' := Aside0.mk H
          clear H
          have p160 : 0 ≤ (0 : Int) := (by omega)
          have q160 : 0 < (l0.length : Int) := of_decide_eq_true (by first | (with_reducible assumption) | assumption)
          obtain ⟨ad160, A160_0, c160_0, e160, hx160_0, hl160_0, hi160_0⟩ := at_L1 HR0.out 0 p160 q160
          cases e160
          have qi160 : (0 < l0.length) = True := eq_true (by omega)
          (try rw [show ((0 : Int)).toNat = 0 from rfl] at hx160_0)
          (try rw [Addr.add_zero'] at hx160_0)
          replace hx160_0 := (HB.out.cell (World.block_lt_of_cell? w _ hx160_0)).trans hx160_0
          have HR160_0 := Aside0.mk hi160_0
          have HC160_0 := Aside0.mk hl160_0
          clear hi160_0 hl160_0
          replace p160 := eq_true p160
          replace q160 := eq_true q160
          go_wp2
          repeat (go_quiet (fail); try go_wp2)
          go_meet
          case rel => exact ⟨_, ((((rd_L1 l0 0).length : Int) != (l1.length : Int))), (by first | rfl | (simp; done) | (simp [*]; done)), H', ⟨by first | omega | exact Nat.le_refl _⟩, ⟨by repeat (first | (with_reducible first | exact HB.out | apply below_alloc | apply pw_below_drewN | apply below_drew1) | exact HB.out)⟩⟩
        · rw [if_neg c8] at H
          exact absurd H (by simp)
      · replace c7 := Bool.eq_false_iff.mpr c7
        subst c7
        have H1 : (quartermasterref02_Mul.j0 k l0 l1 true) = some (r1, r2) := by rw [if_neg (show ¬ (false = true) by decide)] at H; exact H
        clear H
        have H := H1
        clear H1
        have H' := Aside0.mk H
        clear H
        go_wp2
        repeat (go_quiet (fail); try go_wp2)
        go_meet
        case rel => exact ⟨_, (true), (by first | rfl | (simp; done) | (simp [*]; done)), H', ⟨by first | omega | exact Nat.le_refl _⟩, ⟨by repeat (first | (with_reducible first | exact HB.out | apply below_alloc | apply pw_below_drewN | apply below_drew1) | exact HB.out)⟩⟩
    · replace c6 := Bool.eq_false_iff.mpr c6
      subst c6
      have H1 : (quartermasterref02_Mul.j0 k l0 l1 true) = some (r1, r2) := by rw [if_neg (show ¬ (false = true) by decide)] at H; exact H
      clear H
      have H := H1
      clear H1
      have H' := Aside0.mk H
      clear H
      go_wp2
      repeat (go_quiet (fail); try go_wp2)
      go_meet
      case rel => exact ⟨_, (true), (by first | rfl | (simp; done) | (simp [*]; done)), H', ⟨by first | omega | exact Nat.le_refl _⟩, ⟨by repeat (first | (with_reducible first | exact HB.out | apply below_alloc | apply pw_below_drewN | apply below_drew1) | exact HB.out)⟩⟩
  case rest =>
    clear HC5
    try clear c1
    try clear p1
    try clear q1
    try clear hx1
    try clear qi1
    try clear p2
    try clear c4
    try clear c6
    try clear c7
    try clear c8
    try clear c8b0
    try clear c8b1
    try clear hx160_0
    try clear p160
    try clear q160
    obtain ⟨kq, x33_4, rfl, HA, HJ4, HB⟩ := hcut
    cases kq with
    | zero => exact absurd HA.out (by simp [quartermasterref02_Mul.j0])
    | succ kj4 =>
      have H := HA.out
      clear HA
      simp only [quartermasterref02_Mul.j0] at H
      by_cases c9 : x33_4 = true
      · subst c9
        have H1 : (some (([] : List (List Int)), 1)) = some (r1, r2) := by rw [if_pos rfl] at H; exact H
        clear H
        have H := H1
        clear H1
        simp only [Option.some.injEq, Prod.mk.injEq] at H
        obtain ⟨rfl, rfl⟩ := H
        go_wp2
        repeat (go_quiet (fail); try go_wp2)
        go_ret2
        exact ⟨_, by first | rfl | (simp [errW_none, errW_some] <;> rfl) | (simp [*, errW_none, errW_some] <;> rfl), by first | exact Kd.S_nil _ _ _ _ _ | exact Kd.N_nil _ _ _ _ _ | exact Kd.V_nil _ _ _ _ _ | exact Kd.Q_nil _ _ _ _ _ | exact Kd.R_nil _ _ _ _ _, by repeat (first | (with_reducible first | exact HB.out | apply below_alloc | apply pw_below_drewN | apply below_drew1) | exact HB.out)⟩
      · replace c9 := Bool.eq_false_iff.mpr c9
        subst c9
        have H1 : (quartermasterref02_Mul.l0 kj4 l0 l1 ([] : List (List Int)) 0) = some (r1, r2) := by rw [if_neg (show ¬ (false = true) by decide)] at H; exact H
        clear H
        have H := H1
        clear H1
        have H' := Aside0.mk H
        clear H
        go_wp2
        repeat (go_quiet (fail); try go_wp2)
        go_loopg [8, 9] kj4 (fun kq v8 v9 w' => ∃ (x8_2 : List (List Int)) (x9_2 : Int), v9 = .int .i64 x9_2 ∧ Aside0 (quartermasterref02_Mul.l0 kq l0 l1 x8_2 x9_2 = some (r1, r2)) ∧ Aside0 (kq ≤ kj4) ∧ Aside0 (Kd.S (Kd.slice 5 (Kd.int .u8)) 43 w' w.heap.size (fun _ => True) v8 x8_2) ∧ Aside0 (Below w.heap.size w w'))
        case atStart => exact ⟨(([] : List (List Int))), (0), (by first | rfl | (simp; done) | (simp [*]; done)), H', ⟨Nat.le_refl _⟩, ⟨by first | exact Kd.S_nil _ _ _ _ _ | exact Kd.N_nil _ _ _ _ _ | exact Kd.V_nil _ _ _ _ _ | exact Kd.Q_nil _ _ _ _ _ | exact Kd.R_nil _ _ _ _ _⟩, ⟨by repeat (first | (with_reducible first | exact HB.out | apply below_alloc | apply pw_below_drewN | apply below_drew1) | exact HB.out)⟩⟩
        case round =>
          clear H'
          try clear c1
          try clear p1
          try clear q1
          try clear hx1
          try clear qi1
          try clear p2
          try clear c4
          try clear c6
          try clear c7
          try clear c8
          try clear c8b0
          try clear c8b1
          try clear c9
          try clear hx160_0
          try clear p1
          try clear p160
          try clear p2
          try clear q1
          try clear q160
          obtain ⟨x8_2, x9_2, rfl, HA, HK2, HO_8, HB⟩ := hrel
          cases gk with
          | zero => exact absurd HA.out (by simp [quartermasterref02_Mul.l0])
          | succ k2 =>
            have H := HA.out
            clear HA
            simp only [quartermasterref02_Mul.l0] at H
            by_cases c10 : x9_2 < (l0.length : Int)
            · rw [if_pos c10] at H
              have c10b0 : decide (x9_2 < (l0.length : Int)) = true := decide_eq_true c10
              clear c10
              have H' := Aside0.mk H
              clear H
              go_wp2
              repeat (go_quiet (fail); try go_wp2)
              go_loopg [10, 11] k2 (fun kq v10 v11 w' => ∃ (x10_3 : List Int) (x11_3 : Int), v11 = .int .i64 x11_3 ∧ Aside0 (quartermasterref02_Mul.l1 kq l0 l1 x8_2 x9_2 x10_3 x11_3 = some (r1, r2)) ∧ Aside0 (kq ≤ k2) ∧ Aside0 (Kd.S (Kd.slice 5 (Kd.int .u8)) 43 w' w.heap.size (fun k_ => some k_ ≠ (v10 : Value).ownBlock) u8 x8_2) ∧ Aside0 (Kd.R (Kd.int .u8) 5 w' w.heap.size (fun _ => True) v10 x10_3) ∧ Aside0 (Below w.heap.size w w'))
              case atStart => exact ⟨(([] : List Int)), (0), (by first | rfl | (simp; done) | (simp [*]; done)), H', ⟨Nat.le_refl _⟩, ⟨by (with_reducible repeat (first | apply Kd.S_alloc | apply Kd.S_drewN | apply Kd.S_drew)); exact Kd.S_mono HO_8.out (fun _ hk => (by simp [Value.ownBlock]))⟩, ⟨by first | exact Kd.R_nil _ _ _ _ _ | exact Kd.N_nil _ _ _ _ _ | exact Kd.V_nil _ _ _ _ _ | exact Kd.Q_nil _ _ _ _ _ | exact Kd.S_nil _ _ _ _ _⟩, ⟨by repeat (first | (with_reducible first | exact HB.out | apply below_alloc | apply pw_below_drewN | apply below_drew1) | exact HB.out)⟩⟩
              case round =>
                clear H'
                try clear c1
                try clear p1
                try clear q1
                try clear hx1
                try clear qi1
                try clear p2
                try clear c4
                try clear c6
                try clear c7
                try clear c8
                try clear c8b0
                try clear c8b1
                try clear c9
                try clear c10
                try clear c10b0
                try clear hx160_0
                try clear p1
                try clear p160
                try clear p2
                try clear q1
                try clear q160
                obtain ⟨x10_3, x11_3, rfl, HA, HK3, HO_8, HO_10, HB⟩ := hrel
                cases gk with
                | zero => exact absurd HA.out (by simp [quartermasterref02_Mul.l1])
                | succ k3 =>
                  have H := HA.out
                  clear HA
                  simp only [quartermasterref02_Mul.l1] at H
                  by_cases c11 : 0 < (l1.length : Int)
                  · rw [if_pos c11] at H
                    have c11b0 : decide (0 < (l1.length : Int)) = true := decide_eq_true c11
                    have c11b1 : decide (0 < l1.length) = true := decide_eq_true (by omega)
                    clear c11
                    by_cases c12 : x11_3 < ((rd_L1 l1 0).length : Int)
                    · rw [if_pos c12] at H
                      have c12b0 : decide (x11_3 < ((rd_L1 l1 0).length : Int)) = true := decide_eq_true c12
                      clear c12
                      have H' := Aside0.mk H
                      clear H
                      have p161 : 0 ≤ (0 : Int) := (by omega)
                      have q161 : 0 < (l1.length : Int) := of_decide_eq_true (by first | (with_reducible assumption) | assumption)
                      obtain ⟨ad161, A161_0, c161_0, e161, hx161_0, hl161_0, hi161_0⟩ := at_L1 HR1.out 0 p161 q161
                      cases e161
                      have qi161 : (0 < l1.length) = True := eq_true (by omega)
                      (try rw [show ((0 : Int)).toNat = 0 from rfl] at hx161_0)
                      (try rw [Addr.add_zero'] at hx161_0)
                      replace hx161_0 := (HB.out.cell (World.block_lt_of_cell? w _ hx161_0)).trans hx161_0
                      have HR161_0 := Aside0.mk hi161_0
                      have HC161_0 := Aside0.mk hl161_0
                      clear hi161_0 hl161_0
                      replace p161 := eq_true p161
                      replace q161 := eq_true q161
                      go_wp2
                      repeat (go_quiet (fail); try go_wp2)
                      go_loopg [12, 13] k3 (fun kq v12 v13 w' => ∃ (x12_4 : Int) (x13_4 : Int), v12 = .int .u8 x12_4 ∧ v13 = .int .i64 x13_4 ∧ Aside0 (quartermasterref02_Mul.l2 kq l0 l1 x8_2 x9_2 x10_3 x11_3 x12_4 x13_4 = some (r1, r2)) ∧ Aside0 (kq ≤ k3) ∧ Aside0 (Kd.S (Kd.slice 5 (Kd.int .u8)) 43 w' w.heap.size (fun k_ => some k_ ≠ (u10 : Value).ownBlock) u8 x8_2) ∧ Aside0 (Kd.R (Kd.int .u8) 5 w' w.heap.size (fun _ => True) u10 x10_3) ∧ Aside0 (Below w.heap.size w w'))
                      case atStart => exact ⟨(0), (0), (by first | rfl | (simp; done) | (simp [*]; done)), (by first | rfl | (simp; done) | (simp [*]; done)), H', ⟨Nat.le_refl _⟩, ⟨by (with_reducible repeat (first | apply Kd.S_alloc | apply Kd.S_drewN | apply Kd.S_drew)); exact HO_8.out⟩, ⟨by (with_reducible repeat (first | apply Kd.R_alloc | apply Kd.R_drewN | apply Kd.R_drew)); exact HO_10.out⟩, ⟨by repeat (first | (with_reducible first | exact HB.out | apply below_alloc | apply pw_below_drewN | apply below_drew1) | exact HB.out)⟩⟩
                      case round =>
                        clear H'
                        try clear c1
                        try clear p1
                        try clear q1
                        try clear hx1
                        try clear qi1
                        try clear p2
                        try clear c4
                        try clear c6
                        try clear c7
                        try clear c8
                        try clear c8b0
                        try clear c8b1
                        try clear c9
                        try clear c10
                        try clear c10b0
                        try clear c11
                        try clear c11b0
                        try clear c11b1
                        try clear c12
                        try clear c12b0
                        try clear hx160_0
                        try clear hx161_0
                        try clear p1
                        try clear p160
                        try clear p161
                        try clear p2
                        try clear q1
                        try clear q160
                        try clear q161
                        obtain ⟨x12_4, x13_4, rfl, rfl, HA, HK4, HO_8, HO_10, HB⟩ := hrel
                        cases gk with
                        | zero => exact absurd HA.out (by simp [quartermasterref02_Mul.l2])
                        | succ k4 =>
                          have H := HA.out
                          clear HA
                          simp only [quartermasterref02_Mul.l2] at H
                          by_cases c13 : x13_4 < (l1.length : Int)
                          · rw [if_pos c13] at H
                            have c13b0 : decide (x13_4 < (l1.length : Int)) = true := decide_eq_true c13
                            clear c13
                            by_cases c14 : 0 ≤ x9_2
                            · rw [if_pos c14] at H
                              have c14b0 : decide (0 ≤ x9_2) = true := decide_eq_true c14
                              clear c14
                              by_cases c15 : x9_2 < (l0.length : Int)
                              · rw [if_pos c15] at H
                                have c15b0 : decide (x9_2 < (l0.length : Int)) = true := decide_eq_true c15
                                clear c15
                                by_cases c16 : 0 ≤ x13_4
                                · rw [if_pos c16] at H
                                  have c16b0 : decide (0 ≤ x13_4) = true := decide_eq_true c16
                                  clear c16
                                  by_cases c17 : x13_4 < ((rd_L1 l0 x9_2).length : Int)
                                  · rw [if_pos c17] at H
                                    have c17b0 : decide (x13_4 < ((rd_L1 l0 x9_2).length : Int)) = true := decide_eq_true c17
                                    clear c17
                                    by_cases c18 : 0 ≤ x11_3
                                    · rw [if_pos c18] at H
                                      have c18b0 : decide (0 ≤ x11_3) = true := decide_eq_true c18
                                      clear c18
                                      by_cases c19 : x11_3 < ((rd_L1 l1 x13_4).length : Int)
                                      · rw [if_pos c19] at H
                                        have c19b0 : decide (x11_3 < ((rd_L1 l1 x13_4).length : Int)) = true := decide_eq_true c19
                                        clear c19
                                        replace H := Option.bind_eq_some_iff.mp H
                                        obtain ⟨t169, A200, H⟩ := H
                                        replace H : ((quartermasterref01_Add.f k4 x12_4 t169).bind fun t170 => (quartermasterref02_Mul.l2 k4 l0 l1 x8_2 x9_2 x10_3 x11_3 t170 (wrap64 (x13_4 + 1)))) = some (r1, r2) := H
                                        have A20 := Aside0.mk A200
                                        clear A200
                                        replace H := Option.bind_eq_some_iff.mp H
                                        obtain ⟨t170, A210, H⟩ := H
                                        replace H : (quartermasterref02_Mul.l2 k4 l0 l1 x8_2 x9_2 x10_3 x11_3 t170 (wrap64 (x13_4 + 1))) = some (r1, r2) := H
                                        have A21 := Aside0.mk A210
                                        clear A210
                                        have H' := Aside0.mk H
                                        clear H
                                        have p165 : 0 ≤ (x9_2 : Int) := of_decide_eq_true (by first | (with_reducible assumption) | assumption)
                                        have q165 : x9_2 < (l0.length : Int) := of_decide_eq_true (by first | (with_reducible assumption) | assumption)
                                        obtain ⟨ad165, A165_0, c165_0, e165, hx165_0, hl165_0, hi165_0⟩ := at_L1 HR0.out x9_2 p165 q165
                                        cases e165
                                        replace hx165_0 := (HB.out.cell (World.block_lt_of_cell? w _ hx165_0)).trans hx165_0
                                        have HR165_0 := Aside0.mk hi165_0
                                        have HC165_0 := Aside0.mk hl165_0
                                        clear hi165_0 hl165_0
                                        replace p165 := eq_true p165
                                        replace q165 := eq_true q165
                                        have p166 : 0 ≤ (x13_4 : Int) := of_decide_eq_true (by first | (with_reducible assumption) | assumption)
                                        have q166 : x13_4 < ((rd_L1 l0 x9_2).length : Int) := of_decide_eq_true (by first | (with_reducible assumption) | assumption)
                                        obtain ⟨ad166, e166, hx166_0⟩ := Kd.at_int HR165_0.out x13_4 p166 q166
                                        cases e166
                                        replace hx166_0 := (HB.out.cell (World.block_lt_of_cell? w _ hx166_0)).trans hx166_0
                                        replace p166 := eq_true p166
                                        replace q166 := eq_true q166
                                        have p167 : 0 ≤ (x13_4 : Int) := of_decide_eq_true (by first | (with_reducible assumption) | assumption)
                                        have q167 : x13_4 < (l1.length : Int) := of_decide_eq_true (by first | (with_reducible assumption) | assumption)
                                        obtain ⟨ad167, A167_0, c167_0, e167, hx167_0, hl167_0, hi167_0⟩ := at_L1 HR1.out x13_4 p167 q167
                                        obtain rfl : ad161 = ad167 := (by injection e167)
                                        replace hx167_0 := (HB.out.cell (World.block_lt_of_cell? w _ hx167_0)).trans hx167_0
                                        have HR167_0 := Aside0.mk hi167_0
                                        have HC167_0 := Aside0.mk hl167_0
                                        clear hi167_0 hl167_0
                                        replace p167 := eq_true p167
                                        replace q167 := eq_true q167
                                        have p168 : 0 ≤ (x11_3 : Int) := of_decide_eq_true (by first | (with_reducible assumption) | assumption)
                                        have q168 : x11_3 < ((rd_L1 l1 x13_4).length : Int) := of_decide_eq_true (by first | (with_reducible assumption) | assumption)
                                        obtain ⟨ad168, e168, hx168_0⟩ := Kd.at_int HR167_0.out x11_3 p168 q168
                                        cases e168
                                        replace hx168_0 := (HB.out.cell (World.block_lt_of_cell? w _ hx168_0)).trans hx168_0
                                        replace p168 := eq_true p168
                                        replace q168 := eq_true q168
                                        go_wp2_with (first | (go_at_call 33; (with_reducible refine (quartermasterref01_Mul.calls k4 (rd (rd_L1 l0 x9_2) x13_4) (rd (rd_L1 l1 x13_4) x11_3) t169 _ A20.out).mono ?_); rintro e w' ⟨rfl, ⟨nd, rfl⟩⟩; (try first | exact ⟨rfl, _, World.drewN_drewN _ _ _⟩ | exact ⟨rfl, _, Eq.trans (World.drewN_drewN _ _ _) (congrArg (World.drewN _) (Nat.add_assoc _ _ _))⟩)) | (go_at_call 35; (with_reducible refine (quartermasterref01_Add.calls k4 x12_4 t169 t170 _ A21.out).mono ?_); rintro e w' ⟨rfl, ⟨nd, rfl⟩⟩; (try first | exact ⟨rfl, _, World.drewN_drewN _ _ _⟩ | exact ⟨rfl, _, Eq.trans (World.drewN_drewN _ _ _) (congrArg (World.drewN _) (Nat.add_assoc _ _ _))⟩)))
                                        repeat (go_quiet (first | (go_at_call 33; (with_reducible refine (quartermasterref01_Mul.calls k4 (rd (rd_L1 l0 x9_2) x13_4) (rd (rd_L1 l1 x13_4) x11_3) t169 _ A20.out).mono ?_); rintro e w' ⟨rfl, ⟨nd, rfl⟩⟩; (try first | exact ⟨rfl, _, World.drewN_drewN _ _ _⟩ | exact ⟨rfl, _, Eq.trans (World.drewN_drewN _ _ _) (congrArg (World.drewN _) (Nat.add_assoc _ _ _))⟩)) | (go_at_call 35; (with_reducible refine (quartermasterref01_Add.calls k4 x12_4 t169 t170 _ A21.out).mono ?_); rintro e w' ⟨rfl, ⟨nd, rfl⟩⟩; (try first | exact ⟨rfl, _, World.drewN_drewN _ _ _⟩ | exact ⟨rfl, _, Eq.trans (World.drewN_drewN _ _ _) (congrArg (World.drewN _) (Nat.add_assoc _ _ _))⟩))); try go_wp2_with (first | (go_at_call 33; (with_reducible refine (quartermasterref01_Mul.calls k4 (rd (rd_L1 l0 x9_2) x13_4) (rd (rd_L1 l1 x13_4) x11_3) t169 _ A20.out).mono ?_); rintro e w' ⟨rfl, ⟨nd, rfl⟩⟩; (try first | exact ⟨rfl, _, World.drewN_drewN _ _ _⟩ | exact ⟨rfl, _, Eq.trans (World.drewN_drewN _ _ _) (congrArg (World.drewN _) (Nat.add_assoc _ _ _))⟩)) | (go_at_call 35; (with_reducible refine (quartermasterref01_Add.calls k4 x12_4 t169 t170 _ A21.out).mono ?_); rintro e w' ⟨rfl, ⟨nd, rfl⟩⟩; (try first | exact ⟨rfl, _, World.drewN_drewN _ _ _⟩ | exact ⟨rfl, _, Eq.trans (World.drewN_drewN _ _ _) (congrArg (World.drewN _) (Nat.add_assoc _ _ _))⟩))))
                                        go_roundg k4
                                        case measure => have := HJ4.out; have := HK2.out; have := HK3.out; have := HK4.out; omega
                                        case rel => exact ⟨(t170), (wrap64 (x13_4 + 1)), (by first | rfl | (simp; done) | (simp [*]; done)), (by first | rfl | (simp; done) | (simp [*]; done)), H', ⟨by have := HJ4.out; have := HK2.out; have := HK3.out; have := HK4.out; omega⟩, ⟨by (with_reducible repeat (first | apply Kd.S_alloc | apply Kd.S_drewN | apply Kd.S_drew)); exact HO_8.out⟩, ⟨by (with_reducible repeat (first | apply Kd.R_alloc | apply Kd.R_drewN | apply Kd.R_drew)); exact HO_10.out⟩, ⟨by repeat (first | (with_reducible first | exact HB.out | apply below_alloc | apply pw_below_drewN | apply below_drew1) | exact HB.out)⟩⟩
                                      · rw [if_neg c19] at H
                                        exact absurd H (by simp)
                                    · rw [if_neg c18] at H
                                      exact absurd H (by simp)
                                  · rw [if_neg c17] at H
                                    exact absurd H (by simp)
                                · rw [if_neg c16] at H
                                  exact absurd H (by simp)
                              · rw [if_neg c15] at H
                                exact absurd H (by simp)
                            · rw [if_neg c14] at H
                              exact absurd H (by simp)
                          · rw [if_neg c13] at H
                            have c13b0 : decide (x13_4 < (l1.length : Int)) = false := decide_eq_false c13
                            clear c13
                            by_cases c22 : x10_3.length < 140737488355328
                            · rw [if_pos c22] at H
                              have LMc22 := Aside0.mk c22
                              clear c22
                              obtain ⟨y171, hy171⟩ : ∃ y_ : List Int, y_ = (x10_3 ++ [x12_4]) := ⟨_, rfl⟩
                              replace H : (quartermasterref02_Mul.l1 k4 l0 l1 x8_2 x9_2 y171 (wrap64 (x11_3 + 1))) = some (r1, r2) := by first | (rw [hy171]; with_reducible exact H) | (have H2_ := (Option.bind_some _ _).symm.trans H; rw [hy171]; with_reducible exact H2_) | (have H2_ := (Option.bind_some _ _).symm.trans H; with_reducible exact H2_) | with_reducible exact H | (rw [hy171]; exact H) | exact H
                              have Ny171 := Aside0.mk hy171
                              clear hy171
                              have H' := Aside0.mk H
                              clear H
                              go_wp2_with (first | ((with_reducible refine gate_builtin (b := .append) (xs := #[.tmp 72, .tmp 74]) rfl ?_); (try (refine gate_guard (by rfl) ?_; dsimp only)); at_builtin; refine Kd.R_append (Kd.int .u8) (w0 := w) w.heap.size rfl (.tmp 72) (.tmp 74) 43 5 (.int .u8 0) 1 rfl Try.underlying43 info5 rfl (by decide) (by omega) u10 x10_3 x12_4 [.int .u8 x12_4] (fun _ => True) (fun _ => False) rfl rfl ?aP (fun _ hk => hk.elim) ?aF ?aO ?aB ?aS ?aL ?_; (case aP => exact rfl); (case aB => exact (by repeat (first | (with_reducible first | exact HB.out | apply below_alloc | apply pw_below_drewN | apply below_drew1) | exact HB.out))); (case aF => exact (fun _ _ => trivial)); (case aO => exact (by (with_reducible repeat (first | apply Kd.R_alloc | apply Kd.R_drewN | apply Kd.R_drew)); exact HO_10.out)); (case aS => exact (below_size (by repeat (first | (with_reducible first | exact HB.out | apply below_alloc | apply pw_below_drewN | apply below_drew1) | exact HB.out)))); (case aL => have := LMc22.out; omega); intro v172 w23 ho hb hg hat; rw [← Ny171.out] at ho; have n0_ := Aside0.mk (Kd.S_after (ok := (fun _ => True)) (by (with_reducible repeat (first | apply Kd.S_alloc | apply Kd.S_drewN | apply Kd.S_drew)); exact Kd.S_mono HO_8.out (fun _ hk => ⟨trivial, hk⟩)) hg hat); have n1_ := Aside0.mk (hb); have n2_ := Aside0.mk (ho); clear HO_8; clear HB; clear HO_10; have HO_8 := n0_; have HB := n1_; have HO173 := n2_; clear n0_ n1_ n2_; clear ho hb hg hat))
                              repeat (go_quiet (first | ((with_reducible refine gate_builtin (b := .append) (xs := #[.tmp 72, .tmp 74]) rfl ?_); (try (refine gate_guard (by rfl) ?_; dsimp only)); at_builtin; refine Kd.R_append (Kd.int .u8) (w0 := w) w.heap.size rfl (.tmp 72) (.tmp 74) 43 5 (.int .u8 0) 1 rfl Try.underlying43 info5 rfl (by decide) (by omega) u10 x10_3 x12_4 [.int .u8 x12_4] (fun _ => True) (fun _ => False) rfl rfl ?aP (fun _ hk => hk.elim) ?aF ?aO ?aB ?aS ?aL ?_; (case aP => exact rfl); (case aB => exact (by repeat (first | (with_reducible first | exact HB.out | apply below_alloc | apply pw_below_drewN | apply below_drew1) | exact HB.out))); (case aF => exact (fun _ _ => trivial)); (case aO => exact (by (with_reducible repeat (first | apply Kd.R_alloc | apply Kd.R_drewN | apply Kd.R_drew)); exact HO_10.out)); (case aS => exact (below_size (by repeat (first | (with_reducible first | exact HB.out | apply below_alloc | apply pw_below_drewN | apply below_drew1) | exact HB.out)))); (case aL => have := LMc22.out; omega); intro v172 w23 ho hb hg hat; rw [← Ny171.out] at ho; have n0_ := Aside0.mk (Kd.S_after (ok := (fun _ => True)) (by (with_reducible repeat (first | apply Kd.S_alloc | apply Kd.S_drewN | apply Kd.S_drew)); exact Kd.S_mono HO_8.out (fun _ hk => ⟨trivial, hk⟩)) hg hat); have n1_ := Aside0.mk (hb); have n2_ := Aside0.mk (ho); clear HO_8; clear HB; clear HO_10; have HO_8 := n0_; have HB := n1_; have HO173 := n2_; clear n0_ n1_ n2_; clear ho hb hg hat)); try go_wp2_with (first | ((with_reducible refine gate_builtin (b := .append) (xs := #[.tmp 72, .tmp 74]) rfl ?_); (try (refine gate_guard (by rfl) ?_; dsimp only)); at_builtin; refine Kd.R_append (Kd.int .u8) (w0 := w) w.heap.size rfl (.tmp 72) (.tmp 74) 43 5 (.int .u8 0) 1 rfl Try.underlying43 info5 rfl (by decide) (by omega) u10 x10_3 x12_4 [.int .u8 x12_4] (fun _ => True) (fun _ => False) rfl rfl ?aP (fun _ hk => hk.elim) ?aF ?aO ?aB ?aS ?aL ?_; (case aP => exact rfl); (case aB => exact (by repeat (first | (with_reducible first | exact HB.out | apply below_alloc | apply pw_below_drewN | apply below_drew1) | exact HB.out))); (case aF => exact (fun _ _ => trivial)); (case aO => exact (by (with_reducible repeat (first | apply Kd.R_alloc | apply Kd.R_drewN | apply Kd.R_drew)); exact HO_10.out)); (case aS => exact (below_size (by repeat (first | (with_reducible first | exact HB.out | apply below_alloc | apply pw_below_drewN | apply below_drew1) | exact HB.out)))); (case aL => have := LMc22.out; omega); intro v172 w23 ho hb hg hat; rw [← Ny171.out] at ho; have n0_ := Aside0.mk (Kd.S_after (ok := (fun _ => True)) (by (with_reducible repeat (first | apply Kd.S_alloc | apply Kd.S_drewN | apply Kd.S_drew)); exact Kd.S_mono HO_8.out (fun _ hk => ⟨trivial, hk⟩)) hg hat); have n1_ := Aside0.mk (hb); have n2_ := Aside0.mk (ho); clear HO_8; clear HB; clear HO_10; have HO_8 := n0_; have HB := n1_; have HO173 := n2_; clear n0_ n1_ n2_; clear ho hb hg hat)))
                              go_roundg k4
                              case measure => have := HJ4.out; have := HK2.out; have := HK3.out; have := HK4.out; omega
                              case rel => exact ⟨(y171), (wrap64 (x11_3 + 1)), (by first | rfl | (simp; done) | (simp [*]; done)), H', ⟨by have := HJ4.out; have := HK2.out; have := HK3.out; have := HK4.out; omega⟩, ⟨by (with_reducible repeat (first | apply Kd.S_alloc | apply Kd.S_drewN | apply Kd.S_drew)); exact Kd.S_mono HO_8.out (fun _ hk => hk.2)⟩, ⟨by (with_reducible repeat (first | apply Kd.R_alloc | apply Kd.R_drewN | apply Kd.R_drew)); exact HO173.out⟩, ⟨by repeat (first | (with_reducible first | exact HB.out | apply below_alloc | apply pw_below_drewN | apply below_drew1) | exact HB.out)⟩⟩
                            · rw [if_neg c22] at H
                              exact absurd H (by simp)
                    · rw [if_neg c12] at H
                      have c12b0 : decide (x11_3 < ((rd_L1 l1 0).length : Int)) = false := decide_eq_false c12
                      clear c12
                      by_cases c24 : x8_2.length < 5864062014805
                      · rw [if_pos c24] at H
                        have LMc24 := Aside0.mk c24
                        clear c24
                        obtain ⟨y162, hy162⟩ : ∃ y_ : List (List Int), y_ = (x8_2 ++ [x10_3]) := ⟨_, rfl⟩
                        replace H : (quartermasterref02_Mul.l0 k3 l0 l1 y162 (wrap64 (x9_2 + 1))) = some (r1, r2) := by first | (rw [hy162]; with_reducible exact H) | (have H2_ := (Option.bind_some _ _).symm.trans H; rw [hy162]; with_reducible exact H2_) | (have H2_ := (Option.bind_some _ _).symm.trans H; with_reducible exact H2_) | with_reducible exact H | (rw [hy162]; exact H) | exact H
                        have Ny162 := Aside0.mk hy162
                        clear hy162
                        have H' := Aside0.mk H
                        clear H
                        have p161 : 0 ≤ (0 : Int) := (by omega)
                        have q161 : 0 < (l1.length : Int) := of_decide_eq_true (by first | (with_reducible assumption) | assumption)
                        obtain ⟨ad161, A161_0, c161_0, e161, hx161_0, hl161_0, hi161_0⟩ := at_L1 HR1.out 0 p161 q161
                        cases e161
                        have qi161 : (0 < l1.length) = True := eq_true (by omega)
                        (try rw [show ((0 : Int)).toNat = 0 from rfl] at hx161_0)
                        (try rw [Addr.add_zero'] at hx161_0)
                        replace hx161_0 := (HB.out.cell (World.block_lt_of_cell? w _ hx161_0)).trans hx161_0
                        have HR161_0 := Aside0.mk hi161_0
                        have HC161_0 := Aside0.mk hl161_0
                        clear hi161_0 hl161_0
                        replace p161 := eq_true p161
                        replace q161 := eq_true q161
                        obtain ⟨Ao26, co26, eo26⟩ := Kd.R_slice HO_10.out
                        subst eo26
                        go_wp2_with (first | ((with_reducible refine gate_builtin (b := .append) (xs := #[.tmp 76, .tmp 78]) rfl ?_); (try (refine gate_guard (by rfl) ?_; dsimp only)); at_builtin; refine Kd.S_append (Kd.slice 5 (Kd.int .u8)) (w0 := w) w.heap.size rfl (.tmp 76) (.tmp 78) 42 43 (.slice none 0 0) 24 rfl Try.underlying42 info43 rfl (by decide) (by omega) u8 x8_2 x10_3 [.slice Ao26 x10_3.length co26] (fun _ => True) (fun k_ => some k_ = (.slice Ao26 x10_3.length co26 : Value).ownBlock) rfl rfl ?aP (fun k_ hk_ => ((Kd.R_mono (ok' := fun k_ => ((fun _ => True)) k_ ∧ some k_ ≠ (u8 : Value).ownBlock) (Kd.R_apart' (HO_10.out) (Kd.S_typed HO_8.out) (by decide)) (fun k_ hk => ⟨trivial, hk.2⟩))).1 k_ hk_.symm) ?aF ?aO ?aB ?aS ?aL ?_; (case aP => exact Kd.M_row (Kd.R_mono (Kd.R_tight rfl (Kd.R_mono (ok' := fun k_ => ((fun _ => True)) k_ ∧ some k_ ≠ (u8 : Value).ownBlock) (Kd.R_apart' (HO_10.out) (Kd.S_typed HO_8.out) (by decide)) (fun k_ hk => ⟨trivial, hk.2⟩))) (fun _ h_ => h_))); (case aB => exact (by repeat (first | (with_reducible first | exact HB.out | apply below_alloc | apply pw_below_drewN | apply below_drew1) | exact HB.out))); (case aF => exact (fun _ _ => trivial)); (case aO => exact (by (with_reducible repeat (first | apply Kd.S_alloc | apply Kd.S_drewN | apply Kd.S_drew)); exact Kd.S_mono HO_8.out (fun k_ hk => ⟨trivial, fun e_ => hk e_⟩))); (case aS => exact (below_size (by repeat (first | (with_reducible first | exact HB.out | apply below_alloc | apply pw_below_drewN | apply below_drew1) | exact HB.out)))); (case aL => have := LMc24.out; omega); intro v163 w25 ho hb hg hat; rw [← Ny162.out] at ho; have n0_ := Aside0.mk (hb); have n1_ := Aside0.mk (ho); clear HB; clear HO_8; clear HO_10; have HB := n0_; have HO164 := n1_; clear n0_ n1_; clear ho hb hg hat))
                        repeat (go_quiet (first | ((with_reducible refine gate_builtin (b := .append) (xs := #[.tmp 76, .tmp 78]) rfl ?_); (try (refine gate_guard (by rfl) ?_; dsimp only)); at_builtin; refine Kd.S_append (Kd.slice 5 (Kd.int .u8)) (w0 := w) w.heap.size rfl (.tmp 76) (.tmp 78) 42 43 (.slice none 0 0) 24 rfl Try.underlying42 info43 rfl (by decide) (by omega) u8 x8_2 x10_3 [.slice Ao26 x10_3.length co26] (fun _ => True) (fun k_ => some k_ = (.slice Ao26 x10_3.length co26 : Value).ownBlock) rfl rfl ?aP (fun k_ hk_ => ((Kd.R_mono (ok' := fun k_ => ((fun _ => True)) k_ ∧ some k_ ≠ (u8 : Value).ownBlock) (Kd.R_apart' (HO_10.out) (Kd.S_typed HO_8.out) (by decide)) (fun k_ hk => ⟨trivial, hk.2⟩))).1 k_ hk_.symm) ?aF ?aO ?aB ?aS ?aL ?_; (case aP => exact Kd.M_row (Kd.R_mono (Kd.R_tight rfl (Kd.R_mono (ok' := fun k_ => ((fun _ => True)) k_ ∧ some k_ ≠ (u8 : Value).ownBlock) (Kd.R_apart' (HO_10.out) (Kd.S_typed HO_8.out) (by decide)) (fun k_ hk => ⟨trivial, hk.2⟩))) (fun _ h_ => h_))); (case aB => exact (by repeat (first | (with_reducible first | exact HB.out | apply below_alloc | apply pw_below_drewN | apply below_drew1) | exact HB.out))); (case aF => exact (fun _ _ => trivial)); (case aO => exact (by (with_reducible repeat (first | apply Kd.S_alloc | apply Kd.S_drewN | apply Kd.S_drew)); exact Kd.S_mono HO_8.out (fun k_ hk => ⟨trivial, fun e_ => hk e_⟩))); (case aS => exact (below_size (by repeat (first | (with_reducible first | exact HB.out | apply below_alloc | apply pw_below_drewN | apply below_drew1) | exact HB.out)))); (case aL => have := LMc24.out; omega); intro v163 w25 ho hb hg hat; rw [← Ny162.out] at ho; have n0_ := Aside0.mk (hb); have n1_ := Aside0.mk (ho); clear HB; clear HO_8; clear HO_10; have HB := n0_; have HO164 := n1_; clear n0_ n1_; clear ho hb hg hat)); try go_wp2_with (first | ((with_reducible refine gate_builtin (b := .append) (xs := #[.tmp 76, .tmp 78]) rfl ?_); (try (refine gate_guard (by rfl) ?_; dsimp only)); at_builtin; refine Kd.S_append (Kd.slice 5 (Kd.int .u8)) (w0 := w) w.heap.size rfl (.tmp 76) (.tmp 78) 42 43 (.slice none 0 0) 24 rfl Try.underlying42 info43 rfl (by decide) (by omega) u8 x8_2 x10_3 [.slice Ao26 x10_3.length co26] (fun _ => True) (fun k_ => some k_ = (.slice Ao26 x10_3.length co26 : Value).ownBlock) rfl rfl ?aP (fun k_ hk_ => ((Kd.R_mono (ok' := fun k_ => ((fun _ => True)) k_ ∧ some k_ ≠ (u8 : Value).ownBlock) (Kd.R_apart' (HO_10.out) (Kd.S_typed HO_8.out) (by decide)) (fun k_ hk => ⟨trivial, hk.2⟩))).1 k_ hk_.symm) ?aF ?aO ?aB ?aS ?aL ?_; (case aP => exact Kd.M_row (Kd.R_mono (Kd.R_tight rfl (Kd.R_mono (ok' := fun k_ => ((fun _ => True)) k_ ∧ some k_ ≠ (u8 : Value).ownBlock) (Kd.R_apart' (HO_10.out) (Kd.S_typed HO_8.out) (by decide)) (fun k_ hk => ⟨trivial, hk.2⟩))) (fun _ h_ => h_))); (case aB => exact (by repeat (first | (with_reducible first | exact HB.out | apply below_alloc | apply pw_below_drewN | apply below_drew1) | exact HB.out))); (case aF => exact (fun _ _ => trivial)); (case aO => exact (by (with_reducible repeat (first | apply Kd.S_alloc | apply Kd.S_drewN | apply Kd.S_drew)); exact Kd.S_mono HO_8.out (fun k_ hk => ⟨trivial, fun e_ => hk e_⟩))); (case aS => exact (below_size (by repeat (first | (with_reducible first | exact HB.out | apply below_alloc | apply pw_below_drewN | apply below_drew1) | exact HB.out)))); (case aL => have := LMc24.out; omega); intro v163 w25 ho hb hg hat; rw [← Ny162.out] at ho; have n0_ := Aside0.mk (hb); have n1_ := Aside0.mk (ho); clear HB; clear HO_8; clear HO_10; have HB := n0_; have HO164 := n1_; clear n0_ n1_; clear ho hb hg hat)))
                        go_roundg k3
                        case measure => have := HJ4.out; have := HK2.out; have := HK3.out; omega
                        case rel => exact ⟨(y162), (wrap64 (x9_2 + 1)), (by first | rfl | (simp; done) | (simp [*]; done)), H', ⟨by have := HJ4.out; have := HK2.out; have := HK3.out; omega⟩, ⟨by (with_reducible repeat (first | apply Kd.S_alloc | apply Kd.S_drewN | apply Kd.S_drew)); exact HO164.out⟩, ⟨by repeat (first | (with_reducible first | exact HB.out | apply below_alloc | apply pw_below_drewN | apply below_drew1) | exact HB.out)⟩⟩
                      · rw [if_neg c24] at H
                        exact absurd H (by simp)
                  · rw [if_neg c11] at H
                    exact absurd H (by simp)
            · rw [if_neg c10] at H
              have c10b0 : decide (x9_2 < (l0.length : Int)) = false := decide_eq_false c10
              clear c10
              simp only [Option.some.injEq, Prod.mk.injEq] at H
              obtain ⟨rfl, rfl⟩ := H
              go_wp2
              repeat (go_quiet (fail); try go_wp2)
              go_ret2
              exact ⟨_, by first | rfl | (simp [errW_none, errW_some] <;> rfl) | (simp [*, errW_none, errW_some] <;> rfl), by (with_reducible repeat (first | apply Kd.S_alloc | apply Kd.S_drewN | apply Kd.S_drew)); exact HO_8.out, by repeat (first | (with_reducible first | exact HB.out | apply below_alloc | apply pw_below_drewN | apply below_drew1) | exact HB.out)⟩
end Go.Proofs.Ythblmkailhdhlaa.P
/- What ref02's Same, Few, May, One and Cauchy (as printed) come to. -/
namespace Go.Proofs.Ythblmkailhdhlaa.Mat
set_option linter.unusedVariables false
open Go.RowKit Go.Proofs.Ythblmkailhdhlaa.F Go.Proofs.Ythblmkailhdhlaa.R Go.Proofs.Ythblmkailhdhlaa.G Go.Proofs.Ythblmkailhdhlaa.P Go.Proofs.Ythblmkailhdhlaa.Given Go.Proofs.Ythblmkailhdhlaa.Gf Go.Proofs.YthblmkailhdhlaaW.PrintWords
theorem one_row (n i : Nat) (hi : i < n) : (List.replicate n (0 : Int)).set i 1 = ints ((List.range n).map (oneAt i)) := by
  apply List.ext_getElem?
  intro j
  rw [List.getElem?_set]
  unfold ints
  rw [List.map_map, List.getElem?_map, List.length_replicate]
  by_cases hj : j < n
  · rw [List.getElem?_range hj, List.getElem?_replicate, if_pos hj]
    simp only [Option.map_some, Function.comp]
    unfold oneAt
    by_cases h : i = j
    · rw [if_pos h, if_pos hi, if_pos h]; rfl
    · rw [if_neg h, if_neg h]; rfl
  · rw [List.getElem?_eq_none (by simp; omega), if_neg (by omega), List.getElem?_eq_none (by simp; omega)]; rfl
theorem grid_take_succ (n c : Nat) (g : Nat → Nat → Nat) (i : Nat) (h : i < n) : (grid n c g).take (i + 1) = (grid n c g).take i ++ [(List.range c).map (g i)] := by
  rw [List.take_add_one, grid_get n c g h]; rfl
theorem one_l0 (n : Nat) (hn : n ≤ 64) : ∀ d i k, i + d = n → d < k →
    quartermasterref02_One.l0 k (n : Int) (mints ((grid n n oneAt).take i)) (i : Int) = some (mints (grid n n oneAt), 0) := by
  intro d
  induction d with
  | zero =>
    intro i k h hk
    obtain ⟨k, rfl⟩ : ∃ m, k = m + 1 := ⟨k - 1, by omega⟩
    simp only [quartermasterref02_One.l0]
    rw [if_neg (by omega), List.take_of_length_le (by rw [grid_len]; omega)]
  | succ d ih =>
    intro i k h hk
    obtain ⟨k, rfl⟩ : ∃ m, k = m + 1 := ⟨k - 1, by omega⟩
    rw [quartermasterref02_One.l0]
    rw [if_pos (by omega), if_pos (by omega), Int.toNat_natCast, if_pos (by omega)]
    simp only [Option.bind_some]
    rw [if_pos (by omega), List.length_replicate, if_pos (by omega), if_pos (by rw [mints_len, List.length_take]; omega), Int.toNat_natCast, one_row n i (by omega), w64 (by omega) (by omega), ← succ_cast]
    have := ih (i + 1) k (by omega) (by omega)
    rw [grid_take_succ n n oneAt i (by omega), mints_app] at this
    exact this
theorem rone_f (n : Int) {k : Nat} (hk : 80 ≤ k) : quartermasterref02_One.f k n = mat_One.f n := by
  unfold quartermasterref02_One.f mat_One.f
  obtain ⟨k, rfl⟩ : ∃ m, k = m + 1 := ⟨k - 1, by omega⟩
  simp only [quartermasterref02_One.j0]
  by_cases h1 : 1 ≤ n
  · rw [if_neg (by omega)]
    by_cases h2 : n ≤ 64
    · rw [decide_eq_false (by omega), if_neg (by decide), if_pos ⟨h1, h2⟩]
      obtain ⟨m, rfl⟩ := Int.eq_ofNat_of_zero_le (show 0 ≤ n by omega)
      rw [Int.toNat_natCast]
      exact one_l0 m (by omega) m 0 k (by omega) (by omega)
    · rw [decide_eq_true (by omega), if_pos rfl, if_neg (by omega)]
  · rw [if_pos (by omega), if_pos trivial, if_neg (by omega)]
theorem cau_l1 (n c i : Nat) (hc : c ≤ 64) (hi : i < 64) (x6 : List (List Int)) : ∀ d j k, j + d = c → 400 ≤ k →
    quartermasterref02_Cauchy.l1 (k + d + 1) (n : Int) (c : Int) x6 (i : Int) (ints ((List.range j).map (cauAt c i))) (j : Int) =
      if x6.length < 5864062014805 then quartermasterref02_Cauchy.l0 k (n : Int) (c : Int) (x6 ++ [ints ((List.range c).map (cauAt c i))]) (wrap64 ((i : Int) + 1)) else none := by
  intro d
  induction d with
  | zero =>
    intro j k h hk
    rw [quartermasterref02_Cauchy.l1]
    rw [if_neg (by omega), show j = c by omega]
  | succ d ih =>
    intro j k h hk
    show quartermasterref02_Cauchy.l1 ((k + d + 1) + 1) _ _ _ _ _ _ = _
    rw [quartermasterref02_Cauchy.l1]
    rw [if_pos (by omega), w64 (by omega) (by omega), show ((c : Int) + i) % 256 = ((c + i : Nat) : Int) by omega, show (j : Int) % 256 = (j : Int) by omega]
    rw [add_f (by omega) (by omega) (by omega)]
    simp only [Option.bind_some]
    have hx : (c + i) ^^^ j < 256 := xor_lt (by omega) (by omega)
    have hdiv := div_f (a := 1) (b := (c + i) ^^^ j) (k := k + d + 1) (by omega) hx (by omega)
    rw [show ((1 : Nat) : Int) = 1 from rfl] at hdiv
    rw [hdiv]
    simp only [Option.bind_some]
    rw [if_pos (by rw [ints_len]; simp; omega)]
    have e : (if (c + i) ^^^ j = 0 then ((0 : Int), (8 : Int)) else (((gd 1 ((c + i) ^^^ j) : Nat) : Int), 0)).1 = ((cauAt c i j : Nat) : Int) := by
      unfold cauAt dq
      split <;> rfl
    rw [e, w64 (by omega) (by omega), ← succ_cast]
    have := ih (j + 1) k (by omega) hk
    rw [List.range_succ, List.map_append] at this
    rw [show ints (List.map (cauAt c i) (List.range j) ++ List.map (cauAt c i) [j]) = ints (List.map (cauAt c i) (List.range j)) ++ [((cauAt c i j : Nat) : Int)] by unfold ints; rw [List.map_append]; rfl] at this
    exact this
theorem cau_l0 (n c : Nat) (hn : n ≤ 64) (hc : c ≤ 64) : ∀ d i k, i + d = n → 400 + d * 66 < k →
    quartermasterref02_Cauchy.l0 k (n : Int) (c : Int) (mints ((grid n c (cauAt c)).take i)) (i : Int) = some (mints (grid n c (cauAt c)), 0) := by
  intro d
  induction d with
  | zero =>
    intro i k h hk
    obtain ⟨k, rfl⟩ : ∃ m, k = m + 1 := ⟨k - 1, by omega⟩
    simp only [quartermasterref02_Cauchy.l0]
    rw [if_neg (by omega), List.take_of_length_le (by rw [grid_len]; omega)]
  | succ d ih =>
    intro i k h hk
    obtain ⟨k, rfl⟩ : ∃ m, k = m + 1 := ⟨k - 1, by omega⟩
    rw [quartermasterref02_Cauchy.l0, if_pos (by omega)]
    obtain ⟨m, rfl⟩ : ∃ m, k = m + c + 1 := ⟨k - c - 1, by omega⟩
    have := cau_l1 n c i hc (by omega) (mints ((grid n c (cauAt c)).take i)) c 0 m (by omega) (by omega)
    rw [show ((0 : Nat) : Int) = 0 from rfl] at this
    rw [show ([] : List Int) = ints ((List.range 0).map (cauAt c i)) from rfl, this, if_pos (by rw [mints_len, List.length_take]; omega), w64 (by omega) (by omega), ← succ_cast]
    have h2 := ih (i + 1) m (by omega) (by omega)
    rw [grid_take_succ n c _ i (by omega), mints_app] at h2
    exact h2
theorem rcau_f (n c : Int) {k : Nat} (hk : 4700 ≤ k) : quartermasterref02_Cauchy.f k n c = mat_Cauchy.f n c := by
  unfold quartermasterref02_Cauchy.f mat_Cauchy.f
  obtain ⟨k, rfl⟩ : ∃ m, k = m + 1 := ⟨k - 1, by omega⟩
  simp only [quartermasterref02_Cauchy.j0]
  by_cases h1 : 1 ≤ n
  · rw [if_neg (by omega)]
    by_cases h2 : 1 ≤ c
    · rw [if_neg (by omega)]
      by_cases h3 : n ≤ 64
      · rw [if_neg (by omega)]
        by_cases h4 : c ≤ 64
        · rw [decide_eq_false (by omega), if_neg (by decide), if_pos ⟨h1, h3, h2, h4⟩]
          obtain ⟨m, rfl⟩ := Int.eq_ofNat_of_zero_le (show 0 ≤ n by omega)
          obtain ⟨c, rfl⟩ := Int.eq_ofNat_of_zero_le (show 0 ≤ c by omega)
          rw [Int.toNat_natCast, Int.toNat_natCast]
          exact cau_l0 m c (by omega) (by omega) m 0 k (by omega) (by omega)
        · rw [decide_eq_true (by omega), if_pos rfl, if_neg (by omega)]
      · rw [if_pos (by omega), if_pos trivial, if_neg (by omega)]
    · rw [if_pos (by omega), if_pos trivial, if_neg (by omega)]
  · rw [if_pos (by omega), if_pos trivial, if_neg (by omega)]
end Go.Proofs.Ythblmkailhdhlaa.Mat
/- What ref02's Mul (as printed) comes to. -/
namespace Go.Proofs.Ythblmkailhdhlaa.Mat
set_option linter.unusedVariables false
open Go.RowKit Go.Proofs.Ythblmkailhdhlaa.F Go.Proofs.Ythblmkailhdhlaa.R Go.Proofs.Ythblmkailhdhlaa.G Go.Proofs.Ythblmkailhdhlaa.P Go.Proofs.Ythblmkailhdhlaa.Given Go.Proofs.Ythblmkailhdhlaa.Gf Go.Proofs.YthblmkailhdhlaaW.PrintWords
theorem rmul_l2 {n m c : Nat} {a b : List (List Nat)} (ha : Rect n m a) (hb : Rect m c b) (hm : m ≤ 64) (hc : c ≤ 4096) (i j : Nat) (hi : i < n) (hj : j < c) (x8 : List (List Int)) (x10 : List Int) : ∀ d t k, t + d = m → 100 ≤ k →
    quartermasterref02_Mul.l2 (k + d + 1) (mints a) (mints b) x8 (i : Int) x10 (j : Int) ((sg (fun t => gm (el a i t) (el b t j)) t : Nat) : Int) (t : Int) =
      if x10.length < 140737488355328 then quartermasterref02_Mul.l1 k (mints a) (mints b) x8 (i : Int) (x10 ++ [((mulF m (el a) (el b) i j : Nat) : Int)]) (wrap64 ((j : Int) + 1)) else none := by
  intro d
  induction d with
  | zero =>
    intro t k h hk
    rw [quartermasterref02_Mul.l2, mints_len, hb.1, if_neg (by omega), show t = m by omega]
    have e : mulF m (el a) (el b) i j = sg (fun t => gm (el a i t) (el b t j)) m := rfl
    rw [e]
  | succ d ih =>
    intro t k h hk
    show quartermasterref02_Mul.l2 ((k + d + 1) + 1) _ _ _ _ _ _ _ _ = _
    obtain ⟨ra, _, ea, qa, _⟩ := ha.row hi
    obtain ⟨rb, _, eb, qb, _⟩ := hb.row (show t < m by omega)
    rw [quartermasterref02_Mul.l2, mints_len, mints_len, hb.1, ha.1, rd_L1_nat, rd_L1_nat, rd_nat, rd_nat, mints_at, mints_at, mints_getD, mints_getD, ints_len, ints_len, ea, eb, qa, qb]
    rw [if_pos (by omega), if_pos (by omega), if_pos (by omega), if_pos (by omega), if_pos (by omega), if_pos (by omega), if_pos (by omega)]
    have this := ih (t + 1) k (by omega) hk
    have e : sg (fun t => gm (el a i t) (el b t j)) (t + 1) = sg (fun t => gm (el a i t) (el b t j)) t ^^^ gm (el a i t) (el b t j) := rfl
    rw [e] at this
    have hs : sg (fun t => gm (el a i t) (el b t j)) t < 256 := sg_lt fun _ _ => gm_lt _ _
    have hp : gm (el a i t) (el b t j) < 256 := gm_lt _ _
    have hmul := mul_f (k := k + d + 1) (ha.lt i t) (hb.lt t j) (by omega)
    have hadd := add_f (k := k + d + 1) hs hp (by omega)
    generalize sg (fun t => gm (el a i t) (el b t j)) t = s at *
    generalize gm (el a i t) (el b t j) = p at *
    rw [hmul, Option.bind_some, hadd, Option.bind_some, w64 (by omega) (by omega), ← succ_cast]
    exact this
theorem rmul_l1 {n m c : Nat} {a b : List (List Nat)} (ha : Rect n m a) (hb : Rect m c b) (hm0 : 0 < m) (hm : m ≤ 64) (hc : c ≤ 4096) (i : Nat) (hi : i < n) (x8 : List (List Int)) : ∀ d j k, j + d = c → 100 ≤ k →
    quartermasterref02_Mul.l1 (k + d * (m + 2) + 1) (mints a) (mints b) x8 (i : Int) (ints ((List.range j).map (mulF m (el a) (el b) i))) (j : Int) =
      if x8.length < 5864062014805 then quartermasterref02_Mul.l0 k (mints a) (mints b) (x8 ++ [ints ((List.range c).map (mulF m (el a) (el b) i))]) (wrap64 ((i : Int) + 1)) else none := by
  intro d
  induction d with
  | zero =>
    intro j k h hk
    obtain ⟨r, _, e, q, _⟩ := hb.row hm0
    rw [Nat.zero_mul, Nat.add_zero, quartermasterref02_Mul.l1, mints_len, hb.1, if_pos (by omega), show rd_L1 (mints b) 0 = (mints b).getD 0 [] from rd_L1_nat _ 0, mints_getD, ints_len, e, q, if_neg (by omega), show j = c by omega]
  | succ d ih =>
    intro j k h hk
    obtain ⟨r, _, e, q, _⟩ := hb.row hm0
    rw [show k + (d + 1) * (m + 2) + 1 = ((k + d * (m + 2) + 1) + m + 1) + 1 by rw [Nat.succ_mul]; omega]
    rw [quartermasterref02_Mul.l1, mints_len, hb.1, if_pos (by omega), show rd_L1 (mints b) 0 = (mints b).getD 0 [] from rd_L1_nat _ 0, mints_getD, ints_len, e, q, if_pos (by omega)]
    have := rmul_l2 ha hb hm hc i j hi (by omega) x8 (ints ((List.range j).map (mulF m (el a) (el b) i))) m 0 (k + d * (m + 2) + 1) (by omega) (by omega)
    rw [show ((sg (fun t => gm (el a i t) (el b t j)) 0 : Nat) : Int) = 0 from rfl, show ((0 : Nat) : Int) = 0 from rfl] at this
    rw [this, if_pos (by rw [ints_len]; simp; omega), w64 (by omega) (by omega), ← succ_cast]
    have h2 := ih (j + 1) k (by omega) hk
    rw [List.range_succ, List.map_append] at h2
    rw [show ints (List.map (mulF m (el a) (el b) i) (List.range j) ++ List.map (mulF m (el a) (el b) i) [j]) = ints (List.map (mulF m (el a) (el b) i) (List.range j)) ++ [((mulF m (el a) (el b) i j : Nat) : Int)] by unfold ints; rw [List.map_append]; rfl] at h2
    exact h2
theorem rmul_l0 {n m c : Nat} {a b : List (List Nat)} (ha : Rect n m a) (hb : Rect m c b) (hn : n ≤ 64) (hm0 : 0 < m) (hm : m ≤ 64) (hc : c ≤ 4096) : ∀ d i k, i + d = n → 200 + d * (c * (m + 2) + 2) < k →
    quartermasterref02_Mul.l0 k (mints a) (mints b) (mints ((grid n c (mulF m (el a) (el b))).take i)) (i : Int) = some (mints (grid n c (mulF m (el a) (el b))), 0) := by
  intro d
  induction d with
  | zero =>
    intro i k h hk
    obtain ⟨k, rfl⟩ : ∃ q, k = q + 1 := ⟨k - 1, by omega⟩
    rw [quartermasterref02_Mul.l0, mints_len, ha.1, if_neg (by omega), List.take_of_length_le (by rw [grid_len]; omega)]
  | succ d ih =>
    intro i k h hk
    obtain ⟨k, rfl⟩ : ∃ q, k = q + 1 := ⟨k - 1, by omega⟩
    rw [Nat.succ_mul] at hk
    rw [quartermasterref02_Mul.l0, mints_len, ha.1, if_pos (by omega)]
    obtain ⟨q, rfl⟩ : ∃ q, k = q + c * (m + 2) + 1 := ⟨k - c * (m + 2) - 1, by omega⟩
    have := rmul_l1 ha hb hm0 hm hc i (by omega) (mints ((grid n c (mulF m (el a) (el b))).take i)) c 0 q (by omega) (by omega)
    rw [show ((0 : Nat) : Int) = 0 from rfl] at this
    rw [show ([] : List Int) = ints ((List.range 0).map (mulF m (el a) (el b) i)) from rfl, this, if_pos (by rw [mints_len, List.length_take]; omega), w64 (by omega) (by omega), ← succ_cast]
    have h2 := ih (i + 1) q (by omega) (by omega)
    rw [grid_take_succ n c _ i (by omega), mints_app] at h2
    exact h2
/-- The document's product is the program's. -/
theorem rmul_f (l0 l1 : List (List Int)) (h0 : okM l0) (h1 : okM l1) (C : Nat) (hC : C ≤ 4096) (hs : (l1.getD 0 []).length ≤ C) {k : Nat} (hk : 1000 + 64 * (C * 66 + 2) ≤ k) : quartermasterref02_Mul.f k l0 l1 = mat_Mul.f l0 l1 := by
  have hok : okM l0 ∧ okM l1 := ⟨h0, h1⟩
  unfold quartermasterref02_Mul.f mat_Mul.f
  rw [rmay_f l0 (by omega), rmay_f l1 (by omega), if_pos hok]
  obtain ⟨k, rfl⟩ : ∃ q, k = q + 1 := ⟨k - 1, by omega⟩
  simp only [Option.bind_some]
  by_cases m0 : mayP l0
  · rw [if_pos (decide_eq_true m0)]
    by_cases m1 : mayP l1
    · have hpos : 0 < (l0.length : Int) := by have := m0.1; omega
      rw [if_pos (decide_eq_true m1), if_pos hpos, show rd_L1 l0 0 = l0.getD 0 [] from rd_L1_nat _ 0, quartermasterref02_Mul.j0]
      by_cases e : (l0.getD 0 []).length = l1.length
      · have hall : mayP l0 ∧ mayP l1 ∧ (l0.getD 0 []).length = l1.length := ⟨m0, m1, e⟩
        rw [if_pos hall, if_neg (by rw [e]; simp)]
        have r0 := mayP_rect m0 h0
        have r1 := mayP_rect m1 h1
        rw [e] at r0
        have hb := m1.1
        rw [mulM_grid r0 r1 hb]
        have := rmul_l0 r0 r1 m0.2.1 m1.1 m1.2.1 (by omega) l0.length 0 k (by omega) (by
          have h64 := m0.2.1
          have x1 : (l1.getD 0 []).length * (l1.length + 2) ≤ C * 66 := Nat.mul_le_mul hs (by have := m1.2.1; omega)
          have x2 : l0.length * ((l1.getD 0 []).length * (l1.length + 2) + 2) ≤ 64 * (C * 66 + 2) := Nat.mul_le_mul h64 (by omega)
          omega)
        rw [mints_mnats h0, mints_mnats h1] at this
        exact this
      · rw [if_pos (bne_iff_ne.2 fun z => e (by omega)), if_neg (fun z => e z.2.2)]
    · rw [if_neg (by simp [m1]), quartermasterref02_Mul.j0, if_pos rfl, if_neg (fun z => m1 z.2.1)]
  · rw [if_neg (by simp [m0]), quartermasterref02_Mul.j0, if_pos rfl, if_neg (fun z => m0 z.1)]
end Go.Proofs.Ythblmkailhdhlaa.Mat
-- PRINTED by print.py (a twelfth state) out of the translation. Not trusted: Lean checks it.
namespace Go.Proofs.Ythblmkailhdhlaa.T
open Go.Proofs.Ythblmkailhdhlaa.G Go.Proofs.Ythblmkailhdhlaa.P Go.Proofs.Ythblmkailhdhlaa.Given Go.RowKit Go.Proofs.YthblmkailhdhlaaW.PrintWords Go.Proofs.YthblmkailhdhlaaW.PrintLast Go.Proofs.YthblmkailhdhlaaW.PrintMore
attribute [local go_sem] max2_int min2_int max_two min_two max_three min_three max_four min_four   -- for this text's walks alone
set_option linter.unusedVariables false
set_option linter.unusedSimpArgs false
/-! ### quartermasterref03_Rows: function 54 -/
def quartermasterref03_Rows.j0 : Nat → Int → Int → Bool → Option ((List (List Int)) × Int)
  | 0, _, _, _ => none
  | k + 1, x0, x1, x29 => if x29 = true then (some (([] : List (List Int)), 1)) else ((quartermasterref02_One.f k x0).bind fun bt163 => (if x1 > 0 then ((quartermasterref02_Cauchy.f k x1 x0).bind fun bt167 => (if bt163.1.length + bt167.1.length < 5864062014805 then (some ((bt163.1 ++ bt167.1), 0)) else (none))) else (some (bt163.1, 0))))
def quartermasterref03_Rows.f (k : Nat) (a0 : Int) (a1 : Int) : Option ((List (List Int)) × Int) := if a0 < 1 then (quartermasterref03_Rows.j0 k a0 a1 true) else (if a1 < 0 then (quartermasterref03_Rows.j0 k a0 a1 true) else (if a0 > 64 then (quartermasterref03_Rows.j0 k a0 a1 true) else (if a1 > 64 then (quartermasterref03_Rows.j0 k a0 a1 true) else (quartermasterref03_Rows.j0 k a0 a1 (decide ((wrap64 (a0 + a1)) > 64))))))
set_option maxHeartbeats 8000000 in
set_option maxRecDepth 100000 in
theorem quartermasterref03_Rows.calls (k : Nat) (a0 : Int) (a1 : Int) (r1 : List (List Int)) (r2 : Int) (w : World) (h : quartermasterref03_Rows.f k a0 a1 = some (r1, r2)) :
    Calls Try.prog 54 #[.int .i64 a0, .int .i64 a1] w fun e w' => ∃ v0_ : Value, e = .returned (.tuple #[v0_, .int .i64 r2]) ∧ Kd.S (Kd.slice 5 (Kd.int .u8)) 43 w' w.heap.size (fun _ => True) v0_ r1 ∧ Below w.heap.size w w' := by
  have HB := Aside0.mk (Below.refl w.heap.size w)
  have H : (if a0 < 1 then (quartermasterref03_Rows.j0 k a0 a1 true) else (if a1 < 0 then (quartermasterref03_Rows.j0 k a0 a1 true) else (if a0 > 64 then (quartermasterref03_Rows.j0 k a0 a1 true) else (if a1 > 64 then (quartermasterref03_Rows.j0 k a0 a1 true) else (quartermasterref03_Rows.j0 k a0 a1 (decide ((wrap64 (a0 + a1)) > 64))))))) = some (r1, r2) := h
  clear h
  have HC3 := Aside0.mk H
  clear H
  go_enter Try.func54, Try.ntmps54
  go_upto_region 1 with (fail)
  go_cut [29] (fun v29 wc => ∃ (kq : Nat) (x29_2 : Bool), v29 = .bool x29_2 ∧ Aside0 (quartermasterref03_Rows.j0 kq a0 a1 x29_2 = some (r1, r2)) ∧ Aside0 (kq ≤ k) ∧ Aside0 (Below w.heap.size w wc))
  case first =>
    have H := HC3.out
    clear HC3
    by_cases c4 : a0 < 1
    · rw [if_pos c4] at H
      have c4b0 : decide (a0 < 1) = true := decide_eq_true c4
      clear c4
      (first | rw [c4b0] | (simp only [i64_w, i32_w]; rw [c4b0]) | skip)
      have H' := Aside0.mk H
      clear H
      go_wp2
      go_meet
      case rel => exact ⟨_, (true), (by first | rfl | (simp; done) | (simp [*]; done)), H', ⟨by first | omega | exact Nat.le_refl _⟩, ⟨by repeat (first | (with_reducible first | exact HB.out | apply below_alloc | apply pw_below_drewN | apply below_drew1) | exact HB.out)⟩⟩
    · rw [if_neg c4] at H
      have c4b0 : decide (a0 < 1) = false := decide_eq_false c4
      clear c4
      (first | rw [c4b0] | (simp only [i64_w, i32_w]; rw [c4b0]) | skip)
      by_cases c5 : a1 < 0
      · rw [if_pos c5] at H
        have c5b0 : decide (a1 < 0) = true := decide_eq_true c5
        clear c5
        have H' := Aside0.mk H
        clear H
        go_wp2
        go_meet
        case rel => exact ⟨_, (true), (by first | rfl | (simp; done) | (simp [*]; done)), H', ⟨by first | omega | exact Nat.le_refl _⟩, ⟨by repeat (first | (with_reducible first | exact HB.out | apply below_alloc | apply pw_below_drewN | apply below_drew1) | exact HB.out)⟩⟩
      · rw [if_neg c5] at H
        have c5b0 : decide (a1 < 0) = false := decide_eq_false c5
        clear c5
        by_cases c6 : a0 > 64
        · rw [if_pos c6] at H
          have c6b0 : decide (64 < a0) = true := decide_eq_true c6
          clear c6
          have H' := Aside0.mk H
          clear H
          go_wp2
          go_meet
          case rel => exact ⟨_, (true), (by first | rfl | (simp; done) | (simp [*]; done)), H', ⟨by first | omega | exact Nat.le_refl _⟩, ⟨by repeat (first | (with_reducible first | exact HB.out | apply below_alloc | apply pw_below_drewN | apply below_drew1) | exact HB.out)⟩⟩
        · rw [if_neg c6] at H
          have c6b0 : decide (64 < a0) = false := decide_eq_false c6
          clear c6
          by_cases c7 : a1 > 64
          · rw [if_pos c7] at H
            have c7b0 : decide (64 < a1) = true := decide_eq_true c7
            clear c7
            have H' := Aside0.mk H
            clear H
            go_wp2
            go_meet
            case rel => exact ⟨_, (true), (by first | rfl | (simp; done) | (simp [*]; done)), H', ⟨by first | omega | exact Nat.le_refl _⟩, ⟨by repeat (first | (with_reducible first | exact HB.out | apply below_alloc | apply pw_below_drewN | apply below_drew1) | exact HB.out)⟩⟩
          · rw [if_neg c7] at H
            have c7b0 : decide (64 < a1) = false := decide_eq_false c7
            clear c7
            have H' := Aside0.mk H
            clear H
            go_wp2
            go_meet
            case rel => exact ⟨_, (decide ((wrap64 (a0 + a1)) > 64)), (by first | rfl | (simp; done) | (simp [*]; done)), H', ⟨by first | omega | exact Nat.le_refl _⟩, ⟨by repeat (first | (with_reducible first | exact HB.out | apply below_alloc | apply pw_below_drewN | apply below_drew1) | exact HB.out)⟩⟩
  case rest =>
    clear HC3
    try clear p2
    try clear c4
    try clear c4b0
    try clear c5
    try clear c5b0
    try clear c6
    try clear c6b0
    try clear p6
    try clear c7
    try clear c7b0
    obtain ⟨kq, x29_2, rfl, HA, HJ2, HB⟩ := hcut
    cases kq with
    | zero => exact absurd HA.out (by simp [quartermasterref03_Rows.j0])
    | succ kj2 =>
      have H := HA.out
      clear HA
      simp only [quartermasterref03_Rows.j0] at H
      by_cases c8 : x29_2 = true
      · subst c8
        have H1 : (some (([] : List (List Int)), 1)) = some (r1, r2) := by rw [if_pos rfl] at H; exact H
        clear H
        have H := H1
        clear H1
        simp only [Option.some.injEq, Prod.mk.injEq] at H
        obtain ⟨rfl, rfl⟩ := H
        go_wp2
        go_ret2
        exact ⟨_, by first | rfl | (simp [errW_none, errW_some] <;> rfl) | (simp [*, errW_none, errW_some] <;> rfl), by first | exact Kd.S_nil _ _ _ _ _ | exact Kd.N_nil _ _ _ _ _ | exact Kd.V_nil _ _ _ _ _ | exact Kd.Q_nil _ _ _ _ _ | exact Kd.R_nil _ _ _ _ _, by repeat (first | (with_reducible first | exact HB.out | apply below_alloc | apply pw_below_drewN | apply below_drew1) | exact HB.out)⟩
      · replace c8 := Bool.eq_false_iff.mpr c8
        subst c8
        have H1 : ((quartermasterref02_One.f kj2 a0).bind fun bt163 => (if a1 > 0 then ((quartermasterref02_Cauchy.f kj2 a1 a0).bind fun bt167 => (if bt163.1.length + bt167.1.length < 5864062014805 then (some ((bt163.1 ++ bt167.1), 0)) else (none))) else (some (bt163.1, 0)))) = some (r1, r2) := by rw [if_neg (show ¬ (false = true) by decide)] at H; exact H
        clear H
        have H := H1
        clear H1
        replace H := Option.bind_eq_some_iff.mp H
        obtain ⟨⟨t163, t164⟩, A90, H⟩ := H
        replace H : (if a1 > 0 then ((quartermasterref02_Cauchy.f kj2 a1 a0).bind fun bt167 => (if t163.length + bt167.1.length < 5864062014805 then (some ((t163 ++ bt167.1), 0)) else (none))) else (some (t163, 0))) = some (r1, r2) := H
        have A9 := Aside0.mk A90
        clear A90
        by_cases c10 : a1 > 0
        · rw [if_pos c10] at H
          have c10b0 : decide (0 < a1) = true := decide_eq_true c10
          clear c10
          replace H := Option.bind_eq_some_iff.mp H
          obtain ⟨⟨t167, t168⟩, A110, H⟩ := H
          replace H : (if t163.length + t167.length < 5864062014805 then (some ((t163 ++ t167), 0)) else (none)) = some (r1, r2) := H
          have A11 := Aside0.mk A110
          clear A110
          by_cases c12 : t163.length + t167.length < 5864062014805
          · rw [if_pos c12] at H
            have LMc12 := Aside0.mk c12
            clear c12
            obtain ⟨y171, hy171⟩ : ∃ y_ : List (List Int), y_ = (t163 ++ t167) := ⟨_, rfl⟩
            replace H : (some (y171, 0)) = some (r1, r2) := by first | (rw [hy171]; with_reducible exact H) | (have H2_ := (Option.bind_some _ _).symm.trans H; rw [hy171]; with_reducible exact H2_) | (have H2_ := (Option.bind_some _ _).symm.trans H; with_reducible exact H2_) | with_reducible exact H | (rw [hy171]; exact H) | exact H
            have Ny171 := Aside0.mk hy171
            clear hy171
            simp only [Option.some.injEq, Prod.mk.injEq] at H
            obtain ⟨rfl, rfl⟩ := H
            go_wp2_with (first | ((with_reducible refine gate_callee (f := 38) rfl ?_); refine goesL_ (some 32) rfl rfl Try.func38 (by kernel_rfl) rfl #[.int .i64 a0] rfl (by (try simp only [List.map_toArray, List.map_cons, List.map_nil]); first | done | rfl | (simp only [List.length_drop, List.length_take]; rfl)) ?_; (with_reducible refine (quartermasterref02_One.calls kj2 a0 t163 t164 _ A9.out).mono ?_); rintro e w13 ⟨v165, rfl, ho0, hb⟩; refine ⟨_, rfl, ?_⟩; have n0_ := Aside0.mk (Kd.S_lower ho0 (below_size (by repeat (first | (with_reducible first | exact HB.out | apply below_alloc | apply pw_below_drewN | apply below_drew1) | exact HB.out)))); have n1_ := Aside0.mk (below_step (by repeat (first | (with_reducible first | exact HB.out | apply below_alloc | apply pw_below_drewN | apply below_drew1) | exact HB.out)) hb); clear HB; have HO166 := n0_; have HB := n1_; clear n0_ n1_; (try clear hb); (try clear hb2); (try clear hk); (try clear hi); (try clear ho0)) | ((with_reducible refine gate_callee (f := 40) rfl ?_); refine goesL_ (some 40) rfl rfl Try.func40 (by kernel_rfl) rfl #[.int .i64 a1, .int .i64 a0] rfl (by (try simp only [List.map_toArray, List.map_cons, List.map_nil]); first | done | rfl | (simp only [List.length_drop, List.length_take]; rfl)) ?_; (with_reducible refine (quartermasterref02_Cauchy.calls kj2 a1 a0 t167 t168 _ A11.out).mono ?_); rintro e w14 ⟨v169, rfl, ho0, hb⟩; refine ⟨_, rfl, ?_⟩; obtain ⟨B0, m0, m1⟩ : ∃ B0, Kd.S (Kd.slice 5 (Kd.int .u8)) 43 _ w.heap.size (fun k => k < B0) _ _ ∧ Kd.S (Kd.slice 5 (Kd.int .u8)) 43 _ w.heap.size (fun k => B0 ≤ k) _ _ := ⟨_, Kd.S_mono (Kd.S_old (by (with_reducible repeat (first | apply Kd.S_alloc | apply Kd.S_drewN | apply Kd.S_drew)); exact HO166.out) hb) (fun _ hk => hk.2), Kd.S_lower (Kd.S_mono (Kd.S_bound ho0) (fun _ hk => hk.2.1)) (below_size (by repeat (first | (with_reducible first | exact HB.out | apply below_alloc | apply pw_below_drewN | apply below_drew1) | exact HB.out)))⟩; have n0_ := Aside0.mk m0; have n1_ := Aside0.mk m1; clear m0 m1; have n2_ := Aside0.mk (below_step (by repeat (first | (with_reducible first | exact HB.out | apply below_alloc | apply pw_below_drewN | apply below_drew1) | exact HB.out)) hb); clear HO166; clear HB; have HO166 := n0_; have HO170 := n1_; have HB := n2_; clear n0_ n1_ n2_; (try clear hb); (try clear hb2); (try clear hk); (try clear hi); (try clear ho0); obtain ⟨Ao16, co16, eo16⟩ := Kd.S_slice HO170.out; subst eo16) | ((with_reducible refine gate_builtin (b := .append) (xs := #[.tmp 43, .tmp 44]) rfl ?_); at_builtin; refine S_append_rows (Kd.slice 5 (Kd.int .u8)) (w0 := w) w.heap.size rfl (.tmp 43) (.tmp 44) 42 43 (.slice none 0 0) 24 rfl Try.underlying42 info43 rfl (by decide) (by omega) v165 t163 t167 Ao16 co16 (fun _ => True) (fun k => B0 ≤ k) rfl rfl ?aO ?aR ?aP (fun _ _ => trivial) ?aB ?aS ?aL ?_; (case aO => exact (by (with_reducible repeat (first | apply Kd.S_alloc | apply Kd.S_drewN | apply Kd.S_drew)); exact Kd.S_mono HO166.out (fun k hk => ⟨trivial, by omega⟩))); (case aR => exact (by (with_reducible repeat (first | apply Kd.S_alloc | apply Kd.S_drewN | apply Kd.S_drew)); exact HO170.out)); (case aP => exact fun k hk => ⟨trivial, fun e => by have := (Kd.S_R HO166.out).1 k e.symm; omega⟩); (case aB => exact (by repeat (first | (with_reducible first | exact HB.out | apply below_alloc | apply pw_below_drewN | apply below_drew1) | exact HB.out))); (case aS => exact (below_size (by repeat (first | (with_reducible first | exact HB.out | apply below_alloc | apply pw_below_drewN | apply below_drew1) | exact HB.out)))); (case aL => have := LMc12.out; omega); intro v172 w15 ho hb hg hat; rw [← Ny171.out] at ho; have n1_ := Aside0.mk (hb); have n2_ := Aside0.mk (ho); clear HB; have HB := n1_; have HO173 := n2_; clear n1_ n2_; clear ho hb hg hat))
            go_ret2
            exact ⟨_, by first | rfl | (simp [errW_none, errW_some] <;> rfl) | (simp [*, errW_none, errW_some] <;> rfl), by (with_reducible repeat (first | apply Kd.S_alloc | apply Kd.S_drewN | apply Kd.S_drew)); exact HO173.out, by repeat (first | (with_reducible first | exact HB.out | apply below_alloc | apply pw_below_drewN | apply below_drew1) | exact HB.out)⟩
          · rw [if_neg c12] at H
            exact absurd H (by simp)
        · rw [if_neg c10] at H
          have c10b0 : decide (0 < a1) = false := decide_eq_false c10
          clear c10
          simp only [Option.some.injEq, Prod.mk.injEq] at H
          obtain ⟨rfl, rfl⟩ := H
          go_wp2_with (first | ((with_reducible refine gate_callee (f := 38) rfl ?_); refine goesL_ (some 32) rfl rfl Try.func38 (by kernel_rfl) rfl #[.int .i64 a0] rfl (by (try simp only [List.map_toArray, List.map_cons, List.map_nil]); first | done | rfl | (simp only [List.length_drop, List.length_take]; rfl)) ?_; (with_reducible refine (quartermasterref02_One.calls kj2 a0 t163 t164 _ A9.out).mono ?_); rintro e w17 ⟨v165, rfl, ho0, hb⟩; refine ⟨_, rfl, ?_⟩; have n0_ := Aside0.mk (Kd.S_lower ho0 (below_size (by repeat (first | (with_reducible first | exact HB.out | apply below_alloc | apply pw_below_drewN | apply below_drew1) | exact HB.out)))); have n1_ := Aside0.mk (below_step (by repeat (first | (with_reducible first | exact HB.out | apply below_alloc | apply pw_below_drewN | apply below_drew1) | exact HB.out)) hb); clear HB; have HO166 := n0_; have HB := n1_; clear n0_ n1_; (try clear hb); (try clear hb2); (try clear hk); (try clear hi); (try clear ho0)))
          go_ret2
          exact ⟨_, by first | rfl | (simp [errW_none, errW_some] <;> rfl) | (simp [*, errW_none, errW_some] <;> rfl), by (with_reducible repeat (first | apply Kd.S_alloc | apply Kd.S_drewN | apply Kd.S_drew)); exact HO166.out, by repeat (first | (with_reducible first | exact HB.out | apply below_alloc | apply pw_below_drewN | apply below_drew1) | exact HB.out)⟩
end Go.Proofs.Ythblmkailhdhlaa.T
-- PRINTED by print.py (a twelfth state) out of the translation. Not trusted: Lean checks it.
namespace Go.Proofs.Ythblmkailhdhlaa.T
open Go.Proofs.Ythblmkailhdhlaa.G Go.Proofs.Ythblmkailhdhlaa.P Go.Proofs.Ythblmkailhdhlaa.Given Go.RowKit Go.Proofs.YthblmkailhdhlaaW.PrintWords Go.Proofs.YthblmkailhdhlaaW.PrintLast Go.Proofs.YthblmkailhdhlaaW.PrintMore
attribute [local go_sem] max2_int min2_int max_two min_two max_three min_three max_four min_four   -- for this text's walks alone
set_option linter.unusedVariables false
set_option linter.unusedSimpArgs false
/-! ### quartermasterref03_Encode: function 52 -/
def quartermasterref03_Encode.j0 : Nat → List (List Int) → Int → List (List Int) → Bool → Option ((List (List Int)) × Int)
  | 0, _, _, _, _ => none
  | k + 1, x0, x1, x7, x23 => if x23 = true then (some (([] : List (List Int)), 1)) else (if x1 = 0 then (some (([] : List (List Int)), 0)) else (if 0 ≤ (x0.length : Int) then (if (x0.length : Int) ≤ (x7.length : Int) then ((quartermasterref02_Mul.f k (x7.drop ((x0.length : Int) : Int).toNat) x0).bind fun bt184 => (some (bt184.1, bt184.2))) else (none)) else (none)))
def quartermasterref03_Encode.f (k : Nat) (l0 : List (List Int)) (a1 : Int) : Option ((List (List Int)) × Int) := (quartermasterref02_May.f k l0).bind fun t174 => ((quartermasterref03_Rows.f k (l0.length : Int) a1).bind fun bt175 => (if t174 = true then (quartermasterref03_Encode.j0 k l0 a1 bt175.1 (bt175.2 != 0)) else (quartermasterref03_Encode.j0 k l0 a1 bt175.1 true)))
set_option maxHeartbeats 8000000 in
set_option maxRecDepth 100000 in
theorem quartermasterref03_Encode.calls (k : Nat) (A0 : Option Addr) (c0 : Nat) (l0 : List (List Int)) (a1 : Int) (r1 : List (List Int)) (r2 : Int) (w : World) (hr0 : Kd.C (Kd.slice 5 (Kd.int .u8)) w A0 l0.length l0) (hc0 : l0.length ≤ c0) (h : quartermasterref03_Encode.f k l0 a1 = some (r1, r2)) :
    Calls Try.prog 52 #[.slice A0 l0.length c0, .int .i64 a1] w fun e w' => ∃ v0_ : Value, e = .returned (.tuple #[v0_, .int .i64 r2]) ∧ Kd.S (Kd.slice 5 (Kd.int .u8)) 43 w' w.heap.size (fun _ => True) v0_ r1 ∧ Below w.heap.size w w' := by
  have HR0 := Aside0.mk hr0
  have HC0 := Aside0.mk hc0
  clear hr0 hc0
  have HB := Aside0.mk (Below.refl w.heap.size w)
  have H : ((quartermasterref02_May.f k l0).bind fun t174 => ((quartermasterref03_Rows.f k (l0.length : Int) a1).bind fun bt175 => (if t174 = true then (quartermasterref03_Encode.j0 k l0 a1 bt175.1 (bt175.2 != 0)) else (quartermasterref03_Encode.j0 k l0 a1 bt175.1 true)))) = some (r1, r2) := h
  clear h
  replace H := Option.bind_eq_some_iff.mp H
  obtain ⟨t174, A30, H⟩ := H
  replace H : ((quartermasterref03_Rows.f k (l0.length : Int) a1).bind fun bt175 => (if t174 = true then (quartermasterref03_Encode.j0 k l0 a1 bt175.1 (bt175.2 != 0)) else (quartermasterref03_Encode.j0 k l0 a1 bt175.1 true))) = some (r1, r2) := H
  have A3 := Aside0.mk A30
  clear A30
  replace H := Option.bind_eq_some_iff.mp H
  obtain ⟨⟨t175, t178⟩, A40, H⟩ := H
  replace H : (if t174 = true then (quartermasterref03_Encode.j0 k l0 a1 t175 (t178 != 0)) else (quartermasterref03_Encode.j0 k l0 a1 t175 true)) = some (r1, r2) := H
  have A4 := Aside0.mk A40
  clear A40
  have HC5 := Aside0.mk H
  clear H
  go_enter Try.func52, Try.ntmps52
  go_upto_region 3 with (first | ((with_reducible refine gate_callee (f := 43) rfl ?_); refine goesL_ (some 10) rfl rfl Try.func43 (by kernel_rfl) rfl #[.slice A0 l0.length c0] rfl (by (try simp only [List.map_toArray, List.map_cons, List.map_nil]); first | done | rfl | (simp only [List.length_drop, List.length_take]; rfl)) ?_; (with_reducible refine (quartermasterref02_May.calls k _ _ l0 t174 _ ?side1 ?side2 A3.out).mono ?_); (case side1 => repeat (first | exact HR0.out | (with_reducible refine Kd.C_alloc ?_ _) | (with_reducible refine Kd.C_drewN ?_ _) | (with_reducible refine Kd.C_drew ?_))); (case side2 => exact HC0.out); rintro e w' ⟨rfl, ⟨nd, rfl⟩⟩; refine ⟨_, rfl, ?_⟩) | ((with_reducible refine gate_callee (f := 54) rfl ?_); refine goesL_ (some 15) rfl rfl Try.func54 (by kernel_rfl) rfl #[.int .i64 (l0.length : Int), .int .i64 a1] rfl (by (try simp only [List.map_toArray, List.map_cons, List.map_nil]); first | done | rfl | (simp only [List.length_drop, List.length_take]; rfl)) ?_; (with_reducible refine (quartermasterref03_Rows.calls k (l0.length : Int) a1 t175 t178 _ A4.out).mono ?_); rintro e w6 ⟨v176, rfl, ho0, hb⟩; refine ⟨_, rfl, ?_⟩; have n0_ := Aside0.mk (Kd.N_lower (Kd.N_mono (ok' := fun k_ => (w.heap.size ≤ k_)) (Kd.S_N (Kd.S_bound ho0)) (fun k_ hk_ => (Nat.le_trans (below_size (by repeat (first | (with_reducible first | exact HB.out | apply below_alloc | apply pw_below_drewN | apply below_drew1) | exact HB.out))) hk_.2.1))) (below_size (by repeat (first | (with_reducible first | exact HB.out | apply below_alloc | apply pw_below_drewN | apply below_drew1) | exact HB.out)))); have n1_ := Aside0.mk (below_step (by repeat (first | (with_reducible first | exact HB.out | apply below_alloc | apply pw_below_drewN | apply below_drew1) | exact HB.out)) hb); clear HB; have HO177 := n0_; have HB := n1_; clear n0_ n1_; (try clear hb); (try clear hb2); (try clear hk); (try clear hi); (try clear ho0)))
  (try simp only [Act.put, List.setIfInBounds_toArray, List.set_cons_zero, List.set_cons_succ])
  go_cut [23] (fun v23 wc => ∃ (kq : Nat) (x23_4 : Bool), v23 = .bool x23_4 ∧ Aside0 (quartermasterref03_Encode.j0 kq l0 a1 t175 x23_4 = some (r1, r2)) ∧ Aside0 (kq ≤ k) ∧ Aside0 (Kd.N (Kd.slice 5 (Kd.int .u8)) 43 wc w.heap.size (fun k_ => (w.heap.size ≤ k_)) v176 t175) ∧ Aside0 (Below w.heap.size w wc))
  case first =>
    have H := HC5.out
    clear HC5
    by_cases c7 : t174 = true
    · subst c7
      have H1 : (quartermasterref03_Encode.j0 k l0 a1 t175 (t178 != 0)) = some (r1, r2) := by rw [if_pos rfl] at H; exact H
      clear H
      have H := H1
      clear H1
      have H' := Aside0.mk H
      clear H
      go_wp2
      go_meet
      case rel => exact ⟨_, ((t178 != 0)), (by first | rfl | (simp; done) | (simp [*]; done)), H', ⟨by first | omega | exact Nat.le_refl _⟩, ⟨by (with_reducible repeat (first | apply Kd.N_alloc | apply Kd.N_drewN | apply Kd.N_drew)); exact HO177.out⟩, ⟨by repeat (first | (with_reducible first | exact HB.out | apply below_alloc | apply pw_below_drewN | apply below_drew1) | exact HB.out)⟩⟩
    · replace c7 := Bool.eq_false_iff.mpr c7
      subst c7
      have H1 : (quartermasterref03_Encode.j0 k l0 a1 t175 true) = some (r1, r2) := by rw [if_neg (show ¬ (false = true) by decide)] at H; exact H
      clear H
      have H := H1
      clear H1
      have H' := Aside0.mk H
      clear H
      go_wp2
      go_meet
      case rel => exact ⟨_, (true), (by first | rfl | (simp; done) | (simp [*]; done)), H', ⟨by first | omega | exact Nat.le_refl _⟩, ⟨by (with_reducible repeat (first | apply Kd.N_alloc | apply Kd.N_drewN | apply Kd.N_drew)); exact HO177.out⟩, ⟨by repeat (first | (with_reducible first | exact HB.out | apply below_alloc | apply pw_below_drewN | apply below_drew1) | exact HB.out)⟩⟩
  case rest =>
    clear HC5
    try clear p2
    try clear c4
    try clear c5
    try clear c7
    obtain ⟨kq, x23_4, rfl, HA, HJ4, HO_7, HB⟩ := hcut
    cases kq with
    | zero => exact absurd HA.out (by simp [quartermasterref03_Encode.j0])
    | succ kj4 =>
      have H := HA.out
      clear HA
      simp only [quartermasterref03_Encode.j0] at H
      by_cases c8 : x23_4 = true
      · subst c8
        have H1 : (some (([] : List (List Int)), 1)) = some (r1, r2) := by rw [if_pos rfl] at H; exact H
        clear H
        have H := H1
        clear H1
        simp only [Option.some.injEq, Prod.mk.injEq] at H
        obtain ⟨rfl, rfl⟩ := H
        go_wp2
        go_ret2
        exact ⟨_, by first | rfl | (simp [errW_none, errW_some] <;> rfl) | (simp [*, errW_none, errW_some] <;> rfl), by first | exact Kd.S_nil _ _ _ _ _ | exact Kd.N_nil _ _ _ _ _ | exact Kd.V_nil _ _ _ _ _ | exact Kd.Q_nil _ _ _ _ _ | exact Kd.R_nil _ _ _ _ _, by repeat (first | (with_reducible first | exact HB.out | apply below_alloc | apply pw_below_drewN | apply below_drew1) | exact HB.out)⟩
      · replace c8 := Bool.eq_false_iff.mpr c8
        subst c8
        have H1 : (if a1 = 0 then (some (([] : List (List Int)), 0)) else (if 0 ≤ (l0.length : Int) then (if (l0.length : Int) ≤ (t175.length : Int) then ((quartermasterref02_Mul.f kj4 (t175.drop ((l0.length : Int) : Int).toNat) l0).bind fun bt184 => (some (bt184.1, bt184.2))) else (none)) else (none))) = some (r1, r2) := by rw [if_neg (show ¬ (false = true) by decide)] at H; exact H
        clear H
        have H := H1
        clear H1
        by_cases c9 : a1 = 0
        · rw [if_pos c9] at H
          have c9b0 : (a1 == 0) = true := beq_iff_eq.mpr c9
          have c9b1 : (a1 != 0) = false := bne_eq_false_iff_eq.mpr c9
          clear c9
          simp only [Option.some.injEq, Prod.mk.injEq] at H
          obtain ⟨rfl, rfl⟩ := H
          go_wp2
          go_ret2
          exact ⟨_, by first | rfl | (simp [errW_none, errW_some] <;> rfl) | (simp [*, errW_none, errW_some] <;> rfl), by first | exact Kd.S_nil _ _ _ _ _ | exact Kd.N_nil _ _ _ _ _ | exact Kd.V_nil _ _ _ _ _ | exact Kd.Q_nil _ _ _ _ _ | exact Kd.R_nil _ _ _ _ _, by repeat (first | (with_reducible first | exact HB.out | apply below_alloc | apply pw_below_drewN | apply below_drew1) | exact HB.out)⟩
        · rw [if_neg c9] at H
          have c9b0 : (a1 == 0) = false := beq_eq_false_iff_ne.mpr c9
          have c9b1 : (a1 != 0) = true := bne_iff_ne.mpr c9
          by_cases c10 : 0 ≤ (l0.length : Int)
          · rw [if_pos c10] at H
            have c10b0 := eq_true c10
            have c10b1 : decide (0 ≤ (l0.length : Int)) = true := decide_eq_true c10
            clear c10
            by_cases c11 : (l0.length : Int) ≤ (t175.length : Int)
            · rw [if_pos c11] at H
              have c11b0 := eq_true c11
              have c11b1 : decide ((l0.length : Int) ≤ (t175.length : Int)) = true := decide_eq_true c11
              clear c11
              obtain ⟨y179, hy179⟩ : ∃ y_ : List (List Int), y_ = (t175.drop ((l0.length : Int) : Int).toNat) := ⟨_, rfl⟩
              replace H : ((quartermasterref02_Mul.f kj4 y179 l0).bind fun bt184 => (some (bt184.1, bt184.2))) = some (r1, r2) := by first | (rw [hy179]; with_reducible exact H) | (have H2_ := (Option.bind_some _ _).symm.trans H; rw [hy179]; with_reducible exact H2_) | (have H2_ := (Option.bind_some _ _).symm.trans H; with_reducible exact H2_) | with_reducible exact H | (rw [hy179]; exact H) | exact H
              have Ny179 := Aside0.mk hy179
              clear hy179
              replace H := Option.bind_eq_some_iff.mp H
              obtain ⟨⟨t184, t185⟩, A120, H⟩ := H
              replace H : (some (t184, t185)) = some (r1, r2) := H
              have A12 := Aside0.mk A120
              clear A120
              simp only [Option.some.injEq, Prod.mk.injEq] at H
              obtain ⟨rfl, rfl⟩ := H
              obtain ⟨Ao14, co14, eo14⟩ := Kd.N_slice HO_7.out
              subst eo14
              have q13 : ((l0.length : Int) : Int) ≤ ((t175.length : Int) : Int) := of_decide_eq_true (by first | (with_reducible assumption) | assumption)
              obtain ⟨i013, hi013, _, hsz13, _⟩ := info_parts info43
              have hroom13 : t175.length ≤ co14 := (Kd.N_reads' HO_7.out).2.1
              have hC13 : Kd.F (Kd.slice 5 (Kd.int .u8)) _ _ Ao14 t175.length t175 := (Kd.V_at (base := w.heap.size) (Kd.N_V HO_7.out)).2.2
              have q013 : (0 : Int) ≤ ((l0.length : Int) : Int) := of_decide_eq_true (by first | (with_reducible assumption) | assumption)
              have hcut13 := cut_from (P := Try.prog) 42 43 .i64 Try.underlying42 hi013 1 hsz13 Ao14 t175.length co14 (l0.length : Int) q013 q13
              have hr13 := Kd.F_cut (m := ((l0.length : Int) : Int).toNat) (c := co14) hC13 (by omega) hroom13
              obtain ⟨A13, hA13⟩ : ∃ A1, A1 = (if co14 = ((l0.length : Int) : Int).toNat then Ao14 else (Ao14 : Option Addr).map (·.add (((l0.length : Int) : Int).toNat * 1))) := ⟨_, rfl⟩
              obtain ⟨c13, hc13⟩ : ∃ c1, c1 = co14 - ((l0.length : Int) : Int).toNat := ⟨_, rfl⟩
              have hy13 : y179.length = t175.length - ((l0.length : Int) : Int).toNat := (by rw [Ny179.out, List.length_drop] <;> omega)
              rw [show (t175).drop ((l0.length : Int) : Int).toNat = y179 from Ny179.out.symm] at hr13
              replace hr13 : Kd.F (Kd.slice 5 (Kd.int .u8)) _ _ A13 y179.length y179 := (by rw [hA13]; exact hr13)
              rw [← hy13, ← hA13, ← hc13] at hcut13
              have HO183 := Aside0.mk (show Kd.V (Kd.slice 5 (Kd.int .u8)) 43 _ w.heap.size _ (.slice A13 y179.length c13) y179 from Kd.V_mk (by rw [hy13, hc13]; exact Nat.sub_le_sub_right hroom13 _) hr13)
              have HC183 := Aside0.mk (show y179.length ≤ c13 from by rw [hy13, hc13]; exact Nat.sub_le_sub_right hroom13 _)
              clear hr13 hC13 hroom13 hi013 hsz13 hc13
              have KY13 := Aside0.mk hy13
              have KA13 := Aside0.mk hA13
              clear hy13 hA13
              replace q13 := eq_true q13
              go_wp2_with (first | ((with_reducible refine gate_callee (f := 47) rfl ?_); refine goesL_ (some 31) rfl rfl Try.func47 (by kernel_rfl) rfl #[.slice A13 y179.length c13, .slice A0 l0.length c0] rfl (by (try simp only [List.map_toArray, List.map_cons, List.map_nil]); first | done | rfl | (simp only [List.length_drop, List.length_take]; rfl)) ?_; (with_reducible refine (quartermasterref02_Mul.calls kj4 _ _ y179 _ _ l0 t184 t185 _ ?side1 ?side2 ?side3 ?side4 A12.out).mono ?_); (case side1 => repeat (first | exact (Kd.V_reads' HO183.out).2.2 | (with_reducible refine Kd.C_alloc ?_ _) | (with_reducible refine Kd.C_drewN ?_ _) | (with_reducible refine Kd.C_drew ?_))); (case side2 => exact (Kd.V_reads' HO183.out).2.1); (case side3 => repeat (first | exact (Kd.C_below HR0.out HB.out) | (with_reducible refine Kd.C_alloc ?_ _) | (with_reducible refine Kd.C_drewN ?_ _) | (with_reducible refine Kd.C_drew ?_))); (case side4 => exact HC0.out); rintro e w15 ⟨v186, rfl, ho0, hb⟩; refine ⟨_, rfl, ?_⟩; have n0_ := Aside0.mk (Kd.N_elder' (by (with_reducible repeat (first | apply Kd.N_alloc | apply Kd.N_drewN | apply Kd.N_drew)); exact HO_7.out) (by first | exact Kd.N_base ho0 | exact Kd.N_base (Kd.S_N ho0)) hb); have n1_ := Aside0.mk (Kd.V_elder' (by (with_reducible repeat (first | apply Kd.V_alloc | apply Kd.V_drewN | apply Kd.V_drew)); exact HO183.out) (by first | exact Kd.N_base ho0 | exact Kd.N_base (Kd.S_N ho0)) hb); have n2_ := Aside0.mk (Kd.S_lower ho0 (below_size (by repeat (first | (with_reducible first | exact HB.out | apply below_alloc | apply pw_below_drewN | apply below_drew1) | exact HB.out)))); have n3_ := Aside0.mk (below_step (by repeat (first | (with_reducible first | exact HB.out | apply below_alloc | apply pw_below_drewN | apply below_drew1) | exact HB.out)) hb); clear HO_7; clear HO183; clear HB; have HO_7 := n0_; have HO183 := n1_; have HO187 := n2_; have HB := n3_; clear n0_ n1_ n2_ n3_; (try clear hb); (try clear hb2); (try clear hk); (try clear hi); (try clear ho0)))
              go_ret2
              exact ⟨_, by first | rfl | (simp [errW_none, errW_some] <;> rfl) | (simp [*, errW_none, errW_some] <;> rfl), by (with_reducible repeat (first | apply Kd.S_alloc | apply Kd.S_drewN | apply Kd.S_drew)); exact HO187.out, by repeat (first | (with_reducible first | exact HB.out | apply below_alloc | apply pw_below_drewN | apply below_drew1) | exact HB.out)⟩
            · rw [if_neg c11] at H
              exact absurd H (by simp)
          · rw [if_neg c10] at H
            exact absurd H (by simp)
-- NOT PRINTED: function 16 (quartermasterlaw03_RsEncodes)
-- NOT PRINTED: function 76 (quartermasterref03_solved)
-- NOT PRINTED: function 56 (quartermasterref03_Decode)
-- NOT PRINTED: function 17 (quartermasterlaw03_RsDecodes)
-- NOT PRINTED: function 18 (quartermasterlaw03_RsBack)
-- NOT PRINTED: function 19 (quartermasterlaw03_RsParts)
-- NOT PRINTED: function 20 (quartermasterlaw03_RsOwn)
-- NOT PRINTED: function 21 (quartermasterlaw03_RsAny)
-- NOT PRINTED: function 22 (quartermasterlaw03_RsSums)
end Go.Proofs.Ythblmkailhdhlaa.T
/- The document's rows and shares are the program's. -/
namespace Go.Proofs.Ythblmkailhdhlaa.Mat
set_option linter.unusedVariables false
open Go.RowKit Go.Proofs.Ythblmkailhdhlaa.F Go.Proofs.Ythblmkailhdhlaa.R Go.Proofs.Ythblmkailhdhlaa.G Go.Proofs.Ythblmkailhdhlaa.P Go.Proofs.Ythblmkailhdhlaa.Given Go.Proofs.Ythblmkailhdhlaa.Gf Go.Proofs.YthblmkailhdhlaaW.PrintWords
theorem rref_rows {k m : Int} (hk : -9223372036854775808 ≤ k ∧ k ≤ 9223372036854775807) (hm : -9223372036854775808 ≤ m ∧ m ≤ 9223372036854775807) {q : Nat} (hq : 5000 ≤ q) :
    T.quartermasterref03_Rows.f q k m = T.rs_Rows.f q k m := by
  obtain ⟨q, rfl⟩ : ∃ p, q = p + 1 := ⟨q - 1, by omega⟩
  have jt : T.quartermasterref03_Rows.j0 (q + 1) k m true = some ([], 1) := by rw [T.quartermasterref03_Rows.j0, if_pos rfl]
  by_cases g : 1 ≤ k ∧ 0 ≤ m ∧ k + m ≤ 64
  · obtain ⟨k', rfl⟩ := Int.eq_ofNat_of_zero_le (show 0 ≤ k by omega)
    obtain ⟨m', rfl⟩ := Int.eq_ofNat_of_zero_le g.2.1
    rw [rrows_good (by omega) (by omega)]
    unfold T.quartermasterref03_Rows.f
    rw [if_neg (by omega), if_neg (by omega), if_neg (by omega), if_neg (by omega), w64 (by omega) (by omega), decide_eq_false (by omega), T.quartermasterref03_Rows.j0, if_neg (by decide), rone_f _ (by omega), one_f (by omega), Option.bind_some]
    by_cases z : m' = 0
    · subst z
      rw [if_neg (by omega), ← all_gridM, show mints (grid 0 k' (cauAt k')) = [] from rfl, List.append_nil]
    · rw [if_pos (by omega), rcau_f _ _ (by omega), cau_f (by omega) (by omega), Option.bind_some, if_pos (by simp only [mints_len, grid_len]; omega)]
      show some (mints (grid k' k' oneAt) ++ mints (grid m' k' (cauAt k')), (0 : Int)) = _
      rw [all_gridM]
  · rw [rrows_bad g]
    unfold T.quartermasterref03_Rows.f
    by_cases g1 : k < 1
    · rw [if_pos g1, jt]
    · rw [if_neg g1]
      by_cases g2 : m < 0
      · rw [if_pos g2, jt]
      · rw [if_neg g2]
        by_cases g3 : k > 64
        · rw [if_pos g3, jt]
        · rw [if_neg g3]
          by_cases g4 : m > 64
          · rw [if_pos g4, jt]
          · rw [if_neg g4, w64 (by omega) (by omega), decide_eq_true (by omega), jt]
theorem rref_enc {d : List (List Int)} (hd : okM d) (hl : d.length ≤ 1000) (hs : (d.getD 0 []).length ≤ 40) {m : Int} (hm : -9223372036854775808 ≤ m ∧ m ≤ 9223372036854775807) {q : Nat} (hq : 200000 ≤ q) :
    T.quartermasterref03_Encode.f q d m = T.rs_Encode.f q d m := by
  obtain ⟨q, rfl⟩ : ∃ p, q = p + 1 := ⟨q - 1, by omega⟩
  have jt : ∀ x, T.quartermasterref03_Encode.j0 (q + 1) d m x true = some ([], 1) := fun x => by rw [T.quartermasterref03_Encode.j0, if_pos rfl]
  have ht : ∀ x, T.rs_Encode.j0 (q + 1) d m x true = some ([], 1) := fun x => by rw [T.rs_Encode.j0, if_pos rfl]
  unfold T.quartermasterref03_Encode.f T.rs_Encode.f
  rw [rref_rows (by omega) hm (by omega), rmay_f d (by omega), Option.bind_some]
  by_cases g : 1 ≤ (d.length : Int) ∧ 0 ≤ m ∧ (d.length : Int) + m ≤ 64
  · obtain ⟨m', rfl⟩ := Int.eq_ofNat_of_zero_le g.2.1
    rw [rrows_good (by omega) (by omega), Option.bind_some, Option.bind_some, if_pos rfl, may_f d (by omega), Option.bind_some]
    by_cases c : mayP d
    · rw [decide_eq_true c, if_pos rfl]
      show T.quartermasterref03_Encode.j0 (q + 1) d (m' : Int) _ false = T.rs_Encode.j0 (q + 1) d (m' : Int) _ false
      rw [T.quartermasterref03_Encode.j0, T.rs_Encode.j0, if_neg (show ¬ (false = true) by decide), if_neg (show ¬ (false = true) by decide)]
      by_cases z : (m' : Int) = 0
      · rw [if_pos z, if_pos z]
      · have h0 : (0 : Int) ≤ (d.length : Int) := by omega
        have h1 : (d.length : Int) ≤ (((mints (grid (d.length + m') d.length (allAt d.length)), (0 : Int)).1.length : Nat) : Int) := by
          show (d.length : Int) ≤ (((mints (grid (d.length + m') d.length (allAt d.length))).length : Nat) : Int)
          rw [mints_len, grid_len]; omega
        rw [if_neg z, if_neg z, if_pos h0, if_pos h1, if_pos h0, if_pos h1]
        have hb : okM ((mints (grid (d.length + m') d.length (allAt d.length))).drop ((d.length : Int)).toNat) := by
          intro r hr
          exact okM_mints (allAt_rect _ _).bytes r (List.mem_of_mem_drop hr)
        rw [rmul_f _ d hb hd 40 (by omega) hs (by omega)]
    · rw [decide_eq_false c, if_neg (by decide), jt]
      exact (ht _).symm
  · rw [rrows_bad g, Option.bind_some, Option.bind_some, if_neg (show ¬ (((([] : List (List Int)), (1 : Int)).2) = 0) by decide), ht]
    by_cases c : mayP d
    · rw [decide_eq_true c, if_pos rfl]
      exact jt _
    · rw [decide_eq_false c, if_neg (by decide), jt]
end Go.Proofs.Ythblmkailhdhlaa.Mat
