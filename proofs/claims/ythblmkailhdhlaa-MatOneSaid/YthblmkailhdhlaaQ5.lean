-- PRINTED by print.py (a twelfth state) out of the translation. Not trusted: Lean checks it.
import Derived.Test.YthblmkailhdhlaaQ0
namespace Go.Proofs.Ythblmkailhdhlaa.Q
open Go.Proofs.Ythblmkailhdhlaa.G Go.Proofs.Ythblmkailhdhlaa.P Go.Proofs.Ythblmkailhdhlaa.Given Go.RowKit Go.Proofs.YthblmkailhdhlaaW.PrintWords Go.Proofs.YthblmkailhdhlaaW.PrintLast Go.Proofs.YthblmkailhdhlaaW.PrintMore
attribute [local go_sem] max2_int min2_int max_two min_two max_three min_three max_four min_four   -- for this text's walks alone
set_option linter.unusedVariables false
set_option linter.unusedSimpArgs false

/-! ### quartermasterlaw02_MatOne: function 15 -/
mutual
def quartermasterlaw02_MatOne.j0 : Nat → List (List Int) → Int → Int → Bool → Bool → Bool → Option (Bool)
  | 0, _, _, _, _, _, _ => none
  | k + 1, x0, x1, x2, x7, x9, x47 => if x47 = true then (some x7) else (if x9 = true then ((mat_One.f (x0.length : Int)).bind fun bt189 => ((mat_Mul.f bt189.1 x0).bind fun bt193 => ((quartermasterref02_Same.f k bt193.1 x0).bind fun t197 => (if bt193.2 = 0 then (if t197 = true then (quartermasterlaw02_MatOne.j1 k x1 x2) else (some false)) else (some false))))) else (quartermasterlaw02_MatOne.j1 k x1 x2))
def quartermasterlaw02_MatOne.j1 : Nat → Int → Int → Option (Bool)
  | 0, _, _ => none
  | k + 1, x1, x2 => (mat_Cauchy.f x1 x2).bind fun bt198 => ((mat_Cauchy.f (wrap64 (x1 + 1)) x2).bind fun bt202 => (if bt198.2 = 0 then (if bt202.2 = 0 then (quartermasterlaw02_MatOne.j2 k x1 bt198.1 bt202.1 ((bt202.1.length : Int) != (wrap64 (x1 + 1)))) else (quartermasterlaw02_MatOne.j2 k x1 bt198.1 bt202.1 true)) else (quartermasterlaw02_MatOne.j2 k x1 bt198.1 bt202.1 true)))
def quartermasterlaw02_MatOne.j2 : Nat → Int → List (List Int) → List (List Int) → Bool → Option (Bool)
  | 0, _, _, _, _ => none
  | k + 1, x1, x15, x17, x96 => if x96 = true then (some false) else (quartermasterlaw02_MatOne.l0 k x1 x15 x17 0)
def quartermasterlaw02_MatOne.l0 : Nat → Int → List (List Int) → List (List Int) → Int → Option (Bool)
  | 0, _, _, _, _ => none
  | k + 1, x1, x15, x17, x19 => if x19 < (x17.length : Int) then (quartermasterlaw02_MatOne.l1 k x1 x15 x17 x19 0) else (if 0 ≤ x1 then (if x1 ≤ (x17.length : Int) then ((quartermasterref02_Same.f k x15 (x17.take (x1 : Int).toNat)).bind fun t210 => (some t210)) else (none)) else (none))
def quartermasterlaw02_MatOne.l1 : Nat → Int → List (List Int) → List (List Int) → Int → Int → Option (Bool)
  | 0, _, _, _, _, _ => none
  | k + 1, x1, x15, x17, x19, x20 => if 0 ≤ x19 then (if x19 < (x17.length : Int) then (if x20 < ((rd_L1 x17 x19).length : Int) then (if 0 ≤ x20 then (if (rd (rd_L1 x17 x19) x20) = 0 then (some false) else (quartermasterlaw02_MatOne.l1 k x1 x15 x17 x19 (wrap64 (x20 + 1)))) else (none)) else (quartermasterlaw02_MatOne.l0 k x1 x15 x17 (wrap64 (x19 + 1)))) else (none)) else (none)
end
def quartermasterlaw02_MatOne.f (k : Nat) (l0 : List (List Int)) (a1 : Int) (a2 : Int) : Option (Bool) := (quartermasterlaw02_awake.f).bind fun t186 => ((quartermasterref02_Few.f k l0 10).bind fun t187 => ((quartermasterref02_May.f k l0).bind fun t188 => (if t186 = true then (if t187 = true then (if a1 < 1 then (quartermasterlaw02_MatOne.j0 k l0 a1 a2 t186 t188 true) else (if a1 > 10 then (quartermasterlaw02_MatOne.j0 k l0 a1 a2 t186 t188 true) else (if a2 < 1 then (quartermasterlaw02_MatOne.j0 k l0 a1 a2 t186 t188 true) else (quartermasterlaw02_MatOne.j0 k l0 a1 a2 t186 t188 (decide (a2 > 10)))))) else (quartermasterlaw02_MatOne.j0 k l0 a1 a2 t186 t188 true)) else (quartermasterlaw02_MatOne.j0 k l0 a1 a2 t186 t188 true))))
theorem quartermasterlaw02_MatOne.mono_l : ∀ k, (∀ y0 y1 y2 y3 y4 y5, LeO (quartermasterlaw02_MatOne.j0 k y0 y1 y2 y3 y4 y5) (quartermasterlaw02_MatOne.j0 (k + 1) y0 y1 y2 y3 y4 y5)) ∧ (∀ y0 y1, LeO (quartermasterlaw02_MatOne.j1 k y0 y1) (quartermasterlaw02_MatOne.j1 (k + 1) y0 y1)) ∧ (∀ y0 y1 y2 y3, LeO (quartermasterlaw02_MatOne.j2 k y0 y1 y2 y3) (quartermasterlaw02_MatOne.j2 (k + 1) y0 y1 y2 y3)) ∧ (∀ y0 y1 y2 y3, LeO (quartermasterlaw02_MatOne.l0 k y0 y1 y2 y3) (quartermasterlaw02_MatOne.l0 (k + 1) y0 y1 y2 y3)) ∧ (∀ y0 y1 y2 y3 y4, LeO (quartermasterlaw02_MatOne.l1 k y0 y1 y2 y3 y4) (quartermasterlaw02_MatOne.l1 (k + 1) y0 y1 y2 y3 y4))
  | 0 => ⟨fun _ _ _ _ _ _ r h => by simp [quartermasterlaw02_MatOne.j0] at h, fun _ _ r h => by simp [quartermasterlaw02_MatOne.j1] at h, fun _ _ _ _ r h => by simp [quartermasterlaw02_MatOne.j2] at h, fun _ _ _ _ r h => by simp [quartermasterlaw02_MatOne.l0] at h, fun _ _ _ _ _ r h => by simp [quartermasterlaw02_MatOne.l1] at h⟩
  | k + 1 => by
    obtain ⟨ih0, ih1, ih2, ih3, ih4⟩ := quartermasterlaw02_MatOne.mono_l k
    refine ⟨?_, ?_, ?_, ?_, ?_⟩
    · intro y0 y1 y2 y3 y4 y5
      unfold quartermasterlaw02_MatOne.j0
      repeat' first
      | (with_reducible exact ih0 _ _ _ _ _ _)
      | (with_reducible exact ih1 _ _)
      | (with_reducible exact ih2 _ _ _ _)
      | (with_reducible exact ih3 _ _ _ _)
      | (with_reducible exact ih4 _ _ _ _ _)
      | (with_reducible exact quartermasterref02_Few.mono _ _ _)
      | (with_reducible exact quartermasterref02_May.mono _ _)
      | (with_reducible exact quartermasterref02_Same.mono _ _ _)
      | (with_reducible exact LeO.refl _)
      | (with_reducible exact LeO.none _)
      | (with_reducible refine LeO.ite ?_ ?_)
      | (with_reducible refine LeO.bind ?_ (fun _ => ?_))
      | exact ih0 _ _ _ _ _ _
      | exact ih1 _ _
      | exact ih2 _ _ _ _
      | exact ih3 _ _ _ _
      | exact ih4 _ _ _ _ _
      | exact quartermasterref02_Few.mono _ _ _
      | exact quartermasterref02_May.mono _ _
      | exact quartermasterref02_Same.mono _ _ _
      | exact LeO.none _
      | refine LeO.ite ?_ ?_
      | refine LeO.bind ?_ (fun _ => ?_)
    · intro y0 y1
      unfold quartermasterlaw02_MatOne.j1
      repeat' first
      | (with_reducible exact ih0 _ _ _ _ _ _)
      | (with_reducible exact ih1 _ _)
      | (with_reducible exact ih2 _ _ _ _)
      | (with_reducible exact ih3 _ _ _ _)
      | (with_reducible exact ih4 _ _ _ _ _)
      | (with_reducible exact quartermasterref02_Few.mono _ _ _)
      | (with_reducible exact quartermasterref02_May.mono _ _)
      | (with_reducible exact quartermasterref02_Same.mono _ _ _)
      | (with_reducible exact LeO.refl _)
      | (with_reducible exact LeO.none _)
      | (with_reducible refine LeO.ite ?_ ?_)
      | (with_reducible refine LeO.bind ?_ (fun _ => ?_))
      | exact ih0 _ _ _ _ _ _
      | exact ih1 _ _
      | exact ih2 _ _ _ _
      | exact ih3 _ _ _ _
      | exact ih4 _ _ _ _ _
      | exact quartermasterref02_Few.mono _ _ _
      | exact quartermasterref02_May.mono _ _
      | exact quartermasterref02_Same.mono _ _ _
      | exact LeO.none _
      | refine LeO.ite ?_ ?_
      | refine LeO.bind ?_ (fun _ => ?_)
    · intro y0 y1 y2 y3
      unfold quartermasterlaw02_MatOne.j2
      repeat' first
      | (with_reducible exact ih0 _ _ _ _ _ _)
      | (with_reducible exact ih1 _ _)
      | (with_reducible exact ih2 _ _ _ _)
      | (with_reducible exact ih3 _ _ _ _)
      | (with_reducible exact ih4 _ _ _ _ _)
      | (with_reducible exact quartermasterref02_Few.mono _ _ _)
      | (with_reducible exact quartermasterref02_May.mono _ _)
      | (with_reducible exact quartermasterref02_Same.mono _ _ _)
      | (with_reducible exact LeO.refl _)
      | (with_reducible exact LeO.none _)
      | (with_reducible refine LeO.ite ?_ ?_)
      | (with_reducible refine LeO.bind ?_ (fun _ => ?_))
      | exact ih0 _ _ _ _ _ _
      | exact ih1 _ _
      | exact ih2 _ _ _ _
      | exact ih3 _ _ _ _
      | exact ih4 _ _ _ _ _
      | exact quartermasterref02_Few.mono _ _ _
      | exact quartermasterref02_May.mono _ _
      | exact quartermasterref02_Same.mono _ _ _
      | exact LeO.none _
      | refine LeO.ite ?_ ?_
      | refine LeO.bind ?_ (fun _ => ?_)
    · intro y0 y1 y2 y3
      unfold quartermasterlaw02_MatOne.l0
      repeat' first
      | (with_reducible exact ih0 _ _ _ _ _ _)
      | (with_reducible exact ih1 _ _)
      | (with_reducible exact ih2 _ _ _ _)
      | (with_reducible exact ih3 _ _ _ _)
      | (with_reducible exact ih4 _ _ _ _ _)
      | (with_reducible exact quartermasterref02_Few.mono _ _ _)
      | (with_reducible exact quartermasterref02_May.mono _ _)
      | (with_reducible exact quartermasterref02_Same.mono _ _ _)
      | (with_reducible exact LeO.refl _)
      | (with_reducible exact LeO.none _)
      | (with_reducible refine LeO.ite ?_ ?_)
      | (with_reducible refine LeO.bind ?_ (fun _ => ?_))
      | exact ih0 _ _ _ _ _ _
      | exact ih1 _ _
      | exact ih2 _ _ _ _
      | exact ih3 _ _ _ _
      | exact ih4 _ _ _ _ _
      | exact quartermasterref02_Few.mono _ _ _
      | exact quartermasterref02_May.mono _ _
      | exact quartermasterref02_Same.mono _ _ _
      | exact LeO.none _
      | refine LeO.ite ?_ ?_
      | refine LeO.bind ?_ (fun _ => ?_)
    · intro y0 y1 y2 y3 y4
      unfold quartermasterlaw02_MatOne.l1
      repeat' first
      | (with_reducible exact ih0 _ _ _ _ _ _)
      | (with_reducible exact ih1 _ _)
      | (with_reducible exact ih2 _ _ _ _)
      | (with_reducible exact ih3 _ _ _ _)
      | (with_reducible exact ih4 _ _ _ _ _)
      | (with_reducible exact quartermasterref02_Few.mono _ _ _)
      | (with_reducible exact quartermasterref02_May.mono _ _)
      | (with_reducible exact quartermasterref02_Same.mono _ _ _)
      | (with_reducible exact LeO.refl _)
      | (with_reducible exact LeO.none _)
      | (with_reducible refine LeO.ite ?_ ?_)
      | (with_reducible refine LeO.bind ?_ (fun _ => ?_))
      | exact ih0 _ _ _ _ _ _
      | exact ih1 _ _
      | exact ih2 _ _ _ _
      | exact ih3 _ _ _ _
      | exact ih4 _ _ _ _ _
      | exact quartermasterref02_Few.mono _ _ _
      | exact quartermasterref02_May.mono _ _
      | exact quartermasterref02_Same.mono _ _ _
      | exact LeO.none _
      | refine LeO.ite ?_ ?_
      | refine LeO.bind ?_ (fun _ => ?_)
theorem quartermasterlaw02_MatOne.mono : ∀ a0 a1 a2 k, LeO (quartermasterlaw02_MatOne.f k a0 a1 a2) (quartermasterlaw02_MatOne.f (k + 1) a0 a1 a2) := by
  intro a0 a1 a2 k
  obtain ⟨ih0, ih1, ih2, ih3, ih4⟩ := quartermasterlaw02_MatOne.mono_l k
  unfold quartermasterlaw02_MatOne.f
  repeat' first
      | (with_reducible exact ih0 _ _ _ _ _ _)
      | (with_reducible exact ih1 _ _)
      | (with_reducible exact ih2 _ _ _ _)
      | (with_reducible exact ih3 _ _ _ _)
      | (with_reducible exact ih4 _ _ _ _ _)
      | (with_reducible exact quartermasterref02_Few.mono _ _ _)
      | (with_reducible exact quartermasterref02_May.mono _ _)
      | (with_reducible exact quartermasterref02_Same.mono _ _ _)
      | (with_reducible exact LeO.refl _)
      | (with_reducible exact LeO.none _)
      | (with_reducible refine LeO.ite ?_ ?_)
      | (with_reducible refine LeO.bind ?_ (fun _ => ?_))
      | exact ih0 _ _ _ _ _ _
      | exact ih1 _ _
      | exact ih2 _ _ _ _
      | exact ih3 _ _ _ _
      | exact ih4 _ _ _ _ _
      | exact quartermasterref02_Few.mono _ _ _
      | exact quartermasterref02_May.mono _ _
      | exact quartermasterref02_Same.mono _ _ _
      | exact LeO.none _
      | refine LeO.ite ?_ ?_
      | refine LeO.bind ?_ (fun _ => ?_)
set_option maxHeartbeats 8000000 in
set_option maxRecDepth 100000 in
theorem quartermasterlaw02_MatOne.calls (k : Nat) (A0 : Option Addr) (c0 : Nat) (l0 : List (List Int)) (a1 : Int) (a2 : Int) (r : Bool) (w : World) (hr0 : Kd.C (Kd.slice 5 (Kd.int .u8)) w A0 l0.length l0) (hc0 : l0.length ≤ c0) (h : quartermasterlaw02_MatOne.f k l0 a1 a2 = some r) :
    Calls Try.prog 15 #[.slice A0 l0.length c0, .int .i64 a1, .int .i64 a2] w fun e w' => e = .returned (.bool r) ∧ Below w.heap.size w w' := by
  have HR0 := Aside0.mk hr0
  have HC0 := Aside0.mk hc0
  clear hr0 hc0
  have HB := Aside0.mk (Below.refl w.heap.size w)
  have H : ((quartermasterlaw02_awake.f).bind fun t186 => ((quartermasterref02_Few.f k l0 10).bind fun t187 => ((quartermasterref02_May.f k l0).bind fun t188 => (if t186 = true then (if t187 = true then (if a1 < 1 then (quartermasterlaw02_MatOne.j0 k l0 a1 a2 t186 t188 true) else (if a1 > 10 then (quartermasterlaw02_MatOne.j0 k l0 a1 a2 t186 t188 true) else (if a2 < 1 then (quartermasterlaw02_MatOne.j0 k l0 a1 a2 t186 t188 true) else (quartermasterlaw02_MatOne.j0 k l0 a1 a2 t186 t188 (decide (a2 > 10)))))) else (quartermasterlaw02_MatOne.j0 k l0 a1 a2 t186 t188 true)) else (quartermasterlaw02_MatOne.j0 k l0 a1 a2 t186 t188 true))))) = some r := h
  clear h
  replace H := Option.bind_eq_some_iff.mp H
  obtain ⟨t186, A40, H⟩ := H
  replace H : ((quartermasterref02_Few.f k l0 10).bind fun t187 => ((quartermasterref02_May.f k l0).bind fun t188 => (if t186 = true then (if t187 = true then (if a1 < 1 then (quartermasterlaw02_MatOne.j0 k l0 a1 a2 t186 t188 true) else (if a1 > 10 then (quartermasterlaw02_MatOne.j0 k l0 a1 a2 t186 t188 true) else (if a2 < 1 then (quartermasterlaw02_MatOne.j0 k l0 a1 a2 t186 t188 true) else (quartermasterlaw02_MatOne.j0 k l0 a1 a2 t186 t188 (decide (a2 > 10)))))) else (quartermasterlaw02_MatOne.j0 k l0 a1 a2 t186 t188 true)) else (quartermasterlaw02_MatOne.j0 k l0 a1 a2 t186 t188 true)))) = some r := H
  have A4 := Aside0.mk A40
  clear A40
  replace H := Option.bind_eq_some_iff.mp H
  obtain ⟨t187, A50, H⟩ := H
  replace H : ((quartermasterref02_May.f k l0).bind fun t188 => (if t186 = true then (if t187 = true then (if a1 < 1 then (quartermasterlaw02_MatOne.j0 k l0 a1 a2 t186 t188 true) else (if a1 > 10 then (quartermasterlaw02_MatOne.j0 k l0 a1 a2 t186 t188 true) else (if a2 < 1 then (quartermasterlaw02_MatOne.j0 k l0 a1 a2 t186 t188 true) else (quartermasterlaw02_MatOne.j0 k l0 a1 a2 t186 t188 (decide (a2 > 10)))))) else (quartermasterlaw02_MatOne.j0 k l0 a1 a2 t186 t188 true)) else (quartermasterlaw02_MatOne.j0 k l0 a1 a2 t186 t188 true))) = some r := H
  have A5 := Aside0.mk A50
  clear A50
  replace H := Option.bind_eq_some_iff.mp H
  obtain ⟨t188, A60, H⟩ := H
  replace H : (if t186 = true then (if t187 = true then (if a1 < 1 then (quartermasterlaw02_MatOne.j0 k l0 a1 a2 t186 t188 true) else (if a1 > 10 then (quartermasterlaw02_MatOne.j0 k l0 a1 a2 t186 t188 true) else (if a2 < 1 then (quartermasterlaw02_MatOne.j0 k l0 a1 a2 t186 t188 true) else (quartermasterlaw02_MatOne.j0 k l0 a1 a2 t186 t188 (decide (a2 > 10)))))) else (quartermasterlaw02_MatOne.j0 k l0 a1 a2 t186 t188 true)) else (quartermasterlaw02_MatOne.j0 k l0 a1 a2 t186 t188 true)) = some r := H
  have A6 := Aside0.mk A60
  clear A60
  have HC7 := Aside0.mk H
  clear H
  go_enter Try.func15, Try.ntmps15
  go_upto_region 4 with (first | ((with_reducible refine gate_callee (f := 36) rfl ?_); refine goesL_ (some 21) rfl rfl Try.func36 (by kernel_rfl) rfl #[] rfl (by (try simp only [List.map_toArray, List.map_cons, List.map_nil]); first | done | rfl | (simp only [List.length_drop, List.length_take]; rfl)) ?_; (with_reducible refine (quartermasterlaw02_awake.calls  t186 _ A4.out).mono ?_); rintro e w8 ⟨rfl, hb⟩; refine ⟨_, rfl, ?_⟩; have n0_ := Aside0.mk (below_step (by repeat (first | (with_reducible first | exact HB.out | apply below_alloc | apply pw_below_drewN | apply below_drew1) | exact HB.out)) hb); clear HB; have HB := n0_; clear n0_; (try clear hb); (try clear hb2); (try clear hk); (try clear hi)) | ((with_reducible refine gate_callee (f := 44) rfl ?_); refine goesL_ (some 23) rfl rfl Try.func44 (by kernel_rfl) rfl #[.slice A0 l0.length c0, .int .i64 10] rfl (by (try simp only [List.map_toArray, List.map_cons, List.map_nil]); first | done | rfl | (simp only [List.length_drop, List.length_take]; rfl)) ?_; (with_reducible refine (quartermasterref02_Few.calls k _ _ l0 10 t187 _ ?side1 ?side2 A5.out).mono ?_); (case side1 => repeat (first | exact (Kd.C_below HR0.out HB.out) | (with_reducible refine Kd.C_alloc ?_ _) | (with_reducible refine Kd.C_drewN ?_ _) | (with_reducible refine Kd.C_drew ?_))); (case side2 => exact HC0.out); rintro e w' ⟨rfl, ⟨nd, rfl⟩⟩; refine ⟨_, rfl, ?_⟩) | ((with_reducible refine gate_callee (f := 43) rfl ?_); refine goesL_ (some 25) rfl rfl Try.func43 (by kernel_rfl) rfl #[.slice A0 l0.length c0] rfl (by (try simp only [List.map_toArray, List.map_cons, List.map_nil]); first | done | rfl | (simp only [List.length_drop, List.length_take]; rfl)) ?_; (with_reducible refine (quartermasterref02_May.calls k _ _ l0 t188 _ ?side1 ?side2 A6.out).mono ?_); (case side1 => repeat (first | exact (Kd.C_below HR0.out (by repeat (first | (with_reducible first | exact HB.out | apply below_alloc | apply pw_below_drewN | apply below_drew1) | exact HB.out))) | (with_reducible refine Kd.C_alloc ?_ _) | (with_reducible refine Kd.C_drewN ?_ _) | (with_reducible refine Kd.C_drew ?_))); (case side2 => exact HC0.out); rintro e w' ⟨rfl, ⟨nd, rfl⟩⟩; refine ⟨_, rfl, ?_⟩))
  (try simp only [Act.put, List.setIfInBounds_toArray, List.set_cons_zero, List.set_cons_succ])
  go_cut [47] (fun v47 wc => ∃ (kq : Nat) (x47_6 : Bool), v47 = .bool x47_6 ∧ Aside0 (quartermasterlaw02_MatOne.j0 kq l0 a1 a2 t186 t188 x47_6 = some r) ∧ Aside0 (kq ≤ k) ∧ Aside0 (Below w.heap.size w wc))
  case first =>
    have H := HC7.out
    clear HC7
    by_cases c9 : t186 = true
    · subst c9
      have H1 : (if t187 = true then (if a1 < 1 then (quartermasterlaw02_MatOne.j0 k l0 a1 a2 true t188 true) else (if a1 > 10 then (quartermasterlaw02_MatOne.j0 k l0 a1 a2 true t188 true) else (if a2 < 1 then (quartermasterlaw02_MatOne.j0 k l0 a1 a2 true t188 true) else (quartermasterlaw02_MatOne.j0 k l0 a1 a2 true t188 (decide (a2 > 10)))))) else (quartermasterlaw02_MatOne.j0 k l0 a1 a2 true t188 true)) = some r := by rw [if_pos rfl] at H; exact H
      clear H
      have H := H1
      clear H1
      by_cases c10 : t187 = true
      · subst c10
        have H1 : (if a1 < 1 then (quartermasterlaw02_MatOne.j0 k l0 a1 a2 true t188 true) else (if a1 > 10 then (quartermasterlaw02_MatOne.j0 k l0 a1 a2 true t188 true) else (if a2 < 1 then (quartermasterlaw02_MatOne.j0 k l0 a1 a2 true t188 true) else (quartermasterlaw02_MatOne.j0 k l0 a1 a2 true t188 (decide (a2 > 10)))))) = some r := by rw [if_pos rfl] at H; exact H
        clear H
        have H := H1
        clear H1
        by_cases c11 : a1 < 1
        · rw [if_pos c11] at H
          have c11b0 : decide (a1 < 1) = true := decide_eq_true c11
          clear c11
          (first | rw [c11b0] | (simp only [i64_w, i32_w]; rw [c11b0]) | skip)
          have H' := Aside0.mk H
          clear H
          go_wp2
          go_meet
          case rel => exact ⟨_, (true), (by first | rfl | (simp; done) | (simp [*]; done)), H', ⟨by first | omega | exact Nat.le_refl _⟩, ⟨by repeat (first | (with_reducible first | exact HB.out | apply below_alloc | apply pw_below_drewN | apply below_drew1) | exact HB.out)⟩⟩
        · rw [if_neg c11] at H
          have c11b0 : decide (a1 < 1) = false := decide_eq_false c11
          clear c11
          (first | rw [c11b0] | (simp only [i64_w, i32_w]; rw [c11b0]) | skip)
          by_cases c12 : a1 > 10
          · rw [if_pos c12] at H
            have c12b0 : decide (10 < a1) = true := decide_eq_true c12
            clear c12
            have H' := Aside0.mk H
            clear H
            go_wp2
            go_meet
            case rel => exact ⟨_, (true), (by first | rfl | (simp; done) | (simp [*]; done)), H', ⟨by first | omega | exact Nat.le_refl _⟩, ⟨by repeat (first | (with_reducible first | exact HB.out | apply below_alloc | apply pw_below_drewN | apply below_drew1) | exact HB.out)⟩⟩
          · rw [if_neg c12] at H
            have c12b0 : decide (10 < a1) = false := decide_eq_false c12
            clear c12
            by_cases c13 : a2 < 1
            · rw [if_pos c13] at H
              have c13b0 : decide (a2 < 1) = true := decide_eq_true c13
              clear c13
              have H' := Aside0.mk H
              clear H
              go_wp2
              go_meet
              case rel => exact ⟨_, (true), (by first | rfl | (simp; done) | (simp [*]; done)), H', ⟨by first | omega | exact Nat.le_refl _⟩, ⟨by repeat (first | (with_reducible first | exact HB.out | apply below_alloc | apply pw_below_drewN | apply below_drew1) | exact HB.out)⟩⟩
            · rw [if_neg c13] at H
              have c13b0 : decide (a2 < 1) = false := decide_eq_false c13
              clear c13
              have H' := Aside0.mk H
              clear H
              go_wp2
              go_meet
              case rel => exact ⟨_, (decide (a2 > 10)), (by first | rfl | (simp; done) | (simp [*]; done)), H', ⟨by first | omega | exact Nat.le_refl _⟩, ⟨by repeat (first | (with_reducible first | exact HB.out | apply below_alloc | apply pw_below_drewN | apply below_drew1) | exact HB.out)⟩⟩
      · replace c10 := Bool.eq_false_iff.mpr c10
        subst c10
        have H1 : (quartermasterlaw02_MatOne.j0 k l0 a1 a2 true t188 true) = some r := by rw [if_neg (show ¬ (false = true) by decide)] at H; exact H
        clear H
        have H := H1
        clear H1
        have H' := Aside0.mk H
        clear H
        go_wp2
        go_meet
        case rel => exact ⟨_, (true), (by first | rfl | (simp; done) | (simp [*]; done)), H', ⟨by first | omega | exact Nat.le_refl _⟩, ⟨by repeat (first | (with_reducible first | exact HB.out | apply below_alloc | apply pw_below_drewN | apply below_drew1) | exact HB.out)⟩⟩
    · replace c9 := Bool.eq_false_iff.mpr c9
      subst c9
      have H1 : (quartermasterlaw02_MatOne.j0 k l0 a1 a2 false t188 true) = some r := by rw [if_neg (show ¬ (false = true) by decide)] at H; exact H
      clear H
      have H := H1
      clear H1
      have H' := Aside0.mk H
      clear H
      go_wp2
      go_meet
      case rel => exact ⟨_, (true), (by first | rfl | (simp; done) | (simp [*]; done)), H', ⟨by first | omega | exact Nat.le_refl _⟩, ⟨by repeat (first | (with_reducible first | exact HB.out | apply below_alloc | apply pw_below_drewN | apply below_drew1) | exact HB.out)⟩⟩
  case rest =>
    clear HC7
    try clear c1
    try clear p2
    try clear c3
    try clear c4
    try clear c9
    try clear c10
    try clear c11
    try clear c11b0
    try clear c12
    try clear c12b0
    try clear c13
    try clear c13b0
    obtain ⟨kq, x47_6, rfl, HA, HJ6, HB⟩ := hcut
    cases kq with
    | zero => exact absurd HA.out (by simp [quartermasterlaw02_MatOne.j0])
    | succ kj6 =>
      have H := HA.out
      clear HA
      simp only [quartermasterlaw02_MatOne.j0] at H
      by_cases c14 : x47_6 = true
      · subst c14
        have H1 : (some t186) = some r := by rw [if_pos rfl] at H; exact H
        clear H
        have H := H1
        clear H1
        obtain rfl := Option.some.inj H
        go_wp2
        go_ret
        exact ⟨by first | rfl | (simp [errW_none, errW_some] <;> rfl) | (simp [*, errW_none, errW_some] <;> rfl), by repeat (first | (with_reducible first | exact HB.out | apply below_alloc | apply pw_below_drewN | apply below_drew1) | exact HB.out)⟩
      · replace c14 := Bool.eq_false_iff.mpr c14
        subst c14
        have H1 : (if t188 = true then ((mat_One.f (l0.length : Int)).bind fun bt189 => ((mat_Mul.f bt189.1 l0).bind fun bt193 => ((quartermasterref02_Same.f kj6 bt193.1 l0).bind fun t197 => (if bt193.2 = 0 then (if t197 = true then (quartermasterlaw02_MatOne.j1 kj6 a1 a2) else (some false)) else (some false))))) else (quartermasterlaw02_MatOne.j1 kj6 a1 a2)) = some r := by rw [if_neg (show ¬ (false = true) by decide)] at H; exact H
        clear H
        have H := H1
        clear H1
        have HC15 := Aside0.mk H
        clear H
        go_upto_if 49 with (fail)
        go_cut [] (fun wc => ∃ (kq : Nat), Aside0 (quartermasterlaw02_MatOne.j1 kq a1 a2 = some r) ∧ Aside0 (kq ≤ kj6) ∧ Aside0 (Below w.heap.size w wc))
        case first =>
          have H := HC15.out
          clear HC15
          by_cases c16 : t188 = true
          · subst c16
            have H1 : ((mat_One.f (l0.length : Int)).bind fun bt189 => ((mat_Mul.f bt189.1 l0).bind fun bt193 => ((quartermasterref02_Same.f kj6 bt193.1 l0).bind fun t197 => (if bt193.2 = 0 then (if t197 = true then (quartermasterlaw02_MatOne.j1 kj6 a1 a2) else (some false)) else (some false))))) = some r := by rw [if_pos rfl] at H; exact H
            clear H
            have H := H1
            clear H1
            replace H := Option.bind_eq_some_iff.mp H
            obtain ⟨⟨t189, t190⟩, A170, H⟩ := H
            replace H : ((mat_Mul.f t189 l0).bind fun bt193 => ((quartermasterref02_Same.f kj6 bt193.1 l0).bind fun t197 => (if bt193.2 = 0 then (if t197 = true then (quartermasterlaw02_MatOne.j1 kj6 a1 a2) else (some false)) else (some false)))) = some r := H
            have A17 := Aside0.mk A170
            clear A170
            replace H := Option.bind_eq_some_iff.mp H
            obtain ⟨⟨t193, t194⟩, A180, H⟩ := H
            replace H : ((quartermasterref02_Same.f kj6 t193 l0).bind fun t197 => (if t194 = 0 then (if t197 = true then (quartermasterlaw02_MatOne.j1 kj6 a1 a2) else (some false)) else (some false))) = some r := H
            have A18 := Aside0.mk A180
            clear A180
            replace H := Option.bind_eq_some_iff.mp H
            obtain ⟨t197, A190, H⟩ := H
            replace H : (if t194 = 0 then (if t197 = true then (quartermasterlaw02_MatOne.j1 kj6 a1 a2) else (some false)) else (some false)) = some r := H
            have A19 := Aside0.mk A190
            clear A190
            by_cases c20 : t194 = 0
            · rw [if_pos c20] at H
              have c20b0 : (t194 == 0) = true := beq_iff_eq.mpr c20
              have c20b1 : (t194 != 0) = false := bne_eq_false_iff_eq.mpr c20
              clear c20
              (first | rw [c20b0] | (simp only [i64_w, i32_w]; rw [c20b0]) | skip)
              by_cases c21 : t197 = true
              · subst c21
                have H1 : (quartermasterlaw02_MatOne.j1 kj6 a1 a2) = some r := by rw [if_pos rfl] at H; exact H
                clear H
                have H := H1
                clear H1
                have H' := Aside0.mk H
                clear H
                go_wp2_with (first | ((with_reducible refine gate_callee (f := 37) rfl ?_); refine goesL_ (some 53) rfl rfl Try.func37 (by kernel_rfl) rfl #[.int .i64 (l0.length : Int)] rfl (by (try simp only [List.map_toArray, List.map_cons, List.map_nil]); first | done | rfl | (simp only [List.length_drop, List.length_take]; rfl)) ?_; (with_reducible refine (mat_One.calls (l0.length : Int) t189 t190 _ A17.out).mono ?_); rintro e w22 ⟨v191, rfl, ho0, hb⟩; refine ⟨_, rfl, ?_⟩; have n0_ := Aside0.mk (Kd.S_lower ho0 (below_size (by repeat (first | (with_reducible first | exact HB.out | apply below_alloc | apply pw_below_drewN | apply below_drew1) | exact HB.out)))); have n1_ := Aside0.mk (below_step (by repeat (first | (with_reducible first | exact HB.out | apply below_alloc | apply pw_below_drewN | apply below_drew1) | exact HB.out)) hb); clear HB; have HO192 := n0_; have HB := n1_; clear n0_ n1_; (try clear hb); (try clear hb2); (try clear hk); (try clear hi); (try clear ho0); obtain ⟨Ao23, co23, eo23⟩ := Kd.S_slice HO192.out; subst eo23) | ((with_reducible refine gate_callee (f := 48) rfl ?_); refine goesL_ (some 59) rfl rfl Try.func48 (by kernel_rfl) rfl #[.slice Ao23 t189.length co23, .slice A0 l0.length c0] rfl (by (try simp only [List.map_toArray, List.map_cons, List.map_nil]); first | done | rfl | (simp only [List.length_drop, List.length_take]; rfl)) ?_; (with_reducible refine (mat_Mul.calls _ _ t189 _ _ l0 t193 t194 _ ?side1 ?side2 ?side3 ?side4 A18.out).mono ?_); (case side1 => repeat (first | exact (Kd.S_reads' HO192.out).2.2 | (with_reducible refine Kd.C_alloc ?_ _) | (with_reducible refine Kd.C_drewN ?_ _) | (with_reducible refine Kd.C_drew ?_))); (case side2 => exact (Kd.S_reads' HO192.out).2.1); (case side3 => repeat (first | exact (Kd.C_below HR0.out HB.out) | (with_reducible refine Kd.C_alloc ?_ _) | (with_reducible refine Kd.C_drewN ?_ _) | (with_reducible refine Kd.C_drew ?_))); (case side4 => exact HC0.out); rintro e w24 ⟨v195, rfl, ho0, hb⟩; refine ⟨_, rfl, ?_⟩; have n0_ := Aside0.mk (Kd.S_elder' (by (with_reducible repeat (first | apply Kd.S_alloc | apply Kd.S_drewN | apply Kd.S_drew)); exact HO192.out) (Kd.S_base ho0) hb); have n1_ := Aside0.mk (Kd.S_lower (Kd.S_new' ho0 (Kd.S_lt (by (with_reducible repeat (first | apply Kd.S_alloc | apply Kd.S_drewN | apply Kd.S_drew)); exact HO192.out))) (below_size (by repeat (first | (with_reducible first | exact HB.out | apply below_alloc | apply pw_below_drewN | apply below_drew1) | exact HB.out)))); have n2_ := Aside0.mk (below_step (by repeat (first | (with_reducible first | exact HB.out | apply below_alloc | apply pw_below_drewN | apply below_drew1) | exact HB.out)) hb); clear HO192; clear HB; have HO192 := n0_; have HO196 := n1_; have HB := n2_; clear n0_ n1_ n2_; (try clear hb); (try clear hb2); (try clear hk); (try clear hi); (try clear ho0); obtain ⟨Ao25, co25, eo25⟩ := Kd.S_slice HO196.out; subst eo25) | ((with_reducible refine gate_callee (f := 41) rfl ?_); refine goesL_ (some 64) rfl rfl Try.func41 (by kernel_rfl) rfl #[.slice Ao25 t193.length co25, .slice A0 l0.length c0] rfl (by (try simp only [List.map_toArray, List.map_cons, List.map_nil]); first | done | rfl | (simp only [List.length_drop, List.length_take]; rfl)) ?_; (with_reducible refine (quartermasterref02_Same.calls kj6 _ _ t193 _ _ l0 true _ ?side1 ?side2 ?side3 ?side4 A19.out).mono ?_); (case side1 => repeat (first | exact (Kd.S_reads' HO196.out).2.2 | (with_reducible refine Kd.C_alloc ?_ _) | (with_reducible refine Kd.C_drewN ?_ _) | (with_reducible refine Kd.C_drew ?_))); (case side2 => exact (Kd.S_reads' HO196.out).2.1); (case side3 => repeat (first | exact (Kd.C_below HR0.out HB.out) | (with_reducible refine Kd.C_alloc ?_ _) | (with_reducible refine Kd.C_drewN ?_ _) | (with_reducible refine Kd.C_drew ?_))); (case side4 => exact HC0.out); rintro e w' ⟨rfl, ⟨nd, rfl⟩⟩; refine ⟨_, rfl, ?_⟩))
                go_meet
                case rel => exact ⟨_, H', ⟨by have := HJ6.out; first | omega | exact Nat.le_refl _⟩, ⟨by repeat (first | (with_reducible first | exact HB.out | apply below_alloc | apply pw_below_drewN | apply below_drew1) | exact HB.out)⟩⟩
              · replace c21 := Bool.eq_false_iff.mpr c21
                subst c21
                have H1 : (some false) = some r := by rw [if_neg (show ¬ (false = true) by decide)] at H; exact H
                clear H
                have H := H1
                clear H1
                obtain rfl := Option.some.inj H
                go_wp2_with (first | ((with_reducible refine gate_callee (f := 37) rfl ?_); refine goesL_ (some 53) rfl rfl Try.func37 (by kernel_rfl) rfl #[.int .i64 (l0.length : Int)] rfl (by (try simp only [List.map_toArray, List.map_cons, List.map_nil]); first | done | rfl | (simp only [List.length_drop, List.length_take]; rfl)) ?_; (with_reducible refine (mat_One.calls (l0.length : Int) t189 t190 _ A17.out).mono ?_); rintro e w26 ⟨v191, rfl, ho0, hb⟩; refine ⟨_, rfl, ?_⟩; have n0_ := Aside0.mk (Kd.S_lower ho0 (below_size (by repeat (first | (with_reducible first | exact HB.out | apply below_alloc | apply pw_below_drewN | apply below_drew1) | exact HB.out)))); have n1_ := Aside0.mk (below_step (by repeat (first | (with_reducible first | exact HB.out | apply below_alloc | apply pw_below_drewN | apply below_drew1) | exact HB.out)) hb); clear HB; have HO192 := n0_; have HB := n1_; clear n0_ n1_; (try clear hb); (try clear hb2); (try clear hk); (try clear hi); (try clear ho0); obtain ⟨Ao27, co27, eo27⟩ := Kd.S_slice HO192.out; subst eo27) | ((with_reducible refine gate_callee (f := 48) rfl ?_); refine goesL_ (some 59) rfl rfl Try.func48 (by kernel_rfl) rfl #[.slice Ao27 t189.length co27, .slice A0 l0.length c0] rfl (by (try simp only [List.map_toArray, List.map_cons, List.map_nil]); first | done | rfl | (simp only [List.length_drop, List.length_take]; rfl)) ?_; (with_reducible refine (mat_Mul.calls _ _ t189 _ _ l0 t193 t194 _ ?side1 ?side2 ?side3 ?side4 A18.out).mono ?_); (case side1 => repeat (first | exact (Kd.S_reads' HO192.out).2.2 | (with_reducible refine Kd.C_alloc ?_ _) | (with_reducible refine Kd.C_drewN ?_ _) | (with_reducible refine Kd.C_drew ?_))); (case side2 => exact (Kd.S_reads' HO192.out).2.1); (case side3 => repeat (first | exact (Kd.C_below HR0.out HB.out) | (with_reducible refine Kd.C_alloc ?_ _) | (with_reducible refine Kd.C_drewN ?_ _) | (with_reducible refine Kd.C_drew ?_))); (case side4 => exact HC0.out); rintro e w28 ⟨v195, rfl, ho0, hb⟩; refine ⟨_, rfl, ?_⟩; have n0_ := Aside0.mk (Kd.S_elder' (by (with_reducible repeat (first | apply Kd.S_alloc | apply Kd.S_drewN | apply Kd.S_drew)); exact HO192.out) (Kd.S_base ho0) hb); have n1_ := Aside0.mk (Kd.S_lower (Kd.S_new' ho0 (Kd.S_lt (by (with_reducible repeat (first | apply Kd.S_alloc | apply Kd.S_drewN | apply Kd.S_drew)); exact HO192.out))) (below_size (by repeat (first | (with_reducible first | exact HB.out | apply below_alloc | apply pw_below_drewN | apply below_drew1) | exact HB.out)))); have n2_ := Aside0.mk (below_step (by repeat (first | (with_reducible first | exact HB.out | apply below_alloc | apply pw_below_drewN | apply below_drew1) | exact HB.out)) hb); clear HO192; clear HB; have HO192 := n0_; have HO196 := n1_; have HB := n2_; clear n0_ n1_ n2_; (try clear hb); (try clear hb2); (try clear hk); (try clear hi); (try clear ho0); obtain ⟨Ao29, co29, eo29⟩ := Kd.S_slice HO196.out; subst eo29) | ((with_reducible refine gate_callee (f := 41) rfl ?_); refine goesL_ (some 64) rfl rfl Try.func41 (by kernel_rfl) rfl #[.slice Ao29 t193.length co29, .slice A0 l0.length c0] rfl (by (try simp only [List.map_toArray, List.map_cons, List.map_nil]); first | done | rfl | (simp only [List.length_drop, List.length_take]; rfl)) ?_; (with_reducible refine (quartermasterref02_Same.calls kj6 _ _ t193 _ _ l0 false _ ?side1 ?side2 ?side3 ?side4 A19.out).mono ?_); (case side1 => repeat (first | exact (Kd.S_reads' HO196.out).2.2 | (with_reducible refine Kd.C_alloc ?_ _) | (with_reducible refine Kd.C_drewN ?_ _) | (with_reducible refine Kd.C_drew ?_))); (case side2 => exact (Kd.S_reads' HO196.out).2.1); (case side3 => repeat (first | exact (Kd.C_below HR0.out HB.out) | (with_reducible refine Kd.C_alloc ?_ _) | (with_reducible refine Kd.C_drewN ?_ _) | (with_reducible refine Kd.C_drew ?_))); (case side4 => exact HC0.out); rintro e w' ⟨rfl, ⟨nd, rfl⟩⟩; refine ⟨_, rfl, ?_⟩))
                go_ret
                exact ⟨by first | rfl | (simp [errW_none, errW_some] <;> rfl) | (simp [*, errW_none, errW_some] <;> rfl), by repeat (first | (with_reducible first | exact HB.out | apply below_alloc | apply pw_below_drewN | apply below_drew1) | exact HB.out)⟩
            · rw [if_neg c20] at H
              have c20b0 : (t194 == 0) = false := beq_eq_false_iff_ne.mpr c20
              have c20b1 : (t194 != 0) = true := bne_iff_ne.mpr c20
              (first | rw [c20b0] | (simp only [i64_w, i32_w]; rw [c20b0]) | skip)
              obtain rfl := Option.some.inj H
              go_wp2_with (first | ((with_reducible refine gate_callee (f := 37) rfl ?_); refine goesL_ (some 53) rfl rfl Try.func37 (by kernel_rfl) rfl #[.int .i64 (l0.length : Int)] rfl (by (try simp only [List.map_toArray, List.map_cons, List.map_nil]); first | done | rfl | (simp only [List.length_drop, List.length_take]; rfl)) ?_; (with_reducible refine (mat_One.calls (l0.length : Int) t189 t190 _ A17.out).mono ?_); rintro e w30 ⟨v191, rfl, ho0, hb⟩; refine ⟨_, rfl, ?_⟩; have n0_ := Aside0.mk (Kd.S_lower ho0 (below_size (by repeat (first | (with_reducible first | exact HB.out | apply below_alloc | apply pw_below_drewN | apply below_drew1) | exact HB.out)))); have n1_ := Aside0.mk (below_step (by repeat (first | (with_reducible first | exact HB.out | apply below_alloc | apply pw_below_drewN | apply below_drew1) | exact HB.out)) hb); clear HB; have HO192 := n0_; have HB := n1_; clear n0_ n1_; (try clear hb); (try clear hb2); (try clear hk); (try clear hi); (try clear ho0); obtain ⟨Ao31, co31, eo31⟩ := Kd.S_slice HO192.out; subst eo31) | ((with_reducible refine gate_callee (f := 48) rfl ?_); refine goesL_ (some 59) rfl rfl Try.func48 (by kernel_rfl) rfl #[.slice Ao31 t189.length co31, .slice A0 l0.length c0] rfl (by (try simp only [List.map_toArray, List.map_cons, List.map_nil]); first | done | rfl | (simp only [List.length_drop, List.length_take]; rfl)) ?_; (with_reducible refine (mat_Mul.calls _ _ t189 _ _ l0 t193 t194 _ ?side1 ?side2 ?side3 ?side4 A18.out).mono ?_); (case side1 => repeat (first | exact (Kd.S_reads' HO192.out).2.2 | (with_reducible refine Kd.C_alloc ?_ _) | (with_reducible refine Kd.C_drewN ?_ _) | (with_reducible refine Kd.C_drew ?_))); (case side2 => exact (Kd.S_reads' HO192.out).2.1); (case side3 => repeat (first | exact (Kd.C_below HR0.out HB.out) | (with_reducible refine Kd.C_alloc ?_ _) | (with_reducible refine Kd.C_drewN ?_ _) | (with_reducible refine Kd.C_drew ?_))); (case side4 => exact HC0.out); rintro e w32 ⟨v195, rfl, ho0, hb⟩; refine ⟨_, rfl, ?_⟩; have n0_ := Aside0.mk (Kd.S_elder' (by (with_reducible repeat (first | apply Kd.S_alloc | apply Kd.S_drewN | apply Kd.S_drew)); exact HO192.out) (Kd.S_base ho0) hb); have n1_ := Aside0.mk (Kd.S_lower (Kd.S_new' ho0 (Kd.S_lt (by (with_reducible repeat (first | apply Kd.S_alloc | apply Kd.S_drewN | apply Kd.S_drew)); exact HO192.out))) (below_size (by repeat (first | (with_reducible first | exact HB.out | apply below_alloc | apply pw_below_drewN | apply below_drew1) | exact HB.out)))); have n2_ := Aside0.mk (below_step (by repeat (first | (with_reducible first | exact HB.out | apply below_alloc | apply pw_below_drewN | apply below_drew1) | exact HB.out)) hb); clear HO192; clear HB; have HO192 := n0_; have HO196 := n1_; have HB := n2_; clear n0_ n1_ n2_; (try clear hb); (try clear hb2); (try clear hk); (try clear hi); (try clear ho0); obtain ⟨Ao33, co33, eo33⟩ := Kd.S_slice HO196.out; subst eo33) | ((with_reducible refine gate_callee (f := 41) rfl ?_); refine goesL_ (some 64) rfl rfl Try.func41 (by kernel_rfl) rfl #[.slice Ao33 t193.length co33, .slice A0 l0.length c0] rfl (by (try simp only [List.map_toArray, List.map_cons, List.map_nil]); first | done | rfl | (simp only [List.length_drop, List.length_take]; rfl)) ?_; (with_reducible refine (quartermasterref02_Same.calls kj6 _ _ t193 _ _ l0 t197 _ ?side1 ?side2 ?side3 ?side4 A19.out).mono ?_); (case side1 => repeat (first | exact (Kd.S_reads' HO196.out).2.2 | (with_reducible refine Kd.C_alloc ?_ _) | (with_reducible refine Kd.C_drewN ?_ _) | (with_reducible refine Kd.C_drew ?_))); (case side2 => exact (Kd.S_reads' HO196.out).2.1); (case side3 => repeat (first | exact (Kd.C_below HR0.out HB.out) | (with_reducible refine Kd.C_alloc ?_ _) | (with_reducible refine Kd.C_drewN ?_ _) | (with_reducible refine Kd.C_drew ?_))); (case side4 => exact HC0.out); rintro e w' ⟨rfl, ⟨nd, rfl⟩⟩; refine ⟨_, rfl, ?_⟩))
              go_ret
              exact ⟨by first | rfl | (simp [errW_none, errW_some] <;> rfl) | (simp [*, errW_none, errW_some] <;> rfl), by repeat (first | (with_reducible first | exact HB.out | apply below_alloc | apply pw_below_drewN | apply below_drew1) | exact HB.out)⟩
          · replace c16 := Bool.eq_false_iff.mpr c16
            subst c16
            have H1 : (quartermasterlaw02_MatOne.j1 kj6 a1 a2) = some r := by rw [if_neg (show ¬ (false = true) by decide)] at H; exact H
            clear H
            have H := H1
            clear H1
            have H' := Aside0.mk H
            clear H
            go_wp2
            go_meet
            case rel => exact ⟨_, H', ⟨by have := HJ6.out; first | omega | exact Nat.le_refl _⟩, ⟨by repeat (first | (with_reducible first | exact HB.out | apply below_alloc | apply pw_below_drewN | apply below_drew1) | exact HB.out)⟩⟩
        case rest =>
          clear HC15
          try clear c1
          try clear c2
          try clear p2
          try clear c3
          try clear c4
          try clear c9
          try clear c10
          try clear c11
          try clear c11b0
          try clear c12
          try clear c12b0
          try clear c13
          try clear c13b0
          try clear c14
          try clear c15
          try clear c16
          try clear c20
          try clear c20b0
          try clear c20b1
          try clear c21
          try clear p2
          obtain ⟨kq, HA, HJ14, HB⟩ := hcut
          cases kq with
          | zero => exact absurd HA.out (by simp [quartermasterlaw02_MatOne.j1])
          | succ kj14 =>
            have H := HA.out
            clear HA
            simp only [quartermasterlaw02_MatOne.j1] at H
            replace H := Option.bind_eq_some_iff.mp H
            obtain ⟨⟨t198, t199⟩, A340, H⟩ := H
            replace H : ((mat_Cauchy.f (wrap64 (a1 + 1)) a2).bind fun bt202 => (if t199 = 0 then (if bt202.2 = 0 then (quartermasterlaw02_MatOne.j2 kj14 a1 t198 bt202.1 ((bt202.1.length : Int) != (wrap64 (a1 + 1)))) else (quartermasterlaw02_MatOne.j2 kj14 a1 t198 bt202.1 true)) else (quartermasterlaw02_MatOne.j2 kj14 a1 t198 bt202.1 true))) = some r := H
            have A34 := Aside0.mk A340
            clear A340
            replace H := Option.bind_eq_some_iff.mp H
            obtain ⟨⟨t202, t203⟩, A350, H⟩ := H
            replace H : (if t199 = 0 then (if t203 = 0 then (quartermasterlaw02_MatOne.j2 kj14 a1 t198 t202 ((t202.length : Int) != (wrap64 (a1 + 1)))) else (quartermasterlaw02_MatOne.j2 kj14 a1 t198 t202 true)) else (quartermasterlaw02_MatOne.j2 kj14 a1 t198 t202 true)) = some r := H
            have A35 := Aside0.mk A350
            clear A350
            have HC36 := Aside0.mk H
            clear H
            go_upto_region 14 with (first | ((with_reducible refine gate_callee (f := 39) rfl ?_); refine goesL_ (some 74) rfl rfl Try.func39 (by kernel_rfl) rfl #[.int .i64 a1, .int .i64 a2] rfl (by (try simp only [List.map_toArray, List.map_cons, List.map_nil]); first | done | rfl | (simp only [List.length_drop, List.length_take]; rfl)) ?_; (with_reducible refine (mat_Cauchy.calls a1 a2 t198 t199 _ A34.out).mono ?_); rintro e w37 ⟨v200, rfl, ho0, hb⟩; refine ⟨_, rfl, ?_⟩; have n0_ := Aside0.mk (Kd.S_lower ho0 (below_size (by repeat (first | (with_reducible first | exact HB.out | apply below_alloc | apply pw_below_drewN | apply below_drew1) | exact HB.out)))); have n1_ := Aside0.mk (below_step (by repeat (first | (with_reducible first | exact HB.out | apply below_alloc | apply pw_below_drewN | apply below_drew1) | exact HB.out)) hb); clear HB; have HO201 := n0_; have HB := n1_; clear n0_ n1_; (try clear hb); (try clear hb2); (try clear hk); (try clear hi); (try clear ho0)) | ((with_reducible refine gate_callee (f := 39) rfl ?_); refine goesL_ (some 81) rfl rfl Try.func39 (by kernel_rfl) rfl #[.int .i64 (wrap64 (a1 + 1)), .int .i64 a2] rfl (by (try simp only [List.map_toArray, List.map_cons, List.map_nil]); first | done | rfl | (simp only [List.length_drop, List.length_take]; rfl)) ?_; (with_reducible refine (mat_Cauchy.calls (wrap64 (a1 + 1)) a2 t202 t203 _ A35.out).mono ?_); rintro e w38 ⟨v204, rfl, ho0, hb⟩; refine ⟨_, rfl, ?_⟩; have n0_ := Aside0.mk (Kd.S_elder' (by (with_reducible repeat (first | apply Kd.S_alloc | apply Kd.S_drewN | apply Kd.S_drew)); exact HO201.out) (Kd.S_base ho0) hb); have n1_ := Aside0.mk (Kd.S_lower (Kd.S_new' ho0 (Kd.S_lt (by (with_reducible repeat (first | apply Kd.S_alloc | apply Kd.S_drewN | apply Kd.S_drew)); exact HO201.out))) (below_size (by repeat (first | (with_reducible first | exact HB.out | apply below_alloc | apply pw_below_drewN | apply below_drew1) | exact HB.out)))); have n2_ := Aside0.mk (below_step (by repeat (first | (with_reducible first | exact HB.out | apply below_alloc | apply pw_below_drewN | apply below_drew1) | exact HB.out)) hb); clear HO201; clear HB; have HO201 := n0_; have HO205 := n1_; have HB := n2_; clear n0_ n1_ n2_; (try clear hb); (try clear hb2); (try clear hk); (try clear hi); (try clear ho0)))
            (try simp only [Act.put, List.setIfInBounds_toArray, List.set_cons_zero, List.set_cons_succ])
            go_cut [96] (fun v96 wc => ∃ (kq : Nat) (x96_35 : Bool), v96 = .bool x96_35 ∧ Aside0 (quartermasterlaw02_MatOne.j2 kq a1 t198 t202 x96_35 = some r) ∧ Aside0 (kq ≤ kj14) ∧ Aside0 (Kd.S (Kd.slice 5 (Kd.int .u8)) 43 wc w.heap.size (fun k_ => some k_ ≠ (v204 : Value).ownBlock) v200 t198) ∧ Aside0 (Kd.S (Kd.slice 5 (Kd.int .u8)) 43 wc w.heap.size (fun k_ => some k_ ≠ (v200 : Value).ownBlock) v204 t202) ∧ Aside0 (Below w.heap.size w wc))
            case first =>
              have H := HC36.out
              clear HC36
              by_cases c39 : t199 = 0
              · rw [if_pos c39] at H
                have c39b0 : (t199 == 0) = true := beq_iff_eq.mpr c39
                have c39b1 : (t199 != 0) = false := bne_eq_false_iff_eq.mpr c39
                clear c39
                (first | rw [c39b0] | (simp only [i64_w, i32_w]; rw [c39b0]) | skip)
                by_cases c40 : t203 = 0
                · rw [if_pos c40] at H
                  have c40b0 : (t203 == 0) = true := beq_iff_eq.mpr c40
                  have c40b1 : (t203 != 0) = false := bne_eq_false_iff_eq.mpr c40
                  clear c40
                  have H' := Aside0.mk H
                  clear H
                  obtain ⟨Ao41, co41, eo41⟩ := Kd.S_slice HO205.out
                  subst eo41
                  go_wp2
                  go_meet
                  case rel => exact ⟨_, (((t202.length : Int) != (wrap64 (a1 + 1)))), (by first | rfl | (simp; done) | (simp [*]; done)), H', ⟨by have := HJ6.out; have := HJ14.out; first | omega | exact Nat.le_refl _⟩, ⟨by (with_reducible repeat (first | apply Kd.S_alloc | apply Kd.S_drewN | apply Kd.S_drew)); exact Kd.S_mono HO201.out (fun _ hk => hk.2)⟩, ⟨by (with_reducible repeat (first | apply Kd.S_alloc | apply Kd.S_drewN | apply Kd.S_drew)); exact Kd.S_mono HO205.out (fun _ hk => hk.2)⟩, ⟨by repeat (first | (with_reducible first | exact HB.out | apply below_alloc | apply pw_below_drewN | apply below_drew1) | exact HB.out)⟩⟩
                · rw [if_neg c40] at H
                  have c40b0 : (t203 == 0) = false := beq_eq_false_iff_ne.mpr c40
                  have c40b1 : (t203 != 0) = true := bne_iff_ne.mpr c40
                  have H' := Aside0.mk H
                  clear H
                  go_wp2
                  go_meet
                  case rel => exact ⟨_, (true), (by first | rfl | (simp; done) | (simp [*]; done)), H', ⟨by have := HJ6.out; have := HJ14.out; first | omega | exact Nat.le_refl _⟩, ⟨by (with_reducible repeat (first | apply Kd.S_alloc | apply Kd.S_drewN | apply Kd.S_drew)); exact Kd.S_mono HO201.out (fun _ hk => hk.2)⟩, ⟨by (with_reducible repeat (first | apply Kd.S_alloc | apply Kd.S_drewN | apply Kd.S_drew)); exact Kd.S_mono HO205.out (fun _ hk => hk.2)⟩, ⟨by repeat (first | (with_reducible first | exact HB.out | apply below_alloc | apply pw_below_drewN | apply below_drew1) | exact HB.out)⟩⟩
              · rw [if_neg c39] at H
                have c39b0 : (t199 == 0) = false := beq_eq_false_iff_ne.mpr c39
                have c39b1 : (t199 != 0) = true := bne_iff_ne.mpr c39
                (first | rw [c39b0] | (simp only [i64_w, i32_w]; rw [c39b0]) | skip)
                have H' := Aside0.mk H
                clear H
                go_wp2
                go_meet
                case rel => exact ⟨_, (true), (by first | rfl | (simp; done) | (simp [*]; done)), H', ⟨by have := HJ6.out; have := HJ14.out; first | omega | exact Nat.le_refl _⟩, ⟨by (with_reducible repeat (first | apply Kd.S_alloc | apply Kd.S_drewN | apply Kd.S_drew)); exact Kd.S_mono HO201.out (fun _ hk => hk.2)⟩, ⟨by (with_reducible repeat (first | apply Kd.S_alloc | apply Kd.S_drewN | apply Kd.S_drew)); exact Kd.S_mono HO205.out (fun _ hk => hk.2)⟩, ⟨by repeat (first | (with_reducible first | exact HB.out | apply below_alloc | apply pw_below_drewN | apply below_drew1) | exact HB.out)⟩⟩
            case rest =>
              clear HC36
              try clear c1
              try clear c2
              try clear p2
              try clear c3
              try clear c4
              try clear p6
              try clear c9
              try clear c10
              try clear c11
              try clear c11b0
              try clear c12
              try clear c12b0
              try clear c13
              try clear c13b0
              try clear c14
              try clear c15
              try clear c16
              try clear c20
              try clear c20b0
              try clear c20b1
              try clear c21
              try clear c36
              try clear c37
              try clear c39
              try clear c39b0
              try clear c39b1
              try clear c40
              try clear c40b0
              try clear c40b1
              try clear c41
              try clear p2
              obtain ⟨kq, x96_35, rfl, HA, HJ35, HO_15, HO_17, HB⟩ := hcut
              cases kq with
              | zero => exact absurd HA.out (by simp [quartermasterlaw02_MatOne.j2])
              | succ kj35 =>
                have H := HA.out
                clear HA
                simp only [quartermasterlaw02_MatOne.j2] at H
                by_cases c42 : x96_35 = true
                · subst c42
                  have H1 : (some false) = some r := by rw [if_pos rfl] at H; exact H
                  clear H
                  have H := H1
                  clear H1
                  obtain rfl := Option.some.inj H
                  go_wp2
                  go_ret
                  exact ⟨by first | rfl | (simp [errW_none, errW_some] <;> rfl) | (simp [*, errW_none, errW_some] <;> rfl), by repeat (first | (with_reducible first | exact HB.out | apply below_alloc | apply pw_below_drewN | apply below_drew1) | exact HB.out)⟩
                · replace c42 := Bool.eq_false_iff.mpr c42
                  subst c42
                  have H1 : (quartermasterlaw02_MatOne.l0 kj35 a1 t198 t202 0) = some r := by rw [if_neg (show ¬ (false = true) by decide)] at H; exact H
                  clear H
                  have H := H1
                  clear H1
                  have H' := Aside0.mk H
                  clear H
                  go_wp2
                  go_loopg [19] kj35 (fun kq v19 w' => ∃ (x19_4 : Int), v19 = .int .i64 x19_4 ∧ Aside0 (quartermasterlaw02_MatOne.l0 kq a1 t198 t202 x19_4 = some r) ∧ Aside0 (kq ≤ kj35) ∧ Aside0 (Kd.S (Kd.slice 5 (Kd.int .u8)) 43 w' w.heap.size (fun k_ => some k_ ≠ (v204 : Value).ownBlock) v200 t198) ∧ Aside0 (Kd.S (Kd.slice 5 (Kd.int .u8)) 43 w' w.heap.size (fun k_ => some k_ ≠ (v200 : Value).ownBlock) v204 t202) ∧ Aside0 (Below w.heap.size w w'))
                  case atStart => exact ⟨(0), (by first | rfl | (simp; done) | (simp [*]; done)), H', ⟨Nat.le_refl _⟩, ⟨by (with_reducible repeat (first | apply Kd.S_alloc | apply Kd.S_drewN | apply Kd.S_drew)); exact HO_15.out⟩, ⟨by (with_reducible repeat (first | apply Kd.S_alloc | apply Kd.S_drewN | apply Kd.S_drew)); exact HO_17.out⟩, ⟨by repeat (first | (with_reducible first | exact HB.out | apply below_alloc | apply pw_below_drewN | apply below_drew1) | exact HB.out)⟩⟩
                  case round =>
                    clear H'
                    try clear c1
                    try clear c2
                    try clear p2
                    try clear c3
                    try clear c4
                    try clear p6
                    try clear c9
                    try clear c10
                    try clear c11
                    try clear c11b0
                    try clear c12
                    try clear c12b0
                    try clear c13
                    try clear c13b0
                    try clear c14
                    try clear c15
                    try clear c16
                    try clear c20
                    try clear c20b0
                    try clear c20b1
                    try clear c21
                    try clear c36
                    try clear c37
                    try clear c39
                    try clear c39b0
                    try clear c39b1
                    try clear c40
                    try clear c40b0
                    try clear c40b1
                    try clear c41
                    try clear c42
                    try clear p2
                    try clear p6
                    obtain ⟨x19_4, rfl, HA, HK4, HO_15, HO_17, HB⟩ := hrel
                    cases gk with
                    | zero => exact absurd HA.out (by simp [quartermasterlaw02_MatOne.l0])
                    | succ k4 =>
                      have H := HA.out
                      clear HA
                      simp only [quartermasterlaw02_MatOne.l0] at H
                      by_cases c43 : x19_4 < (t202.length : Int)
                      · rw [if_pos c43] at H
                        have c43b0 : decide (x19_4 < (t202.length : Int)) = true := decide_eq_true c43
                        clear c43
                        have H' := Aside0.mk H
                        clear H
                        obtain ⟨Ao44, co44, eo44⟩ := Kd.S_slice HO_17.out
                        subst eo44
                        go_wp2
                        go_loopg [20] k4 (fun kq v20 w' => ∃ (x20_5 : Int), v20 = .int .i64 x20_5 ∧ Aside0 (quartermasterlaw02_MatOne.l1 kq a1 t198 t202 x19_4 x20_5 = some r) ∧ Aside0 (kq ≤ k4) ∧ Aside0 (Kd.S (Kd.slice 5 (Kd.int .u8)) 43 w' w.heap.size (fun k_ => some k_ ≠ ((.slice Ao44 t202.length co44) : Value).ownBlock) v200 t198) ∧ Aside0 (Kd.S (Kd.slice 5 (Kd.int .u8)) 43 w' w.heap.size (fun k_ => some k_ ≠ (v200 : Value).ownBlock) (.slice Ao44 t202.length co44) t202) ∧ Aside0 (Below w.heap.size w w'))
                        case atStart => exact ⟨(0), (by first | rfl | (simp; done) | (simp [*]; done)), H', ⟨Nat.le_refl _⟩, ⟨by (with_reducible repeat (first | apply Kd.S_alloc | apply Kd.S_drewN | apply Kd.S_drew)); exact HO_15.out⟩, ⟨by (with_reducible repeat (first | apply Kd.S_alloc | apply Kd.S_drewN | apply Kd.S_drew)); exact HO_17.out⟩, ⟨by repeat (first | (with_reducible first | exact HB.out | apply below_alloc | apply pw_below_drewN | apply below_drew1) | exact HB.out)⟩⟩
                        case round =>
                          clear H'
                          try clear c1
                          try clear c2
                          try clear p2
                          try clear c3
                          try clear c4
                          try clear p6
                          try clear c9
                          try clear c10
                          try clear c11
                          try clear c11b0
                          try clear c12
                          try clear c12b0
                          try clear c13
                          try clear c13b0
                          try clear c14
                          try clear c15
                          try clear c16
                          try clear c20
                          try clear c20b0
                          try clear c20b1
                          try clear c21
                          try clear c36
                          try clear c37
                          try clear c39
                          try clear c39b0
                          try clear c39b1
                          try clear c40
                          try clear c40b0
                          try clear c40b1
                          try clear c41
                          try clear c42
                          try clear c43
                          try clear c43b0
                          try clear c44
                          try clear p2
                          try clear p6
                          obtain ⟨x20_5, rfl, HA, HK5, HO_15, HO_17, HB⟩ := hrel
                          cases gk with
                          | zero => exact absurd HA.out (by simp [quartermasterlaw02_MatOne.l1])
                          | succ k5 =>
                            have H := HA.out
                            clear HA
                            simp only [quartermasterlaw02_MatOne.l1] at H
                            by_cases c45 : 0 ≤ x19_4
                            · rw [if_pos c45] at H
                              have c45b0 : decide (0 ≤ x19_4) = true := decide_eq_true c45
                              clear c45
                              by_cases c46 : x19_4 < (t202.length : Int)
                              · rw [if_pos c46] at H
                                have c46b0 : decide (x19_4 < (t202.length : Int)) = true := decide_eq_true c46
                                clear c46
                                by_cases c47 : x20_5 < ((rd_L1 t202 x19_4).length : Int)
                                · rw [if_pos c47] at H
                                  have c47b0 : decide (x20_5 < ((rd_L1 t202 x19_4).length : Int)) = true := decide_eq_true c47
                                  clear c47
                                  by_cases c48 : 0 ≤ x20_5
                                  · rw [if_pos c48] at H
                                    have c48b0 : decide (0 ≤ x20_5) = true := decide_eq_true c48
                                    clear c48
                                    by_cases c49 : (rd (rd_L1 t202 x19_4) x20_5) = 0
                                    · rw [if_pos c49] at H
                                      have c49b0 : ((rd (rd_L1 t202 x19_4) x20_5) == 0) = true := beq_iff_eq.mpr c49
                                      have c49b1 : ((rd (rd_L1 t202 x19_4) x20_5) != 0) = false := bne_eq_false_iff_eq.mpr c49
                                      clear c49
                                      obtain rfl := Option.some.inj H
                                      have p211 : 0 ≤ (x19_4 : Int) := of_decide_eq_true (by first | (with_reducible assumption) | assumption)
                                      have q211 : x19_4 < (t202.length : Int) := of_decide_eq_true (by first | (with_reducible assumption) | assumption)
                                      obtain ⟨ad211, A211_0, c211_0, e211, hx211_0, hl211_0, hi211_0⟩ := at_L1 (Kd.S_reads' HO_17.out).2.2 x19_4 p211 q211
                                      cases e211
                                      obtain ⟨ce211, hce211, hMe211, hcc211⟩ := Kd.S_get HO_17.out [] x19_4 p211 (by first | exact q211 | exact of_decide_eq_true (by first | (with_reducible assumption) | assumption) | (have e_ := (Kd.S_reads' HO_17.out).1; omega))
                                      obtain ⟨ve211_0, rfl, ge211_0⟩ := hMe211
                                      have hv211_0 := hcc211 0 _ rfl
                                      rw [Nat.add_zero, show ((Kd.slice 5 (Kd.int .u8))).sz = 1 from rfl, Nat.mul_one] at hv211_0
                                      replace hv211_0 := Option.some.inj (hv211_0.symm.trans hx211_0)
                                      rw [hv211_0] at ge211_0
                                      have HL211_0 := Aside0.mk (show Kd.R (Kd.int .u8) 5 _ _ _ _ (rd_L1 t202 x19_4) from ge211_0)
                                      clear hv211_0 ge211_0
                                      clear hcc211 hce211
                                      have HR211_0 := Aside0.mk hi211_0
                                      have HC211_0 := Aside0.mk hl211_0
                                      clear hi211_0 hl211_0
                                      replace p211 := eq_true p211
                                      replace q211 := eq_true q211
                                      have p212 : 0 ≤ (x19_4 : Int) := of_decide_eq_true (by first | (with_reducible assumption) | assumption)
                                      have q212 : x19_4 < (t202.length : Int) := of_decide_eq_true (by first | (with_reducible assumption) | assumption)
                                      obtain ⟨ad212, A212_0, c212_0, e212, hx212_0, hl212_0, hi212_0⟩ := at_L1 (Kd.S_reads' HO_17.out).2.2 x19_4 p212 q212
                                      obtain rfl : ad211 = ad212 := (by injection e212)
                                      obtain ⟨ce212, hce212, hMe212, hcc212⟩ := Kd.S_get HO_17.out [] x19_4 p212 (by first | exact q212 | exact of_decide_eq_true (by first | (with_reducible assumption) | assumption) | (have e_ := (Kd.S_reads' HO_17.out).1; omega))
                                      obtain ⟨ve212_0, rfl, ge212_0⟩ := hMe212
                                      have hv212_0 := hcc212 0 _ rfl
                                      rw [Nat.add_zero, show ((Kd.slice 5 (Kd.int .u8))).sz = 1 from rfl, Nat.mul_one] at hv212_0
                                      replace hv212_0 := Option.some.inj (hv212_0.symm.trans hx212_0)
                                      rw [hv212_0] at ge212_0
                                      have HL212_0 := Aside0.mk (show Kd.R (Kd.int .u8) 5 _ _ _ _ (rd_L1 t202 x19_4) from ge212_0)
                                      clear hv212_0 ge212_0
                                      clear hcc212 hce212
                                      have HR212_0 := Aside0.mk hi212_0
                                      have HC212_0 := Aside0.mk hl212_0
                                      clear hi212_0 hl212_0
                                      replace p212 := eq_true p212
                                      replace q212 := eq_true q212
                                      have ea_ := Option.some.inj (hx211_0.symm.trans hx212_0)
                                      injection ea_ with ea_ en_ ec_
                                      subst ea_
                                      subst ec_
                                      clear en_
                                      have p213 : 0 ≤ (x20_5 : Int) := of_decide_eq_true (by first | (with_reducible assumption) | assumption)
                                      have q213 : x20_5 < ((rd_L1 t202 x19_4).length : Int) := of_decide_eq_true (by first | (with_reducible assumption) | assumption)
                                      obtain ⟨ad213, e213, hx213_0⟩ := Kd.at_int (by repeat (first | (with_reducible exact HR212_0.out) | (with_reducible refine Kd.C_alloc ?_ _) | (with_reducible refine Kd.C_drewN ?_ _) | (with_reducible refine Kd.C_drew ?_) | exact HR212_0.out)) x20_5 p213 q213
                                      cases e213
                                      replace p213 := eq_true p213
                                      replace q213 := eq_true q213
                                      go_wp2
                                      go_ret
                                      exact ⟨by first | rfl | (simp [errW_none, errW_some] <;> rfl) | (simp [*, errW_none, errW_some] <;> rfl), by repeat (first | (with_reducible first | exact HB.out | apply below_alloc | apply pw_below_drewN | apply below_drew1) | exact HB.out)⟩
                                    · rw [if_neg c49] at H
                                      have c49b0 : ((rd (rd_L1 t202 x19_4) x20_5) == 0) = false := beq_eq_false_iff_ne.mpr c49
                                      have c49b1 : ((rd (rd_L1 t202 x19_4) x20_5) != 0) = true := bne_iff_ne.mpr c49
                                      have H' := Aside0.mk H
                                      clear H
                                      have p211 : 0 ≤ (x19_4 : Int) := of_decide_eq_true (by first | (with_reducible assumption) | assumption)
                                      have q211 : x19_4 < (t202.length : Int) := of_decide_eq_true (by first | (with_reducible assumption) | assumption)
                                      obtain ⟨ad211, A211_0, c211_0, e211, hx211_0, hl211_0, hi211_0⟩ := at_L1 (Kd.S_reads' HO_17.out).2.2 x19_4 p211 q211
                                      cases e211
                                      obtain ⟨ce211, hce211, hMe211, hcc211⟩ := Kd.S_get HO_17.out [] x19_4 p211 (by first | exact q211 | exact of_decide_eq_true (by first | (with_reducible assumption) | assumption) | (have e_ := (Kd.S_reads' HO_17.out).1; omega))
                                      obtain ⟨ve211_0, rfl, ge211_0⟩ := hMe211
                                      have hv211_0 := hcc211 0 _ rfl
                                      rw [Nat.add_zero, show ((Kd.slice 5 (Kd.int .u8))).sz = 1 from rfl, Nat.mul_one] at hv211_0
                                      replace hv211_0 := Option.some.inj (hv211_0.symm.trans hx211_0)
                                      rw [hv211_0] at ge211_0
                                      have HL211_0 := Aside0.mk (show Kd.R (Kd.int .u8) 5 _ _ _ _ (rd_L1 t202 x19_4) from ge211_0)
                                      clear hv211_0 ge211_0
                                      clear hcc211 hce211
                                      have HR211_0 := Aside0.mk hi211_0
                                      have HC211_0 := Aside0.mk hl211_0
                                      clear hi211_0 hl211_0
                                      replace p211 := eq_true p211
                                      replace q211 := eq_true q211
                                      have p212 : 0 ≤ (x19_4 : Int) := of_decide_eq_true (by first | (with_reducible assumption) | assumption)
                                      have q212 : x19_4 < (t202.length : Int) := of_decide_eq_true (by first | (with_reducible assumption) | assumption)
                                      obtain ⟨ad212, A212_0, c212_0, e212, hx212_0, hl212_0, hi212_0⟩ := at_L1 (Kd.S_reads' HO_17.out).2.2 x19_4 p212 q212
                                      obtain rfl : ad211 = ad212 := (by injection e212)
                                      obtain ⟨ce212, hce212, hMe212, hcc212⟩ := Kd.S_get HO_17.out [] x19_4 p212 (by first | exact q212 | exact of_decide_eq_true (by first | (with_reducible assumption) | assumption) | (have e_ := (Kd.S_reads' HO_17.out).1; omega))
                                      obtain ⟨ve212_0, rfl, ge212_0⟩ := hMe212
                                      have hv212_0 := hcc212 0 _ rfl
                                      rw [Nat.add_zero, show ((Kd.slice 5 (Kd.int .u8))).sz = 1 from rfl, Nat.mul_one] at hv212_0
                                      replace hv212_0 := Option.some.inj (hv212_0.symm.trans hx212_0)
                                      rw [hv212_0] at ge212_0
                                      have HL212_0 := Aside0.mk (show Kd.R (Kd.int .u8) 5 _ _ _ _ (rd_L1 t202 x19_4) from ge212_0)
                                      clear hv212_0 ge212_0
                                      clear hcc212 hce212
                                      have HR212_0 := Aside0.mk hi212_0
                                      have HC212_0 := Aside0.mk hl212_0
                                      clear hi212_0 hl212_0
                                      replace p212 := eq_true p212
                                      replace q212 := eq_true q212
                                      have ea_ := Option.some.inj (hx211_0.symm.trans hx212_0)
                                      injection ea_ with ea_ en_ ec_
                                      subst ea_
                                      subst ec_
                                      clear en_
                                      have p213 : 0 ≤ (x20_5 : Int) := of_decide_eq_true (by first | (with_reducible assumption) | assumption)
                                      have q213 : x20_5 < ((rd_L1 t202 x19_4).length : Int) := of_decide_eq_true (by first | (with_reducible assumption) | assumption)
                                      obtain ⟨ad213, e213, hx213_0⟩ := Kd.at_int (by repeat (first | (with_reducible exact HR212_0.out) | (with_reducible refine Kd.C_alloc ?_ _) | (with_reducible refine Kd.C_drewN ?_ _) | (with_reducible refine Kd.C_drew ?_) | exact HR212_0.out)) x20_5 p213 q213
                                      cases e213
                                      replace p213 := eq_true p213
                                      replace q213 := eq_true q213
                                      go_wp2
                                      go_roundg k5
                                      case measure => have := HJ6.out; have := HJ14.out; have := HJ35.out; have := HK4.out; have := HK5.out; omega
                                      case rel => exact ⟨(wrap64 (x20_5 + 1)), (by first | rfl | (simp; done) | (simp [*]; done)), H', ⟨by have := HJ6.out; have := HJ14.out; have := HJ35.out; have := HK4.out; have := HK5.out; omega⟩, ⟨by (with_reducible repeat (first | apply Kd.S_alloc | apply Kd.S_drewN | apply Kd.S_drew)); exact HO_15.out⟩, ⟨by (with_reducible repeat (first | apply Kd.S_alloc | apply Kd.S_drewN | apply Kd.S_drew)); exact HO_17.out⟩, ⟨by repeat (first | (with_reducible first | exact HB.out | apply below_alloc | apply pw_below_drewN | apply below_drew1) | exact HB.out)⟩⟩
                                  · rw [if_neg c48] at H
                                    exact absurd H (by simp)
                                · rw [if_neg c47] at H
                                  have c47b0 : decide (x20_5 < ((rd_L1 t202 x19_4).length : Int)) = false := decide_eq_false c47
                                  clear c47
                                  have H' := Aside0.mk H
                                  clear H
                                  have p211 : 0 ≤ (x19_4 : Int) := of_decide_eq_true (by first | (with_reducible assumption) | assumption)
                                  have q211 : x19_4 < (t202.length : Int) := of_decide_eq_true (by first | (with_reducible assumption) | assumption)
                                  obtain ⟨ad211, A211_0, c211_0, e211, hx211_0, hl211_0, hi211_0⟩ := at_L1 (Kd.S_reads' HO_17.out).2.2 x19_4 p211 q211
                                  cases e211
                                  obtain ⟨ce211, hce211, hMe211, hcc211⟩ := Kd.S_get HO_17.out [] x19_4 p211 (by first | exact q211 | exact of_decide_eq_true (by first | (with_reducible assumption) | assumption) | (have e_ := (Kd.S_reads' HO_17.out).1; omega))
                                  obtain ⟨ve211_0, rfl, ge211_0⟩ := hMe211
                                  have hv211_0 := hcc211 0 _ rfl
                                  rw [Nat.add_zero, show ((Kd.slice 5 (Kd.int .u8))).sz = 1 from rfl, Nat.mul_one] at hv211_0
                                  replace hv211_0 := Option.some.inj (hv211_0.symm.trans hx211_0)
                                  rw [hv211_0] at ge211_0
                                  have HL211_0 := Aside0.mk (show Kd.R (Kd.int .u8) 5 _ _ _ _ (rd_L1 t202 x19_4) from ge211_0)
                                  clear hv211_0 ge211_0
                                  clear hcc211 hce211
                                  have HR211_0 := Aside0.mk hi211_0
                                  have HC211_0 := Aside0.mk hl211_0
                                  clear hi211_0 hl211_0
                                  replace p211 := eq_true p211
                                  replace q211 := eq_true q211
                                  go_wp2
                                  go_roundg k5
                                  case measure => have := HJ6.out; have := HJ14.out; have := HJ35.out; have := HK4.out; have := HK5.out; omega
                                  case rel => exact ⟨(wrap64 (x19_4 + 1)), (by first | rfl | (simp; done) | (simp [*]; done)), H', ⟨by have := HJ6.out; have := HJ14.out; have := HJ35.out; have := HK4.out; have := HK5.out; omega⟩, ⟨by (with_reducible repeat (first | apply Kd.S_alloc | apply Kd.S_drewN | apply Kd.S_drew)); exact HO_15.out⟩, ⟨by (with_reducible repeat (first | apply Kd.S_alloc | apply Kd.S_drewN | apply Kd.S_drew)); exact HO_17.out⟩, ⟨by repeat (first | (with_reducible first | exact HB.out | apply below_alloc | apply pw_below_drewN | apply below_drew1) | exact HB.out)⟩⟩
                              · rw [if_neg c46] at H
                                exact absurd H (by simp)
                            · rw [if_neg c45] at H
                              exact absurd H (by simp)
                      · rw [if_neg c43] at H
                        have c43b0 : decide (x19_4 < (t202.length : Int)) = false := decide_eq_false c43
                        clear c43
                        by_cases c50 : 0 ≤ a1
                        · rw [if_pos c50] at H
                          have c50b0 := eq_true c50
                          have c50b1 : decide (0 ≤ a1) = true := decide_eq_true c50
                          clear c50
                          by_cases c51 : a1 ≤ (t202.length : Int)
                          · rw [if_pos c51] at H
                            have c51b0 := eq_true c51
                            have c51b1 : decide (a1 ≤ (t202.length : Int)) = true := decide_eq_true c51
                            clear c51
                            obtain ⟨y206, hy206⟩ : ∃ y_ : List (List Int), y_ = (t202.take (a1 : Int).toNat) := ⟨_, rfl⟩
                            replace H : ((quartermasterref02_Same.f k4 t198 y206).bind fun t210 => (some t210)) = some r := by first | (rw [hy206]; with_reducible exact H) | (have H2_ := (Option.bind_some _ _).symm.trans H; rw [hy206]; with_reducible exact H2_) | (have H2_ := (Option.bind_some _ _).symm.trans H; with_reducible exact H2_) | with_reducible exact H | (rw [hy206]; exact H) | exact H
                            have Ny206 := Aside0.mk hy206
                            clear hy206
                            replace H := Option.bind_eq_some_iff.mp H
                            obtain ⟨t210, A520, H⟩ := H
                            replace H : (some t210) = some r := H
                            have A52 := Aside0.mk A520
                            clear A520
                            obtain rfl := Option.some.inj H
                            obtain ⟨Ao53, co53, eo53⟩ := Kd.S_slice HO_17.out
                            subst eo53
                            have q54 : (a1 : Int) ≤ ((t202.length : Int) : Int) := of_decide_eq_true (by first | (with_reducible assumption) | assumption)
                            obtain ⟨i054, hi054, _, hsz54, _⟩ := info_parts info43
                            have hroom54 : t202.length ≤ co53 := (Kd.S_reads' HO_17.out).2.1
                            have hC54 : Kd.C (Kd.slice 5 (Kd.int .u8)) _ Ao53 t202.length t202 := (Kd.S_reads' HO_17.out).2.2
                            have hcut54 := cut_to (P := Try.prog) 42 43 .i64 Try.underlying42 hi054 Ao53 t202.length co53 a1 (of_decide_eq_true (by first | (with_reducible assumption) | assumption)) q54 hroom54
                            have hr54 := Kd.C_take (m := (a1 : Int).toNat) hC54 (by omega)
                            have hy54 : y206.length = (a1 : Int).toNat := (by rw [Ny206.out, List.length_take]; omega)
                            rw [← Ny206.out] at hr54
                            rw [← hy54] at hcut54
                            have HR209 := Aside0.mk hr54
                            have HC209 := Aside0.mk (show y206.length ≤ co53 from by omega)
                            clear hr54 hC54 hroom54 hi054 hsz54
                            have KY54 := Aside0.mk hy54
                            clear hy54
                            have KL54 := Aside0.mk (show (a1 : Int).toNat ≤ t202.length from by omega)
                            replace q54 := eq_true q54
                            obtain ⟨Ao55, co55, eo55⟩ := Kd.S_slice HO_15.out
                            subst eo55
                            go_wp2_with (first | ((with_reducible refine gate_callee (f := 41) rfl ?_); refine goesL_ (some 124) rfl rfl Try.func41 (by kernel_rfl) rfl #[.slice Ao55 t198.length co55, .slice Ao53 y206.length co53] rfl (by (try simp only [List.map_toArray, List.map_cons, List.map_nil]); first | done | rfl | (simp only [List.length_drop, List.length_take]; rfl)) ?_; (with_reducible refine (quartermasterref02_Same.calls k4 _ _ t198 _ _ y206 t210 _ ?side1 ?side2 ?side3 ?side4 A52.out).mono ?_); (case side1 => repeat (first | exact (Kd.S_reads' HO_15.out).2.2 | (with_reducible refine Kd.C_alloc ?_ _) | (with_reducible refine Kd.C_drewN ?_ _) | (with_reducible refine Kd.C_drew ?_))); (case side2 => exact (Kd.S_reads' HO_15.out).2.1); (case side3 => repeat (first | exact (by repeat (first | (with_reducible exact HR209.out) | (with_reducible refine Kd.C_alloc ?_ _) | (with_reducible refine Kd.C_drewN ?_ _) | (with_reducible refine Kd.C_drew ?_) | exact HR209.out)) | (with_reducible refine Kd.C_alloc ?_ _) | (with_reducible refine Kd.C_drewN ?_ _) | (with_reducible refine Kd.C_drew ?_))); (case side4 => exact HC209.out); rintro e w' ⟨rfl, ⟨nd, rfl⟩⟩; refine ⟨_, rfl, ?_⟩))
                            go_ret
                            exact ⟨by first | rfl | (simp [errW_none, errW_some] <;> rfl) | (simp [*, errW_none, errW_some] <;> rfl), by repeat (first | (with_reducible first | exact HB.out | apply below_alloc | apply pw_below_drewN | apply below_drew1) | exact HB.out)⟩
                          · rw [if_neg c51] at H
                            exact absurd H (by simp)
                        · rw [if_neg c50] at H
                          exact absurd H (by simp)

end Go.Proofs.Ythblmkailhdhlaa.Q
