-- PRINTED by print.py (a twelfth state) out of the translation. Not trusted: Lean checks it.
import Derived.Test.YthblmkailhdhlaaXA0
namespace Go.Proofs.Ythblmkailhdhlaa.XA
open Go.Proofs.Ythblmkailhdhlaa.G Go.Proofs.Ythblmkailhdhlaa.P Go.Proofs.Ythblmkailhdhlaa.Given Go.Proofs.Ythblmkailhdhlaa.T Go.RowKit Go.Proofs.YthblmkailhdhlaaW.PrintWords Go.Proofs.YthblmkailhdhlaaW.PrintLast Go.Proofs.YthblmkailhdhlaaW.PrintMore
attribute [local go_sem] max2_int min2_int max_two min_two max_three min_three max_four min_four   -- for this text's walks alone
set_option linter.unusedVariables false
set_option linter.unusedSimpArgs false

/-! ### quartermasterlaw03_RsAny: function 21 -/
mutual
def quartermasterlaw03_RsAny.j0 : Nat → List (List Int) → Int → List Bool → List Bool → Bool → Bool → Option (Bool)
  | 0, _, _, _, _, _, _ => none
  | k + 1, x0, x1, x2, x3, x9, x49 => if x49 = true then (some x9) else ((rs_Encode.f k x0 x1).bind fun bt104 => (if bt104.2 = 0 then (if ([] : List (List Int)).length + x0.length < 5864062014805 then ((some (([] : List (List Int)) ++ x0 : List (List Int))).bind fun y108 => (if y108.length + bt104.1.length < 5864062014805 then (quartermasterlaw03_RsAny.l0 k x0 x2 x3 (y108 ++ bt104.1) ([] : List (List Int)) ([] : List (List Int)) 0) else (none))) else (none)) else (none)))
def quartermasterlaw03_RsAny.l0 : Nat → List (List Int) → List Bool → List Bool → List (List Int) → List (List Int) → List (List Int) → Int → Option (Bool)
  | 0, _, _, _, _, _, _, _ => none
  | k + 1, x0, x2, x3, x14, x15, x16, x17 => if x17 < (x14.length : Int) then (if 0 ≤ x17 then (if x15.length < 5864062014805 then ((some (x15 ++ [rd_L1 x14 x17] : List (List Int))).bind fun y115 => (if x16.length < 5864062014805 then ((some (x16 ++ [rd_L1 x14 x17] : List (List Int))).bind fun y119 => (if x17 < (x2.length : Int) then (quartermasterlaw03_RsAny.j2 k x0 x2 x3 x14 y115 y119 x17 (rdOf false x2 x17)) else (quartermasterlaw03_RsAny.j2 k x0 x2 x3 x14 y115 y119 x17 false))) else (none))) else (none)) else (none)) else ((rs_Decode.f x15 (x0.length : Int)).bind fun bt128 => ((rs_Decode.f x16 (x0.length : Int)).bind fun bt132 => (if bt128.2 = 0 then (if bt132.2 = 0 then ((quartermasterref02_Same.f k bt128.1 bt132.1).bind fun t136 => (some t136)) else (some (bt132.2 == 9))) else (if bt128.2 = 9 then (if bt132.2 = 0 then (some true) else (some (bt132.2 == 9))) else (none)))))
def quartermasterlaw03_RsAny.j2 : Nat → List (List Int) → List Bool → List Bool → List (List Int) → List (List Int) → List (List Int) → Int → Bool → Option (Bool)
  | 0, _, _, _, _, _, _, _, _ => none
  | k + 1, x0, x2, x3, x14, x15, x16, x17, x92 => if x92 = true then (if 0 ≤ x17 then (if x17 < (x15.length : Int) then ((some (x15.set (x17 : Int).toNat ([] : List Int) : List (List Int))).bind fun y123 => (if x17 < (x3.length : Int) then (if rdOf false x3 x17 = true then (if x17 < (x16.length : Int) then (quartermasterlaw03_RsAny.l0 k x0 x2 x3 x14 y123 (x16.set (x17 : Int).toNat ([] : List Int)) (wrap64 (x17 + 1))) else (none)) else (quartermasterlaw03_RsAny.l0 k x0 x2 x3 x14 y123 x16 (wrap64 (x17 + 1)))) else (quartermasterlaw03_RsAny.l0 k x0 x2 x3 x14 y123 x16 (wrap64 (x17 + 1))))) else (none)) else (none)) else (if x17 < (x3.length : Int) then (if 0 ≤ x17 then (if rdOf false x3 x17 = true then (if x17 < (x16.length : Int) then (quartermasterlaw03_RsAny.l0 k x0 x2 x3 x14 x15 (x16.set (x17 : Int).toNat ([] : List Int)) (wrap64 (x17 + 1))) else (none)) else (quartermasterlaw03_RsAny.l0 k x0 x2 x3 x14 x15 x16 (wrap64 (x17 + 1)))) else (none)) else (quartermasterlaw03_RsAny.l0 k x0 x2 x3 x14 x15 x16 (wrap64 (x17 + 1))))
end
def quartermasterlaw03_RsAny.f (k : Nat) (l0 : List (List Int)) (a1 : Int) (l2 : List Bool) (l3 : List Bool) : Option (Bool) := (quartermasterlaw03_awake.f).bind fun t101 => ((quartermasterlaw03_light.f k l0).bind fun t102 => ((quartermasterref02_May.f k l0).bind fun t103 => (if t101 = true then (if t102 = true then (if t103 = true then (if (l0.length : Int) > 12 then (quartermasterlaw03_RsAny.j0 k l0 a1 l2 l3 t101 true) else (if a1 < 0 then (quartermasterlaw03_RsAny.j0 k l0 a1 l2 l3 t101 true) else (quartermasterlaw03_RsAny.j0 k l0 a1 l2 l3 t101 (decide (a1 > 8))))) else (quartermasterlaw03_RsAny.j0 k l0 a1 l2 l3 t101 true)) else (quartermasterlaw03_RsAny.j0 k l0 a1 l2 l3 t101 true)) else (quartermasterlaw03_RsAny.j0 k l0 a1 l2 l3 t101 true))))
theorem quartermasterlaw03_RsAny.mono_l : ∀ k, (∀ y0 y1 y2 y3 y4 y5, LeO (quartermasterlaw03_RsAny.j0 k y0 y1 y2 y3 y4 y5) (quartermasterlaw03_RsAny.j0 (k + 1) y0 y1 y2 y3 y4 y5)) ∧ (∀ y0 y1 y2 y3 y4 y5 y6, LeO (quartermasterlaw03_RsAny.l0 k y0 y1 y2 y3 y4 y5 y6) (quartermasterlaw03_RsAny.l0 (k + 1) y0 y1 y2 y3 y4 y5 y6)) ∧ (∀ y0 y1 y2 y3 y4 y5 y6 y7, LeO (quartermasterlaw03_RsAny.j2 k y0 y1 y2 y3 y4 y5 y6 y7) (quartermasterlaw03_RsAny.j2 (k + 1) y0 y1 y2 y3 y4 y5 y6 y7))
  | 0 => ⟨fun _ _ _ _ _ _ r h => by simp [quartermasterlaw03_RsAny.j0] at h, fun _ _ _ _ _ _ _ r h => by simp [quartermasterlaw03_RsAny.l0] at h, fun _ _ _ _ _ _ _ _ r h => by simp [quartermasterlaw03_RsAny.j2] at h⟩
  | k + 1 => by
    obtain ⟨ih0, ih1, ih2⟩ := quartermasterlaw03_RsAny.mono_l k
    refine ⟨?_, ?_, ?_⟩
    · intro y0 y1 y2 y3 y4 y5
      unfold quartermasterlaw03_RsAny.j0
      repeat' first
      | (with_reducible exact ih0 _ _ _ _ _ _)
      | (with_reducible exact ih1 _ _ _ _ _ _ _)
      | (with_reducible exact ih2 _ _ _ _ _ _ _ _)
      | (with_reducible exact quartermasterlaw03_light.mono _ _)
      | (with_reducible exact quartermasterref02_May.mono _ _)
      | (with_reducible exact quartermasterref02_Same.mono _ _ _)
      | (with_reducible exact rs_Encode.mono _ _ _)
      | (with_reducible exact LeO.refl _)
      | (with_reducible exact LeO.none _)
      | (with_reducible refine LeO.ite ?_ ?_)
      | (with_reducible refine LeO.bind ?_ (fun _ => ?_))
      | exact ih0 _ _ _ _ _ _
      | exact ih1 _ _ _ _ _ _ _
      | exact ih2 _ _ _ _ _ _ _ _
      | exact quartermasterlaw03_light.mono _ _
      | exact quartermasterref02_May.mono _ _
      | exact quartermasterref02_Same.mono _ _ _
      | exact rs_Encode.mono _ _ _
      | exact LeO.none _
      | refine LeO.ite ?_ ?_
      | refine LeO.bind ?_ (fun _ => ?_)
    · intro y0 y1 y2 y3 y4 y5 y6
      unfold quartermasterlaw03_RsAny.l0
      repeat' first
      | (with_reducible exact ih0 _ _ _ _ _ _)
      | (with_reducible exact ih1 _ _ _ _ _ _ _)
      | (with_reducible exact ih2 _ _ _ _ _ _ _ _)
      | (with_reducible exact quartermasterlaw03_light.mono _ _)
      | (with_reducible exact quartermasterref02_May.mono _ _)
      | (with_reducible exact quartermasterref02_Same.mono _ _ _)
      | (with_reducible exact rs_Encode.mono _ _ _)
      | (with_reducible exact LeO.refl _)
      | (with_reducible exact LeO.none _)
      | (with_reducible refine LeO.ite ?_ ?_)
      | (with_reducible refine LeO.bind ?_ (fun _ => ?_))
      | exact ih0 _ _ _ _ _ _
      | exact ih1 _ _ _ _ _ _ _
      | exact ih2 _ _ _ _ _ _ _ _
      | exact quartermasterlaw03_light.mono _ _
      | exact quartermasterref02_May.mono _ _
      | exact quartermasterref02_Same.mono _ _ _
      | exact rs_Encode.mono _ _ _
      | exact LeO.none _
      | refine LeO.ite ?_ ?_
      | refine LeO.bind ?_ (fun _ => ?_)
    · intro y0 y1 y2 y3 y4 y5 y6 y7
      unfold quartermasterlaw03_RsAny.j2
      repeat' first
      | (with_reducible exact ih0 _ _ _ _ _ _)
      | (with_reducible exact ih1 _ _ _ _ _ _ _)
      | (with_reducible exact ih2 _ _ _ _ _ _ _ _)
      | (with_reducible exact quartermasterlaw03_light.mono _ _)
      | (with_reducible exact quartermasterref02_May.mono _ _)
      | (with_reducible exact quartermasterref02_Same.mono _ _ _)
      | (with_reducible exact rs_Encode.mono _ _ _)
      | (with_reducible exact LeO.refl _)
      | (with_reducible exact LeO.none _)
      | (with_reducible refine LeO.ite ?_ ?_)
      | (with_reducible refine LeO.bind ?_ (fun _ => ?_))
      | exact ih0 _ _ _ _ _ _
      | exact ih1 _ _ _ _ _ _ _
      | exact ih2 _ _ _ _ _ _ _ _
      | exact quartermasterlaw03_light.mono _ _
      | exact quartermasterref02_May.mono _ _
      | exact quartermasterref02_Same.mono _ _ _
      | exact rs_Encode.mono _ _ _
      | exact LeO.none _
      | refine LeO.ite ?_ ?_
      | refine LeO.bind ?_ (fun _ => ?_)
theorem quartermasterlaw03_RsAny.mono : ∀ a0 a1 a2 a3 k, LeO (quartermasterlaw03_RsAny.f k a0 a1 a2 a3) (quartermasterlaw03_RsAny.f (k + 1) a0 a1 a2 a3) := by
  intro a0 a1 a2 a3 k
  obtain ⟨ih0, ih1, ih2⟩ := quartermasterlaw03_RsAny.mono_l k
  unfold quartermasterlaw03_RsAny.f
  repeat' first
      | (with_reducible exact ih0 _ _ _ _ _ _)
      | (with_reducible exact ih1 _ _ _ _ _ _ _)
      | (with_reducible exact ih2 _ _ _ _ _ _ _ _)
      | (with_reducible exact quartermasterlaw03_light.mono _ _)
      | (with_reducible exact quartermasterref02_May.mono _ _)
      | (with_reducible exact quartermasterref02_Same.mono _ _ _)
      | (with_reducible exact rs_Encode.mono _ _ _)
      | (with_reducible exact LeO.refl _)
      | (with_reducible exact LeO.none _)
      | (with_reducible refine LeO.ite ?_ ?_)
      | (with_reducible refine LeO.bind ?_ (fun _ => ?_))
      | exact ih0 _ _ _ _ _ _
      | exact ih1 _ _ _ _ _ _ _
      | exact ih2 _ _ _ _ _ _ _ _
      | exact quartermasterlaw03_light.mono _ _
      | exact quartermasterref02_May.mono _ _
      | exact quartermasterref02_Same.mono _ _ _
      | exact rs_Encode.mono _ _ _
      | exact LeO.none _
      | refine LeO.ite ?_ ?_
      | refine LeO.bind ?_ (fun _ => ?_)
set_option maxHeartbeats 8000000 in
set_option maxRecDepth 100000 in
theorem quartermasterlaw03_RsAny.calls (k : Nat) (P0_ : Nat → Prop) (A0 : Option Addr) (c0 : Nat) (l0 : List (List Int)) (a1 : Int) (A2 : Option Addr) (c2 : Nat) (l2 : List Bool) (A3 : Option Addr) (c3 : Nat) (l3 : List Bool) (r : Bool) (w : World) (hs0 : Kd.V (Kd.slice 5 (Kd.int .u8)) 43 w w.heap.size (fun k_ => P0_ k_) (.slice A0 l0.length c0) l0) (hr2 : Kd.C Kd.bool w A2 l2.length l2) (hc2 : l2.length ≤ c2) (hr3 : Kd.C Kd.bool w A3 l3.length l3) (hc3 : l3.length ≤ c3) (h : quartermasterlaw03_RsAny.f k l0 a1 l2 l3 = some r) :
    Calls Try.prog 21 #[.slice A0 l0.length c0, .int .i64 a1, .slice A2 l2.length c2, .slice A3 l3.length c3] w fun e w' => e = .returned (.bool r) ∧ Below w.heap.size w w' := by
  have HO0 := Aside0.mk (show Kd.V (Kd.slice 5 (Kd.int .u8)) 43 w w.heap.size (fun k_ => (P0_ k_ ∨ w.heap.size ≤ k_)) (.slice A0 l0.length c0) l0 from Kd.V_mono hs0 (fun k_ hk => .inl hk))
  have HR2 := Aside0.mk hr2
  have HC2 := Aside0.mk hc2
  clear hr2 hc2
  have HR3 := Aside0.mk hr3
  have HC3 := Aside0.mk hc3
  clear hr3 hc3
  have HB := Aside0.mk (Below.refl w.heap.size w)
  have H : ((quartermasterlaw03_awake.f).bind fun t101 => ((quartermasterlaw03_light.f k l0).bind fun t102 => ((quartermasterref02_May.f k l0).bind fun t103 => (if t101 = true then (if t102 = true then (if t103 = true then (if (l0.length : Int) > 12 then (quartermasterlaw03_RsAny.j0 k l0 a1 l2 l3 t101 true) else (if a1 < 0 then (quartermasterlaw03_RsAny.j0 k l0 a1 l2 l3 t101 true) else (quartermasterlaw03_RsAny.j0 k l0 a1 l2 l3 t101 (decide (a1 > 8))))) else (quartermasterlaw03_RsAny.j0 k l0 a1 l2 l3 t101 true)) else (quartermasterlaw03_RsAny.j0 k l0 a1 l2 l3 t101 true)) else (quartermasterlaw03_RsAny.j0 k l0 a1 l2 l3 t101 true))))) = some r := h
  clear h
  replace H := Option.bind_eq_some_iff.mp H
  obtain ⟨t101, A50, H⟩ := H
  replace H : ((quartermasterlaw03_light.f k l0).bind fun t102 => ((quartermasterref02_May.f k l0).bind fun t103 => (if t101 = true then (if t102 = true then (if t103 = true then (if (l0.length : Int) > 12 then (quartermasterlaw03_RsAny.j0 k l0 a1 l2 l3 t101 true) else (if a1 < 0 then (quartermasterlaw03_RsAny.j0 k l0 a1 l2 l3 t101 true) else (quartermasterlaw03_RsAny.j0 k l0 a1 l2 l3 t101 (decide (a1 > 8))))) else (quartermasterlaw03_RsAny.j0 k l0 a1 l2 l3 t101 true)) else (quartermasterlaw03_RsAny.j0 k l0 a1 l2 l3 t101 true)) else (quartermasterlaw03_RsAny.j0 k l0 a1 l2 l3 t101 true)))) = some r := H
  have A5 := Aside0.mk A50
  clear A50
  replace H := Option.bind_eq_some_iff.mp H
  obtain ⟨t102, A60, H⟩ := H
  replace H : ((quartermasterref02_May.f k l0).bind fun t103 => (if t101 = true then (if t102 = true then (if t103 = true then (if (l0.length : Int) > 12 then (quartermasterlaw03_RsAny.j0 k l0 a1 l2 l3 t101 true) else (if a1 < 0 then (quartermasterlaw03_RsAny.j0 k l0 a1 l2 l3 t101 true) else (quartermasterlaw03_RsAny.j0 k l0 a1 l2 l3 t101 (decide (a1 > 8))))) else (quartermasterlaw03_RsAny.j0 k l0 a1 l2 l3 t101 true)) else (quartermasterlaw03_RsAny.j0 k l0 a1 l2 l3 t101 true)) else (quartermasterlaw03_RsAny.j0 k l0 a1 l2 l3 t101 true))) = some r := H
  have A6 := Aside0.mk A60
  clear A60
  replace H := Option.bind_eq_some_iff.mp H
  obtain ⟨t103, A70, H⟩ := H
  replace H : (if t101 = true then (if t102 = true then (if t103 = true then (if (l0.length : Int) > 12 then (quartermasterlaw03_RsAny.j0 k l0 a1 l2 l3 t101 true) else (if a1 < 0 then (quartermasterlaw03_RsAny.j0 k l0 a1 l2 l3 t101 true) else (quartermasterlaw03_RsAny.j0 k l0 a1 l2 l3 t101 (decide (a1 > 8))))) else (quartermasterlaw03_RsAny.j0 k l0 a1 l2 l3 t101 true)) else (quartermasterlaw03_RsAny.j0 k l0 a1 l2 l3 t101 true)) else (quartermasterlaw03_RsAny.j0 k l0 a1 l2 l3 t101 true)) = some r := H
  have A7 := Aside0.mk A70
  clear A70
  have HC8 := Aside0.mk H
  clear H
  go_enter Try.func21, Try.ntmps21
  go_upto_region 4 with (first | ((with_reducible refine gate_callee (f := 49) rfl ?_); refine goesL_ (some 22) rfl rfl Try.func49 (by kernel_rfl) rfl #[] rfl (by (try simp only [List.map_toArray, List.map_cons, List.map_nil]); first | done | rfl | (simp only [List.length_drop, List.length_take]; rfl)) ?_; (with_reducible refine (quartermasterlaw03_awake.calls  t101 _ A5.out).mono ?_); rintro e w9 ⟨rfl, hb⟩; refine ⟨_, rfl, ?_⟩; have n0_ := Aside0.mk (Kd.V_below (by (with_reducible repeat (first | apply Kd.V_alloc | apply Kd.V_drewN | apply Kd.V_drew)); exact HO0.out) hb); have n1_ := Aside0.mk (below_step (by repeat (first | (with_reducible first | exact HB.out | apply below_alloc | apply pw_below_drewN | apply below_drew1) | exact HB.out)) hb); clear HO0; clear HB; have HO0 := n0_; have HB := n1_; clear n0_ n1_; (try clear hb); (try clear hb2); (try clear hk); (try clear hi)) | ((with_reducible refine gate_callee (f := 50) rfl ?_); refine goesL_ (some 24) rfl rfl Try.func50 (by kernel_rfl) rfl #[.slice A0 l0.length c0] rfl (by (try simp only [List.map_toArray, List.map_cons, List.map_nil]); first | done | rfl | (simp only [List.length_drop, List.length_take]; rfl)) ?_; (with_reducible refine (quartermasterlaw03_light.calls k _ _ l0 t102 _ ?side1 ?side2 A6.out).mono ?_); (case side1 => repeat (first | exact (Kd.V_reads' HO0.out).2.2 | (with_reducible refine Kd.C_alloc ?_ _) | (with_reducible refine Kd.C_drewN ?_ _) | (with_reducible refine Kd.C_drew ?_))); (case side2 => exact (Kd.V_reads' HO0.out).2.1); rintro e w' ⟨rfl, ⟨nd, rfl⟩⟩; refine ⟨_, rfl, ?_⟩) | ((with_reducible refine gate_callee (f := 43) rfl ?_); refine goesL_ (some 26) rfl rfl Try.func43 (by kernel_rfl) rfl #[.slice A0 l0.length c0] rfl (by (try simp only [List.map_toArray, List.map_cons, List.map_nil]); first | done | rfl | (simp only [List.length_drop, List.length_take]; rfl)) ?_; (with_reducible refine (quartermasterref02_May.calls k _ _ l0 t103 _ ?side1 ?side2 A7.out).mono ?_); (case side1 => repeat (first | exact (Kd.V_reads' HO0.out).2.2 | (with_reducible refine Kd.C_alloc ?_ _) | (with_reducible refine Kd.C_drewN ?_ _) | (with_reducible refine Kd.C_drew ?_))); (case side2 => exact (Kd.V_reads' HO0.out).2.1); rintro e w' ⟨rfl, ⟨nd, rfl⟩⟩; refine ⟨_, rfl, ?_⟩))
  (try simp only [Act.put, List.setIfInBounds_toArray, List.set_cons_zero, List.set_cons_succ])
  go_cut [49] (fun v49 wc => ∃ (kq : Nat) (x49_7 : Bool), v49 = .bool x49_7 ∧ Aside0 (quartermasterlaw03_RsAny.j0 kq l0 a1 l2 l3 t101 x49_7 = some r) ∧ Aside0 (kq ≤ k) ∧ Aside0 (Kd.V (Kd.slice 5 (Kd.int .u8)) 43 wc w.heap.size (fun k_ => (P0_ k_ ∨ w.heap.size ≤ k_)) (.slice A0 l0.length c0) l0) ∧ Aside0 (Below w.heap.size w wc))
  case first =>
    have H := HC8.out
    clear HC8
    by_cases c10 : t101 = true
    · subst c10
      have H1 : (if t102 = true then (if t103 = true then (if (l0.length : Int) > 12 then (quartermasterlaw03_RsAny.j0 k l0 a1 l2 l3 true true) else (if a1 < 0 then (quartermasterlaw03_RsAny.j0 k l0 a1 l2 l3 true true) else (quartermasterlaw03_RsAny.j0 k l0 a1 l2 l3 true (decide (a1 > 8))))) else (quartermasterlaw03_RsAny.j0 k l0 a1 l2 l3 true true)) else (quartermasterlaw03_RsAny.j0 k l0 a1 l2 l3 true true)) = some r := by rw [if_pos rfl] at H; exact H
      clear H
      have H := H1
      clear H1
      by_cases c11 : t102 = true
      · subst c11
        have H1 : (if t103 = true then (if (l0.length : Int) > 12 then (quartermasterlaw03_RsAny.j0 k l0 a1 l2 l3 true true) else (if a1 < 0 then (quartermasterlaw03_RsAny.j0 k l0 a1 l2 l3 true true) else (quartermasterlaw03_RsAny.j0 k l0 a1 l2 l3 true (decide (a1 > 8))))) else (quartermasterlaw03_RsAny.j0 k l0 a1 l2 l3 true true)) = some r := by rw [if_pos rfl] at H; exact H
        clear H
        have H := H1
        clear H1
        by_cases c12 : t103 = true
        · subst c12
          have H1 : (if (l0.length : Int) > 12 then (quartermasterlaw03_RsAny.j0 k l0 a1 l2 l3 true true) else (if a1 < 0 then (quartermasterlaw03_RsAny.j0 k l0 a1 l2 l3 true true) else (quartermasterlaw03_RsAny.j0 k l0 a1 l2 l3 true (decide (a1 > 8))))) = some r := by rw [if_pos rfl] at H; exact H
          clear H
          have H := H1
          clear H1
          by_cases c13 : (l0.length : Int) > 12
          · rw [if_pos c13] at H
            have c13b0 : decide (12 < (l0.length : Int)) = true := decide_eq_true c13
            have c13b1 : decide (12 < l0.length) = true := decide_eq_true (by omega)
            clear c13
            (first | rw [c13b0] | (simp only [i64_w, i32_w]; rw [c13b0]) | skip)
            have H' := Aside0.mk H
            clear H
            go_wp2
            go_meet
            case rel => exact ⟨_, (true), (by first | rfl | (simp; done) | (simp [*]; done)), H', ⟨by first | omega | exact Nat.le_refl _⟩, ⟨by (with_reducible repeat (first | apply Kd.V_alloc | apply Kd.V_drewN | apply Kd.V_drew)); exact HO0.out⟩, ⟨by repeat (first | (with_reducible first | exact HB.out | apply below_alloc | apply pw_below_drewN | apply below_drew1) | exact HB.out)⟩⟩
          · rw [if_neg c13] at H
            have c13b0 : decide (12 < (l0.length : Int)) = false := decide_eq_false c13
            have c13b1 : decide (12 < l0.length) = false := decide_eq_false (by omega)
            clear c13
            (first | rw [c13b0] | (simp only [i64_w, i32_w]; rw [c13b0]) | skip)
            by_cases c14 : a1 < 0
            · rw [if_pos c14] at H
              have c14b0 : decide (a1 < 0) = true := decide_eq_true c14
              clear c14
              have H' := Aside0.mk H
              clear H
              go_wp2
              go_meet
              case rel => exact ⟨_, (true), (by first | rfl | (simp; done) | (simp [*]; done)), H', ⟨by first | omega | exact Nat.le_refl _⟩, ⟨by (with_reducible repeat (first | apply Kd.V_alloc | apply Kd.V_drewN | apply Kd.V_drew)); exact HO0.out⟩, ⟨by repeat (first | (with_reducible first | exact HB.out | apply below_alloc | apply pw_below_drewN | apply below_drew1) | exact HB.out)⟩⟩
            · rw [if_neg c14] at H
              have c14b0 : decide (a1 < 0) = false := decide_eq_false c14
              clear c14
              have H' := Aside0.mk H
              clear H
              go_wp2
              go_meet
              case rel => exact ⟨_, (decide (a1 > 8)), (by first | rfl | (simp; done) | (simp [*]; done)), H', ⟨by first | omega | exact Nat.le_refl _⟩, ⟨by (with_reducible repeat (first | apply Kd.V_alloc | apply Kd.V_drewN | apply Kd.V_drew)); exact HO0.out⟩, ⟨by repeat (first | (with_reducible first | exact HB.out | apply below_alloc | apply pw_below_drewN | apply below_drew1) | exact HB.out)⟩⟩
        · replace c12 := Bool.eq_false_iff.mpr c12
          subst c12
          have H1 : (quartermasterlaw03_RsAny.j0 k l0 a1 l2 l3 true true) = some r := by rw [if_neg (show ¬ (false = true) by decide)] at H; exact H
          clear H
          have H := H1
          clear H1
          have H' := Aside0.mk H
          clear H
          go_wp2
          go_meet
          case rel => exact ⟨_, (true), (by first | rfl | (simp; done) | (simp [*]; done)), H', ⟨by first | omega | exact Nat.le_refl _⟩, ⟨by (with_reducible repeat (first | apply Kd.V_alloc | apply Kd.V_drewN | apply Kd.V_drew)); exact HO0.out⟩, ⟨by repeat (first | (with_reducible first | exact HB.out | apply below_alloc | apply pw_below_drewN | apply below_drew1) | exact HB.out)⟩⟩
      · replace c11 := Bool.eq_false_iff.mpr c11
        subst c11
        have H1 : (quartermasterlaw03_RsAny.j0 k l0 a1 l2 l3 true true) = some r := by rw [if_neg (show ¬ (false = true) by decide)] at H; exact H
        clear H
        have H := H1
        clear H1
        have H' := Aside0.mk H
        clear H
        go_wp2
        go_meet
        case rel => exact ⟨_, (true), (by first | rfl | (simp; done) | (simp [*]; done)), H', ⟨by first | omega | exact Nat.le_refl _⟩, ⟨by (with_reducible repeat (first | apply Kd.V_alloc | apply Kd.V_drewN | apply Kd.V_drew)); exact HO0.out⟩, ⟨by repeat (first | (with_reducible first | exact HB.out | apply below_alloc | apply pw_below_drewN | apply below_drew1) | exact HB.out)⟩⟩
    · replace c10 := Bool.eq_false_iff.mpr c10
      subst c10
      have H1 : (quartermasterlaw03_RsAny.j0 k l0 a1 l2 l3 false true) = some r := by rw [if_neg (show ¬ (false = true) by decide)] at H; exact H
      clear H
      have H := H1
      clear H1
      have H' := Aside0.mk H
      clear H
      go_wp2
      go_meet
      case rel => exact ⟨_, (true), (by first | rfl | (simp; done) | (simp [*]; done)), H', ⟨by first | omega | exact Nat.le_refl _⟩, ⟨by (with_reducible repeat (first | apply Kd.V_alloc | apply Kd.V_drewN | apply Kd.V_drew)); exact HO0.out⟩, ⟨by repeat (first | (with_reducible first | exact HB.out | apply below_alloc | apply pw_below_drewN | apply below_drew1) | exact HB.out)⟩⟩
  case rest =>
    clear HC8
    try clear c1
    try clear c2
    try clear p2
    try clear c3
    try clear c4
    try clear c5
    try clear c10
    try clear c11
    try clear c12
    try clear c13
    try clear c13b0
    try clear c13b1
    try clear c14
    try clear c14b0
    obtain ⟨kq, x49_7, rfl, HA, HJ7, HO_0, HB⟩ := hcut
    cases kq with
    | zero => exact absurd HA.out (by simp [quartermasterlaw03_RsAny.j0])
    | succ kj7 =>
      have H := HA.out
      clear HA
      simp only [quartermasterlaw03_RsAny.j0] at H
      by_cases c15 : x49_7 = true
      · subst c15
        have H1 : (some t101) = some r := by rw [if_pos rfl] at H; exact H
        clear H
        have H := H1
        clear H1
        obtain rfl := Option.some.inj H
        go_wp2
        go_ret
        exact ⟨by first | rfl | (simp [errW_none, errW_some] <;> rfl) | (simp [*, errW_none, errW_some] <;> rfl), by repeat (first | (with_reducible first | exact HB.out | apply below_alloc | apply pw_below_drewN | apply below_drew1) | exact HB.out)⟩
      · replace c15 := Bool.eq_false_iff.mpr c15
        subst c15
        have H1 : ((rs_Encode.f kj7 l0 a1).bind fun bt104 => (if bt104.2 = 0 then (if ([] : List (List Int)).length + l0.length < 5864062014805 then ((some (([] : List (List Int)) ++ l0 : List (List Int))).bind fun y108 => (if y108.length + bt104.1.length < 5864062014805 then (quartermasterlaw03_RsAny.l0 kj7 l0 l2 l3 (y108 ++ bt104.1) ([] : List (List Int)) ([] : List (List Int)) 0) else (none))) else (none)) else (none))) = some r := by rw [if_neg (show ¬ (false = true) by decide)] at H; exact H
        clear H
        have H := H1
        clear H1
        replace H := Option.bind_eq_some_iff.mp H
        obtain ⟨⟨t104, t105⟩, A160, H⟩ := H
        replace H : (if t105 = 0 then (if ([] : List (List Int)).length + l0.length < 5864062014805 then ((some (([] : List (List Int)) ++ l0 : List (List Int))).bind fun y108 => (if y108.length + t104.length < 5864062014805 then (quartermasterlaw03_RsAny.l0 kj7 l0 l2 l3 (y108 ++ t104) ([] : List (List Int)) ([] : List (List Int)) 0) else (none))) else (none)) else (none)) = some r := H
        have A16 := Aside0.mk A160
        clear A160
        by_cases c17 : t105 = 0
        · rw [if_pos c17] at H
          have c17b0 : (t105 == 0) = true := beq_iff_eq.mpr c17
          have c17b1 : (t105 != 0) = false := bne_eq_false_iff_eq.mpr c17
          clear c17
          by_cases c18 : ([] : List (List Int)).length + l0.length < 5864062014805
          · rw [if_pos c18] at H
            have LMc18 := Aside0.mk c18
            clear c18
            obtain ⟨y108, hy108⟩ : ∃ y_ : List (List Int), y_ = (([] : List (List Int)) ++ l0) := ⟨_, rfl⟩
            replace H : (if y108.length + t104.length < 5864062014805 then (quartermasterlaw03_RsAny.l0 kj7 l0 l2 l3 (y108 ++ t104) ([] : List (List Int)) ([] : List (List Int)) 0) else (none)) = some r := by first | (rw [hy108]; with_reducible exact H) | (have H2_ := (Option.bind_some _ _).symm.trans H; rw [hy108]; with_reducible exact H2_) | (have H2_ := (Option.bind_some _ _).symm.trans H; with_reducible exact H2_) | with_reducible exact H | (rw [hy108]; exact H) | exact H
            have Ny108 := Aside0.mk hy108
            clear hy108
            by_cases c19 : y108.length + t104.length < 5864062014805
            · rw [if_pos c19] at H
              have LMc19 := Aside0.mk c19
              clear c19
              obtain ⟨y111, hy111⟩ : ∃ y_ : List (List Int), y_ = (y108 ++ t104) := ⟨_, rfl⟩
              replace H : (quartermasterlaw03_RsAny.l0 kj7 l0 l2 l3 y111 ([] : List (List Int)) ([] : List (List Int)) 0) = some r := by first | (rw [hy111]; with_reducible exact H) | (have H2_ := (Option.bind_some _ _).symm.trans H; rw [hy111]; with_reducible exact H2_) | (have H2_ := (Option.bind_some _ _).symm.trans H; with_reducible exact H2_) | with_reducible exact H | (rw [hy111]; exact H) | exact H
              have Ny111 := Aside0.mk hy111
              clear hy111
              have H' := Aside0.mk H
              clear H
              go_wp2_with (first | ((with_reducible refine gate_callee (f := 51) rfl ?_); refine goesL_ (some 54) rfl rfl Try.func51 (by kernel_rfl) rfl #[.slice A0 l0.length c0, .int .i64 a1] rfl (by (try simp only [List.map_toArray, List.map_cons, List.map_nil]); first | done | rfl | (simp only [List.length_drop, List.length_take]; rfl)) ?_; (with_reducible refine (rs_Encode.calls kj7 _ _ l0 a1 t104 t105 _ ?side1 ?side2 A16.out).mono ?_); (case side1 => repeat (first | exact (Kd.V_reads' HO_0.out).2.2 | (with_reducible refine Kd.C_alloc ?_ _) | (with_reducible refine Kd.C_drewN ?_ _) | (with_reducible refine Kd.C_drew ?_))); (case side2 => exact (Kd.V_reads' HO_0.out).2.1); rintro e w20 ⟨v106, rfl, ho0, hb⟩; refine ⟨_, rfl, ?_⟩; have n0_ := Aside0.mk (Kd.V_elder' (by (with_reducible repeat (first | apply Kd.V_alloc | apply Kd.V_drewN | apply Kd.V_drew)); exact HO_0.out) (by first | exact Kd.N_base ho0 | exact Kd.N_base (Kd.S_N ho0)) hb); have n1_ := Aside0.mk (Kd.N_lower (Kd.N_mono (ok' := fun k_ => (P0_ k_ ∨ w.heap.size ≤ k_)) (Kd.S_N (Kd.S_bound ho0)) (fun k_ hk_ => (.inr (Nat.le_trans (below_size (by repeat (first | (with_reducible first | exact HB.out | apply below_alloc | apply pw_below_drewN | apply below_drew1) | exact HB.out))) hk_.2.1)))) (below_size (by repeat (first | (with_reducible first | exact HB.out | apply below_alloc | apply pw_below_drewN | apply below_drew1) | exact HB.out)))); have n2_ := Aside0.mk (below_step (by repeat (first | (with_reducible first | exact HB.out | apply below_alloc | apply pw_below_drewN | apply below_drew1) | exact HB.out)) hb); clear HO_0; clear HB; have HO_0 := n0_; have HO107 := n1_; have HB := n2_; clear n0_ n1_ n2_; (try clear hb); (try clear hb2); (try clear hk); (try clear hi); (try clear ho0)) | ((with_reducible refine gate_builtin (b := .append) (xs := #[.const (.slice none 0 0), .tmp 59]) rfl ?_); (try (refine gate_guard (by rfl) ?_; dsimp only)); at_builtin; refine Kd.N_append_rows (Kd.slice 5 (Kd.int .u8)) (w0 := w) w.heap.size rfl (.const (.slice none 0 0)) (.tmp 59) 42 43 (.slice none 0 0) 24 rfl Try.underlying42 info43 rfl (by decide) (by omega) (.slice none 0 0) ([] : List (List Int)) l0 _ _ _ (fun k_ => (P0_ k_ ∨ w.heap.size ≤ k_) ∧ some k_ ≠ (v106 : Value).ownBlock) (fun k_ => ((fun k_ => (P0_ k_ ∨ w.heap.size ≤ k_) ∧ some k_ ≠ (v106 : Value).ownBlock)) k_ ∧ some k_ ≠ (.slice none 0 0 : Value).ownBlock) rfl rfl ?aO ?aR (fun _ hk => hk) ?aF ?aB ?aS ?aL ?_; (case aR => exact (by skip; exact Kd.V_F (Kd.V_mono (ok' := (fun k_ => ((fun k_ => (P0_ k_ ∨ w.heap.size ≤ k_) ∧ some k_ ≠ (v106 : Value).ownBlock)) k_ ∧ some k_ ≠ (.slice none 0 0 : Value).ownBlock)) (HO_0.out) (fun k_ hk => ⟨⟨hk.1, hk.2⟩, (by simp [Value.ownBlock])⟩)))); (case aB => exact (by repeat (first | (with_reducible first | exact HB.out | apply below_alloc | apply pw_below_drewN | apply below_drew1) | exact HB.out))); (case aF => exact (fun k_ hk => ⟨(.inr (Nat.le_trans (below_size (by repeat (first | (with_reducible first | exact HB.out | apply below_alloc | apply pw_below_drewN | apply below_drew1) | exact HB.out))) hk)), Kd.fresh' (Kd.N_lt (by (with_reducible repeat (first | apply Kd.N_alloc | apply Kd.N_drewN | apply Kd.N_drew)); exact HO107.out)) k_ hk⟩)); (case aO => exact ((Kd.N_nil _ _ _ _ (fun k_ => (P0_ k_ ∨ w.heap.size ≤ k_) ∧ some k_ ≠ (v106 : Value).ownBlock)))); (case aS => exact (below_size (by repeat (first | (with_reducible first | exact HB.out | apply below_alloc | apply pw_below_drewN | apply below_drew1) | exact HB.out)))); (case aL => have := LMc18.out; omega); intro v109 w21 ho hb hg hat; rw [← Ny108.out] at ho; have n0_ := Aside0.mk (Kd.V_afterv (Kd.V_apart_nil (by (with_reducible repeat (first | apply Kd.V_alloc | apply Kd.V_drewN | apply Kd.V_drew)); exact HO_0.out)) hg hat); have n1_ := Aside0.mk (Kd.N_afterv (Kd.N_apart_nil (by (with_reducible repeat (first | apply Kd.N_alloc | apply Kd.N_drewN | apply Kd.N_drew)); exact HO107.out)) hg hat); have n2_ := Aside0.mk (hb); have n3_ := Aside0.mk (ho); clear HO_0; clear HO107; clear HB; have HO_0 := n0_; have HO107 := n1_; have HB := n2_; have HO110 := n3_; clear n0_ n1_ n2_ n3_; clear ho hb hg hat; obtain ⟨Ao23, co23, eo23⟩ := Kd.N_slice HO107.out; subst eo23) | ((with_reducible refine gate_builtin (b := .append) (xs := #[.tmp 60, .tmp 61]) rfl ?_); (try (refine gate_guard (by rfl) ?_; dsimp only)); at_builtin; refine Kd.N_append_rows (Kd.slice 5 (Kd.int .u8)) (w0 := w) w.heap.size rfl (.tmp 60) (.tmp 61) 42 43 (.slice none 0 0) 24 rfl Try.underlying42 info43 rfl (by decide) (by omega) v109 y108 t104 _ _ _ (fun k_ => (P0_ k_ ∨ w.heap.size ≤ k_)) (fun k_ => ((fun k_ => (P0_ k_ ∨ w.heap.size ≤ k_))) k_ ∧ some k_ ≠ (v109 : Value).ownBlock) rfl rfl ?aO ?aR (fun _ hk => hk) ?aF ?aB ?aS ?aL ?_; (case aR => exact (by skip; exact Kd.N_F (Kd.N_mono (ok' := (fun k_ => ((fun k_ => (P0_ k_ ∨ w.heap.size ≤ k_))) k_ ∧ some k_ ≠ (v109 : Value).ownBlock)) (HO107.out) (fun k_ hk => ⟨hk.1, hk.2⟩)))); (case aB => exact (by repeat (first | (with_reducible first | exact HB.out | apply below_alloc | apply pw_below_drewN | apply below_drew1) | exact HB.out))); (case aF => exact (fun k_ hk => (.inr (Nat.le_trans (below_size (by repeat (first | (with_reducible first | exact HB.out | apply below_alloc | apply pw_below_drewN | apply below_drew1) | exact HB.out))) hk)))); (case aO => exact (by (with_reducible repeat (first | apply Kd.N_alloc | apply Kd.N_drewN | apply Kd.N_drew)); exact Kd.N_mono HO110.out (fun _ hk => hk.1))); (case aS => exact (below_size (by repeat (first | (with_reducible first | exact HB.out | apply below_alloc | apply pw_below_drewN | apply below_drew1) | exact HB.out)))); (case aL => have := LMc19.out; omega); intro v112 w22 ho hb hg hat; rw [← Ny111.out] at ho; have n0_ := Aside0.mk (Kd.V_afterv (ok := (fun k_ => (P0_ k_ ∨ w.heap.size ≤ k_) ∧ some k_ ≠ (.slice Ao23 t104.length co23 : Value).ownBlock)) (by (with_reducible repeat (first | apply Kd.V_alloc | apply Kd.V_drewN | apply Kd.V_drew)); exact HO_0.out) hg hat); have n1_ := Aside0.mk (Kd.N_afterv (ok := (fun k_ => (P0_ k_ ∨ w.heap.size ≤ k_))) (by (with_reducible repeat (first | apply Kd.N_alloc | apply Kd.N_drewN | apply Kd.N_drew)); exact HO107.out) hg hat); have n2_ := Aside0.mk (hb); have n3_ := Aside0.mk (ho); clear HO_0; clear HO107; clear HB; clear HO110; have HO_0 := n0_; have HO107 := n1_; have HB := n2_; have HO113 := n3_; clear n0_ n1_ n2_ n3_; clear ho hb hg hat))
              go_loopg [15, 16, 17] kj7 (fun kq v15 v16 v17 w' => ∃ (x0_2 : List (List Int)) (x14_2 : List (List Int)) (x15_2 : List (List Int)) (x16_2 : List (List Int)) (x17_2 : Int), v17 = .int .i64 x17_2 ∧ Aside0 (quartermasterlaw03_RsAny.l0 kq x0_2 l2 l3 x14_2 x15_2 x16_2 x17_2 = some r) ∧ Aside0 (kq ≤ kj7) ∧ Aside0 (Kd.V (Kd.slice 5 (Kd.int .u8)) 43 w' w.heap.size (fun k_ => (P0_ k_ ∨ w.heap.size ≤ k_) ∧ some k_ ≠ (v112 : Value).ownBlock ∧ some k_ ≠ (v15 : Value).ownBlock ∧ some k_ ≠ (v16 : Value).ownBlock) (.slice A0 l0.length c0) x0_2) ∧ Aside0 (Kd.N (Kd.slice 5 (Kd.int .u8)) 43 w' w.heap.size (fun k_ => (P0_ k_ ∨ w.heap.size ≤ k_) ∧ some k_ ≠ (v15 : Value).ownBlock ∧ some k_ ≠ (v16 : Value).ownBlock) v112 x14_2) ∧ Aside0 (Kd.N (Kd.slice 5 (Kd.int .u8)) 43 w' w.heap.size (fun k_ => (P0_ k_ ∨ w.heap.size ≤ k_) ∧ some k_ ≠ (v112 : Value).ownBlock ∧ some k_ ≠ (v16 : Value).ownBlock) v15 x15_2) ∧ Aside0 (Kd.N (Kd.slice 5 (Kd.int .u8)) 43 w' w.heap.size (fun k_ => (P0_ k_ ∨ w.heap.size ≤ k_) ∧ some k_ ≠ (v112 : Value).ownBlock ∧ some k_ ≠ (v15 : Value).ownBlock) v16 x16_2) ∧ Aside0 (Below w.heap.size w w'))
              case atStart => exact ⟨(l0), (y111), (([] : List (List Int))), (([] : List (List Int))), (0), (by first | rfl | (simp; done) | (simp [*]; done)), H', ⟨Nat.le_refl _⟩, ⟨by (with_reducible repeat (first | apply Kd.V_alloc | apply Kd.V_drewN | apply Kd.V_drew)); exact Kd.V_mono HO_0.out (fun _ hk => ⟨hk.1.1, ⟨hk.2, ⟨(by simp [Value.ownBlock]), (by simp [Value.ownBlock])⟩⟩⟩)⟩, ⟨by (with_reducible repeat (first | apply Kd.N_alloc | apply Kd.N_drewN | apply Kd.N_drew)); exact Kd.N_mono HO113.out (fun _ hk => ⟨hk, ⟨(by simp [Value.ownBlock]), (by simp [Value.ownBlock])⟩⟩)⟩, ⟨by first | exact Kd.S_nil _ _ _ _ _ | exact Kd.N_nil _ _ _ _ _ | exact Kd.V_nil _ _ _ _ _ | exact Kd.Q_nil _ _ _ _ _ | exact Kd.R_nil _ _ _ _ _⟩, ⟨by first | exact Kd.S_nil _ _ _ _ _ | exact Kd.N_nil _ _ _ _ _ | exact Kd.V_nil _ _ _ _ _ | exact Kd.Q_nil _ _ _ _ _ | exact Kd.R_nil _ _ _ _ _⟩, ⟨by repeat (first | (with_reducible first | exact HB.out | apply below_alloc | apply pw_below_drewN | apply below_drew1) | exact HB.out)⟩⟩
              case round =>
                clear H'
                try clear c1
                try clear c2
                try clear p2
                try clear c3
                try clear c4
                try clear c5
                try clear c10
                try clear c11
                try clear c12
                try clear c13
                try clear c13b0
                try clear c13b1
                try clear c14
                try clear c14b0
                try clear c15
                try clear c17
                try clear c17b0
                try clear c17b1
                try clear c18
                try clear c19
                try clear c21
                try clear p2
                obtain ⟨x0_2, x14_2, x15_2, x16_2, x17_2, rfl, HA, HK2, HO_0, HO_14, HO_15, HO_16, HB⟩ := hrel
                have hl0_2 := (Kd.V_reads' HO_0.out).1
                rw [hl0_2] at HO_0
                (try simp only [hl0_2])
                (try simp only [hl0_2] at HO_14)
                (try simp only [hl0_2] at HO_15)
                (try simp only [hl0_2] at HO_16)
                cases gk with
                | zero => exact absurd HA.out (by simp [quartermasterlaw03_RsAny.l0])
                | succ k2 =>
                  have H := HA.out
                  clear HA
                  simp only [quartermasterlaw03_RsAny.l0] at H
                  by_cases c24 : x17_2 < (x14_2.length : Int)
                  · rw [if_pos c24] at H
                    have c24b0 : decide (x17_2 < (x14_2.length : Int)) = true := decide_eq_true c24
                    clear c24
                    by_cases c25 : 0 ≤ x17_2
                    · rw [if_pos c25] at H
                      have c25b0 : decide (0 ≤ x17_2) = true := decide_eq_true c25
                      clear c25
                      by_cases c26 : x15_2.length < 5864062014805
                      · rw [if_pos c26] at H
                        have LMc26 := Aside0.mk c26
                        clear c26
                        obtain ⟨y115, hy115⟩ : ∃ y_ : List (List Int), y_ = (x15_2 ++ [rd_L1 x14_2 x17_2]) := ⟨_, rfl⟩
                        replace H : (if x16_2.length < 5864062014805 then ((some (x16_2 ++ [rd_L1 x14_2 x17_2] : List (List Int))).bind fun y119 => (if x17_2 < (l2.length : Int) then (quartermasterlaw03_RsAny.j2 k2 x0_2 l2 l3 x14_2 y115 y119 x17_2 (rdOf false l2 x17_2)) else (quartermasterlaw03_RsAny.j2 k2 x0_2 l2 l3 x14_2 y115 y119 x17_2 false))) else (none)) = some r := by first | (rw [hy115]; with_reducible exact H) | (have H2_ := (Option.bind_some _ _).symm.trans H; rw [hy115]; with_reducible exact H2_) | (have H2_ := (Option.bind_some _ _).symm.trans H; with_reducible exact H2_) | with_reducible exact H | (rw [hy115]; exact H) | exact H
                        have Ny115 := Aside0.mk hy115
                        clear hy115
                        by_cases c27 : x16_2.length < 5864062014805
                        · rw [if_pos c27] at H
                          have LMc27 := Aside0.mk c27
                          clear c27
                          obtain ⟨y119, hy119⟩ : ∃ y_ : List (List Int), y_ = (x16_2 ++ [rd_L1 x14_2 x17_2]) := ⟨_, rfl⟩
                          replace H : (if x17_2 < (l2.length : Int) then (quartermasterlaw03_RsAny.j2 k2 x0_2 l2 l3 x14_2 y115 y119 x17_2 (rdOf false l2 x17_2)) else (quartermasterlaw03_RsAny.j2 k2 x0_2 l2 l3 x14_2 y115 y119 x17_2 false)) = some r := by first | (rw [hy119]; with_reducible exact H) | (have H2_ := (Option.bind_some _ _).symm.trans H; rw [hy119]; with_reducible exact H2_) | (have H2_ := (Option.bind_some _ _).symm.trans H; with_reducible exact H2_) | with_reducible exact H | (rw [hy119]; exact H) | exact H
                          have Ny119 := Aside0.mk hy119
                          clear hy119
                          have HC28 := Aside0.mk H
                          clear H
                          obtain ⟨Ao29, co29, eo29⟩ := Kd.N_slice HO_14.out
                          subst eo29
                          have p114 : 0 ≤ (x17_2 : Int) := of_decide_eq_true (by first | (with_reducible assumption) | assumption)
                          have q114 : x17_2 < (x14_2.length : Int) := of_decide_eq_true (by first | (with_reducible assumption) | assumption)
                          obtain ⟨ad114, A114_0, c114_0, e114, hx114_0, hl114_0, hi114_0⟩ := at_L1 (Kd.N_reads' HO_14.out).2.2 x17_2 p114 q114
                          cases e114
                          obtain ⟨ce114, hce114, hMe114, hcc114⟩ := Kd.N_get HO_14.out [] x17_2 p114 (by first | exact q114 | exact of_decide_eq_true (by first | (with_reducible assumption) | assumption) | (have e_ := (Kd.N_reads' HO_14.out).1; omega))
                          obtain ⟨ua114_0, uc114_0, rfl, ul114_0, ge114_0⟩ := Kd.FK_slice_open hMe114
                          have hv114_0 := hcc114 0 _ rfl
                          rw [Nat.add_zero, show ((Kd.slice 5 (Kd.int .u8))).sz = 1 from rfl, Nat.mul_one] at hv114_0
                          replace hv114_0 := Option.some.inj (hv114_0.symm.trans hx114_0)
                          injection hv114_0 with hva_ hvn_ hvc_
                          rw [hva_] at ge114_0
                          rw [hvc_] at ul114_0
                          have HL114_0 := Aside0.mk (show Kd.V (Kd.int .u8) 5 _ w.heap.size _ _ (rd_L1 x14_2 x17_2) from Kd.V_mk ul114_0 ge114_0)
                          clear hva_ hvn_ hvc_ ge114_0 ul114_0
                          clear hcc114 hce114
                          have HR114_0 := Aside0.mk hi114_0
                          have HC114_0 := Aside0.mk hl114_0
                          clear hi114_0 hl114_0
                          replace p114 := eq_true p114
                          replace q114 := eq_true q114
                          go_upto_region 17 with (first | ((with_reducible refine gate_builtin (b := .append) (xs := #[.tmp 69, .tmp 74]) rfl ?_); (try (refine gate_guard (by rfl) ?_; dsimp only)); at_builtin; refine Kd.N_append (Kd.slice 5 (Kd.int .u8)) (w0 := w) w.heap.size rfl (.tmp 69) (.tmp 74) 42 43 (.slice none 0 0) 24 rfl Try.underlying42 info43 rfl (by decide) (by omega) u15 x15_2 (rd_L1 x14_2 x17_2) [.slice A114_0 (rd_L1 x14_2 x17_2).length c114_0] (fun k_ => (P0_ k_ ∨ w.heap.size ≤ k_) ∧ some k_ ≠ (.slice (some ad114) x14_2.length co29 : Value).ownBlock ∧ some k_ ≠ (u16 : Value).ownBlock) (fun k_ => ((fun k_ => (P0_ k_ ∨ w.heap.size ≤ k_) ∧ some k_ ≠ (.slice (some ad114) x14_2.length co29 : Value).ownBlock ∧ some k_ ≠ (u16 : Value).ownBlock)) k_ ∧ some k_ ≠ (u15 : Value).ownBlock) rfl rfl ?aP (fun _ hk => hk) ?aF ?aO ?aB ?aS ?aL ?_; (case aP => exact (Kd.FK_slice_mk (Kd.V_reads' (Kd.V_mono (ok' := (fun k_ => ((fun k_ => (P0_ k_ ∨ w.heap.size ≤ k_) ∧ some k_ ≠ (.slice (some ad114) x14_2.length co29 : Value).ownBlock ∧ some k_ ≠ (u16 : Value).ownBlock)) k_ ∧ some k_ ≠ (u15 : Value).ownBlock)) (HL114_0.out) (fun k_ hk => ⟨⟨hk.1.1, ⟨hk.2, hk.1.2.2⟩⟩, hk.1.2.1⟩))).2.1 (Kd.V_F (Kd.V_mono (ok' := (fun k_ => ((fun k_ => (P0_ k_ ∨ w.heap.size ≤ k_) ∧ some k_ ≠ (.slice (some ad114) x14_2.length co29 : Value).ownBlock ∧ some k_ ≠ (u16 : Value).ownBlock)) k_ ∧ some k_ ≠ (u15 : Value).ownBlock)) (HL114_0.out) (fun k_ hk => ⟨⟨hk.1.1, ⟨hk.2, hk.1.2.2⟩⟩, hk.1.2.1⟩))))); (case aB => exact (by repeat (first | (with_reducible first | exact HB.out | apply below_alloc | apply pw_below_drewN | apply below_drew1) | exact HB.out))); (case aF => exact (fun k_ hk => ⟨(.inr (Nat.le_trans (below_size (by repeat (first | (with_reducible first | exact HB.out | apply below_alloc | apply pw_below_drewN | apply below_drew1) | exact HB.out))) hk)), Kd.fresh' (Kd.N_lt (by (with_reducible repeat (first | apply Kd.N_alloc | apply Kd.N_drewN | apply Kd.N_drew)); exact HO_14.out)) k_ hk, Kd.fresh' (Kd.N_lt (by (with_reducible repeat (first | apply Kd.N_alloc | apply Kd.N_drewN | apply Kd.N_drew)); exact HO_16.out)) k_ hk⟩)); (case aO => exact (by (with_reducible repeat (first | apply Kd.N_alloc | apply Kd.N_drewN | apply Kd.N_drew)); exact HO_15.out)); (case aS => exact (below_size (by repeat (first | (with_reducible first | exact HB.out | apply below_alloc | apply pw_below_drewN | apply below_drew1) | exact HB.out)))); (case aL => have := LMc26.out; omega); intro v116 w30 ho hb hg hat; rw [← Ny115.out] at ho; have n0_ := Aside0.mk (Kd.V_afterv (ok := (fun k_ => (P0_ k_ ∨ w.heap.size ≤ k_) ∧ some k_ ≠ (.slice (some ad114) x14_2.length co29 : Value).ownBlock ∧ some k_ ≠ (u16 : Value).ownBlock)) (by (with_reducible repeat (first | apply Kd.V_alloc | apply Kd.V_drewN | apply Kd.V_drew)); exact Kd.V_mono HO_0.out (fun _ hk => ⟨⟨hk.1, ⟨hk.2.1, hk.2.2.2⟩⟩, hk.2.2.1⟩)) hg hat); have n1_ := Aside0.mk (Kd.N_afterv (ok := (fun k_ => (P0_ k_ ∨ w.heap.size ≤ k_) ∧ some k_ ≠ (u16 : Value).ownBlock)) (by (with_reducible repeat (first | apply Kd.N_alloc | apply Kd.N_drewN | apply Kd.N_drew)); exact Kd.N_mono HO_14.out (fun _ hk => ⟨⟨hk.1, hk.2.2⟩, hk.2.1⟩)) hg hat); have n2_ := Aside0.mk (Kd.N_afterv (ok := (fun k_ => (P0_ k_ ∨ w.heap.size ≤ k_) ∧ some k_ ≠ (.slice (some ad114) x14_2.length co29 : Value).ownBlock)) (by (with_reducible repeat (first | apply Kd.N_alloc | apply Kd.N_drewN | apply Kd.N_drew)); exact Kd.N_mono HO_16.out (fun _ hk => ⟨⟨hk.1, hk.2.1⟩, hk.2.2⟩)) hg hat); have n3_ := Aside0.mk (Kd.V_afterv (ok := (fun k_ => (P0_ k_ ∨ w.heap.size ≤ k_) ∧ some k_ ≠ (.slice (some ad114) x14_2.length co29 : Value).ownBlock ∧ some k_ ≠ (u16 : Value).ownBlock)) (by (with_reducible repeat (first | apply Kd.V_alloc | apply Kd.V_drewN | apply Kd.V_drew)); exact Kd.V_mono HL114_0.out (fun _ hk => ⟨⟨hk.1.1, ⟨hk.2, hk.1.2.2⟩⟩, hk.1.2.1⟩)) hg hat); have n4_ := Aside0.mk (hb); have n5_ := Aside0.mk (ho); clear HO_0; clear HO_14; clear HO_16; clear HL114_0; clear HB; clear HO_15; have HO_0 := n0_; have HO_14 := n1_; have HO_16 := n2_; have HL114_0 := n3_; have HB := n4_; have HO117 := n5_; clear n0_ n1_ n2_ n3_ n4_ n5_; clear ho hb hg hat; have p118 : 0 ≤ (x17_2 : Int) := of_decide_eq_true (by first | (with_reducible assumption) | assumption); have q118 : x17_2 < (x14_2.length : Int) := of_decide_eq_true (by first | (with_reducible assumption) | assumption); obtain ⟨ad118, A118_0, c118_0, e118, hx118_0, hl118_0, hi118_0⟩ := at_L1 (Kd.N_reads' HO_14.out).2.2 x17_2 p118 q118; obtain rfl : ad114 = ad118 := (by injection e118); obtain ⟨ce118, hce118, hMe118, hcc118⟩ := Kd.N_get HO_14.out [] x17_2 p118 (by first | exact q118 | exact of_decide_eq_true (by first | (with_reducible assumption) | assumption) | (have e_ := (Kd.N_reads' HO_14.out).1; omega)); obtain ⟨ua118_0, uc118_0, rfl, ul118_0, ge118_0⟩ := Kd.FK_slice_open hMe118; have hv118_0 := hcc118 0 _ rfl; rw [Nat.add_zero, show ((Kd.slice 5 (Kd.int .u8))).sz = 1 from rfl, Nat.mul_one] at hv118_0; replace hv118_0 := Option.some.inj (hv118_0.symm.trans hx118_0); injection hv118_0 with hva_ hvn_ hvc_; rw [hva_] at ge118_0; rw [hvc_] at ul118_0; have HL118_0 := Aside0.mk (show Kd.V (Kd.int .u8) 5 _ w.heap.size _ _ (rd_L1 x14_2 x17_2) from Kd.V_mk ul118_0 ge118_0); clear hva_ hvn_ hvc_ ge118_0 ul118_0; clear hcc118 hce118; have HR118_0 := Aside0.mk hi118_0; have HC118_0 := Aside0.mk hl118_0; clear hi118_0 hl118_0; replace p118 := eq_true p118; replace q118 := eq_true q118) | ((with_reducible refine gate_builtin (b := .append) (xs := #[.tmp 76, .tmp 81]) rfl ?_); (try (refine gate_guard (by rfl) ?_; dsimp only)); at_builtin; refine Kd.N_append (Kd.slice 5 (Kd.int .u8)) (w0 := w) w.heap.size rfl (.tmp 76) (.tmp 81) 42 43 (.slice none 0 0) 24 rfl Try.underlying42 info43 rfl (by decide) (by omega) u16 x16_2 (rd_L1 x14_2 x17_2) [.slice A118_0 (rd_L1 x14_2 x17_2).length c118_0] (fun k_ => (P0_ k_ ∨ w.heap.size ≤ k_) ∧ some k_ ≠ (.slice (some ad114) x14_2.length co29 : Value).ownBlock ∧ some k_ ≠ (v116 : Value).ownBlock) (fun k_ => ((fun k_ => (P0_ k_ ∨ w.heap.size ≤ k_) ∧ some k_ ≠ (.slice (some ad114) x14_2.length co29 : Value).ownBlock ∧ some k_ ≠ (v116 : Value).ownBlock)) k_ ∧ some k_ ≠ (u16 : Value).ownBlock) rfl rfl ?aP (fun _ hk => hk) ?aF ?aO ?aB ?aS ?aL ?_; (case aP => exact (Kd.FK_slice_mk (Kd.V_reads' (Kd.V_mono (ok' := (fun k_ => ((fun k_ => (P0_ k_ ∨ w.heap.size ≤ k_) ∧ some k_ ≠ (.slice (some ad114) x14_2.length co29 : Value).ownBlock ∧ some k_ ≠ (v116 : Value).ownBlock)) k_ ∧ some k_ ≠ (u16 : Value).ownBlock)) (HL118_0.out) (fun k_ hk => ⟨⟨hk.1.1.1, ⟨hk.2, hk.1.2⟩⟩, hk.1.1.2⟩))).2.1 (Kd.V_F (Kd.V_mono (ok' := (fun k_ => ((fun k_ => (P0_ k_ ∨ w.heap.size ≤ k_) ∧ some k_ ≠ (.slice (some ad114) x14_2.length co29 : Value).ownBlock ∧ some k_ ≠ (v116 : Value).ownBlock)) k_ ∧ some k_ ≠ (u16 : Value).ownBlock)) (HL118_0.out) (fun k_ hk => ⟨⟨hk.1.1.1, ⟨hk.2, hk.1.2⟩⟩, hk.1.1.2⟩))))); (case aB => exact (by repeat (first | (with_reducible first | exact HB.out | apply below_alloc | apply pw_below_drewN | apply below_drew1) | exact HB.out))); (case aF => exact (fun k_ hk => ⟨(.inr (Nat.le_trans (below_size (by repeat (first | (with_reducible first | exact HB.out | apply below_alloc | apply pw_below_drewN | apply below_drew1) | exact HB.out))) hk)), Kd.fresh' (Kd.N_lt (by (with_reducible repeat (first | apply Kd.N_alloc | apply Kd.N_drewN | apply Kd.N_drew)); exact HO_14.out)) k_ hk, Kd.fresh' (Kd.N_lt (by (with_reducible repeat (first | apply Kd.N_alloc | apply Kd.N_drewN | apply Kd.N_drew)); exact HO117.out)) k_ hk⟩)); (case aO => exact (by (with_reducible repeat (first | apply Kd.N_alloc | apply Kd.N_drewN | apply Kd.N_drew)); exact Kd.N_mono HO_16.out (fun _ hk => ⟨hk.1.1, ⟨hk.1.2, hk.2⟩⟩))); (case aS => exact (below_size (by repeat (first | (with_reducible first | exact HB.out | apply below_alloc | apply pw_below_drewN | apply below_drew1) | exact HB.out)))); (case aL => have := LMc27.out; omega); intro v120 w31 ho hb hg hat; rw [← Ny119.out] at ho; have n0_ := Aside0.mk (Kd.V_afterv (ok := (fun k_ => (P0_ k_ ∨ w.heap.size ≤ k_) ∧ some k_ ≠ (.slice (some ad114) x14_2.length co29 : Value).ownBlock ∧ some k_ ≠ (v116 : Value).ownBlock)) (by (with_reducible repeat (first | apply Kd.V_alloc | apply Kd.V_drewN | apply Kd.V_drew)); exact Kd.V_mono HO_0.out (fun _ hk => ⟨⟨hk.1.1, ⟨hk.1.2.1, hk.2⟩⟩, hk.1.2.2⟩)) hg hat); have n1_ := Aside0.mk (Kd.N_afterv (ok := (fun k_ => (P0_ k_ ∨ w.heap.size ≤ k_) ∧ some k_ ≠ (v116 : Value).ownBlock)) (by (with_reducible repeat (first | apply Kd.N_alloc | apply Kd.N_drewN | apply Kd.N_drew)); exact Kd.N_mono HO_14.out (fun _ hk => ⟨⟨hk.1.1, hk.2⟩, hk.1.2⟩)) hg hat); have n2_ := Aside0.mk (Kd.V_afterv (ok := (fun k_ => (P0_ k_ ∨ w.heap.size ≤ k_) ∧ some k_ ≠ (.slice (some ad114) x14_2.length co29 : Value).ownBlock ∧ some k_ ≠ (v116 : Value).ownBlock)) (by (with_reducible repeat (first | apply Kd.V_alloc | apply Kd.V_drewN | apply Kd.V_drew)); exact Kd.V_mono HL114_0.out (fun _ hk => ⟨⟨hk.1.1, ⟨hk.1.2.1, hk.2⟩⟩, hk.1.2.2⟩)) hg hat); have n3_ := Aside0.mk (Kd.N_afterv (ok := (fun k_ => (P0_ k_ ∨ w.heap.size ≤ k_) ∧ some k_ ≠ (.slice (some ad114) x14_2.length co29 : Value).ownBlock)) (by (with_reducible repeat (first | apply Kd.N_alloc | apply Kd.N_drewN | apply Kd.N_drew)); exact Kd.N_mono HO117.out (fun _ hk => ⟨⟨hk.1, hk.2.1⟩, hk.2.2⟩)) hg hat); have n4_ := Aside0.mk (Kd.V_afterv (ok := (fun k_ => (P0_ k_ ∨ w.heap.size ≤ k_) ∧ some k_ ≠ (.slice (some ad114) x14_2.length co29 : Value).ownBlock ∧ some k_ ≠ (v116 : Value).ownBlock)) (by (with_reducible repeat (first | apply Kd.V_alloc | apply Kd.V_drewN | apply Kd.V_drew)); exact Kd.V_mono HL118_0.out (fun _ hk => ⟨⟨hk.1.1.1, ⟨hk.2, hk.1.2⟩⟩, hk.1.1.2⟩)) hg hat); have n5_ := Aside0.mk (hb); have n6_ := Aside0.mk (ho); clear HO_0; clear HO_14; clear HL114_0; clear HO117; clear HL118_0; clear HB; clear HO_16; have HO_0 := n0_; have HO_14 := n1_; have HL114_0 := n2_; have HO117 := n3_; have HL118_0 := n4_; have HB := n5_; have HO121 := n6_; clear n0_ n1_ n2_ n3_ n4_ n5_ n6_; clear ho hb hg hat))
                          (try simp only [Act.put, List.setIfInBounds_toArray, List.set_cons_zero, List.set_cons_succ])
                          go_cut [92] (fun v92 wc => ∃ (kq : Nat) (x92_27 : Bool), v92 = .bool x92_27 ∧ Aside0 (quartermasterlaw03_RsAny.j2 kq x0_2 l2 l3 x14_2 y115 y119 x17_2 x92_27 = some r) ∧ Aside0 (kq ≤ k2) ∧ Aside0 (Kd.V (Kd.slice 5 (Kd.int .u8)) 43 wc w.heap.size (fun k_ => (P0_ k_ ∨ w.heap.size ≤ k_) ∧ some k_ ≠ ((.slice (some ad114) x14_2.length co29) : Value).ownBlock ∧ some k_ ≠ (v116 : Value).ownBlock ∧ some k_ ≠ (v120 : Value).ownBlock) (.slice A0 x0_2.length c0) x0_2) ∧ Aside0 (Kd.N (Kd.slice 5 (Kd.int .u8)) 43 wc w.heap.size (fun k_ => (P0_ k_ ∨ w.heap.size ≤ k_) ∧ some k_ ≠ (v116 : Value).ownBlock ∧ some k_ ≠ (v120 : Value).ownBlock) (.slice (some ad114) x14_2.length co29) x14_2) ∧ Aside0 (Kd.N (Kd.slice 5 (Kd.int .u8)) 43 wc w.heap.size (fun k_ => (P0_ k_ ∨ w.heap.size ≤ k_) ∧ some k_ ≠ ((.slice (some ad114) x14_2.length co29) : Value).ownBlock ∧ some k_ ≠ (v120 : Value).ownBlock) v116 y115) ∧ Aside0 (Kd.N (Kd.slice 5 (Kd.int .u8)) 43 wc w.heap.size (fun k_ => (P0_ k_ ∨ w.heap.size ≤ k_) ∧ some k_ ≠ ((.slice (some ad114) x14_2.length co29) : Value).ownBlock ∧ some k_ ≠ (v116 : Value).ownBlock) v120 y119) ∧ Aside0 (Below w.heap.size w wc))
                          case first =>
                            have H := HC28.out
                            clear HC28
                            by_cases c32 : x17_2 < (l2.length : Int)
                            · rw [if_pos c32] at H
                              have c32b0 : decide (x17_2 < (l2.length : Int)) = true := decide_eq_true c32
                              clear c32
                              (first | rw [c32b0] | (simp only [i64_w, i32_w]; rw [c32b0]) | skip)
                              have H' := Aside0.mk H
                              clear H
                              have p122 : 0 ≤ (x17_2 : Int) := of_decide_eq_true (by first | (with_reducible assumption) | assumption)
                              have q122 : x17_2 < (l2.length : Int) := of_decide_eq_true (by first | (with_reducible assumption) | assumption)
                              obtain ⟨ad122, e122, hx122_0⟩ := Kd.at_bool HR2.out x17_2 p122 q122
                              cases e122
                              replace hx122_0 := (HB.out.cell (World.block_lt_of_cell? w _ hx122_0)).trans hx122_0
                              replace p122 := eq_true p122
                              replace q122 := eq_true q122
                              go_wp2
                              go_meet
                              case rel => exact ⟨_, (rdOf false l2 x17_2), (by first | rfl | (simp; done) | (simp [*]; done)), H', ⟨by have := HJ7.out; have := HK2.out; first | omega | exact Nat.le_refl _⟩, ⟨by (try simp only [hl0_2]); (with_reducible repeat (first | apply Kd.V_alloc | apply Kd.V_drewN | apply Kd.V_drew)); exact Kd.V_mono HO_0.out (fun _ hk => ⟨hk.1.1, ⟨hk.1.2.1, ⟨hk.1.2.2, hk.2⟩⟩⟩)⟩, ⟨by (try simp only [hl0_2]); (with_reducible repeat (first | apply Kd.N_alloc | apply Kd.N_drewN | apply Kd.N_drew)); exact Kd.N_mono HO_14.out (fun _ hk => ⟨hk.1.1, ⟨hk.1.2, hk.2⟩⟩)⟩, ⟨by (try simp only [hl0_2]); (with_reducible repeat (first | apply Kd.N_alloc | apply Kd.N_drewN | apply Kd.N_drew)); exact Kd.N_mono HO117.out (fun _ hk => ⟨hk.1.1, ⟨hk.1.2, hk.2⟩⟩)⟩, ⟨by (try simp only [hl0_2]); (with_reducible repeat (first | apply Kd.N_alloc | apply Kd.N_drewN | apply Kd.N_drew)); exact HO121.out⟩, ⟨by repeat (first | (with_reducible first | exact HB.out | apply below_alloc | apply pw_below_drewN | apply below_drew1) | exact HB.out)⟩⟩
                            · rw [if_neg c32] at H
                              have c32b0 : decide (x17_2 < (l2.length : Int)) = false := decide_eq_false c32
                              clear c32
                              (first | rw [c32b0] | (simp only [i64_w, i32_w]; rw [c32b0]) | skip)
                              have H' := Aside0.mk H
                              clear H
                              go_wp2
                              go_meet
                              case rel => exact ⟨_, (false), (by first | rfl | (simp; done) | (simp [*]; done)), H', ⟨by have := HJ7.out; have := HK2.out; first | omega | exact Nat.le_refl _⟩, ⟨by (try simp only [hl0_2]); (with_reducible repeat (first | apply Kd.V_alloc | apply Kd.V_drewN | apply Kd.V_drew)); exact Kd.V_mono HO_0.out (fun _ hk => ⟨hk.1.1, ⟨hk.1.2.1, ⟨hk.1.2.2, hk.2⟩⟩⟩)⟩, ⟨by (try simp only [hl0_2]); (with_reducible repeat (first | apply Kd.N_alloc | apply Kd.N_drewN | apply Kd.N_drew)); exact Kd.N_mono HO_14.out (fun _ hk => ⟨hk.1.1, ⟨hk.1.2, hk.2⟩⟩)⟩, ⟨by (try simp only [hl0_2]); (with_reducible repeat (first | apply Kd.N_alloc | apply Kd.N_drewN | apply Kd.N_drew)); exact Kd.N_mono HO117.out (fun _ hk => ⟨hk.1.1, ⟨hk.1.2, hk.2⟩⟩)⟩, ⟨by (try simp only [hl0_2]); (with_reducible repeat (first | apply Kd.N_alloc | apply Kd.N_drewN | apply Kd.N_drew)); exact HO121.out⟩, ⟨by repeat (first | (with_reducible first | exact HB.out | apply below_alloc | apply pw_below_drewN | apply below_drew1) | exact HB.out)⟩⟩
                          case rest =>
                            clear HC28
                            try clear c1
                            try clear p1
                            try clear q1
                            try clear hx1
                            try clear c2
                            try clear p2
                            try clear c3
                            try clear c4
                            try clear c5
                            try clear c10
                            try clear c11
                            try clear p11
                            try clear q11
                            try clear hx11
                            try clear c12
                            try clear p12
                            try clear q12
                            try clear hx12
                            try clear c13
                            try clear c13b0
                            try clear c13b1
                            try clear c14
                            try clear c14b0
                            try clear c15
                            try clear c17
                            try clear c17b0
                            try clear c17b1
                            try clear c18
                            try clear c19
                            try clear c21
                            try clear c24
                            try clear c24b0
                            try clear c25
                            try clear c25b0
                            try clear c26
                            try clear c27
                            try clear c32
                            try clear c32b0
                            try clear hx114_0
                            try clear hx118_0
                            try clear hx122_0
                            try clear p114
                            try clear p118
                            try clear p122
                            try clear p2
                            try clear q114
                            try clear q118
                            try clear q122
                            obtain ⟨kq, x92_27, rfl, HA, HJ27, HO_0, HO_14, HO_15, HO_16, HB⟩ := hcut
                            cases kq with
                            | zero => exact absurd HA.out (by simp [quartermasterlaw03_RsAny.j2])
                            | succ kj27 =>
                              have H := HA.out
                              clear HA
                              simp only [quartermasterlaw03_RsAny.j2] at H
                              by_cases c33 : x92_27 = true
                              · subst c33
                                have H1 : (if 0 ≤ x17_2 then (if x17_2 < (y115.length : Int) then ((some (y115.set (x17_2 : Int).toNat ([] : List Int) : List (List Int))).bind fun y123 => (if x17_2 < (l3.length : Int) then (if rdOf false l3 x17_2 = true then (if x17_2 < (y119.length : Int) then (quartermasterlaw03_RsAny.l0 kj27 x0_2 l2 l3 x14_2 y123 (y119.set (x17_2 : Int).toNat ([] : List Int)) (wrap64 (x17_2 + 1))) else (none)) else (quartermasterlaw03_RsAny.l0 kj27 x0_2 l2 l3 x14_2 y123 y119 (wrap64 (x17_2 + 1)))) else (quartermasterlaw03_RsAny.l0 kj27 x0_2 l2 l3 x14_2 y123 y119 (wrap64 (x17_2 + 1))))) else (none)) else (none)) = some r := by rw [if_pos rfl] at H; exact H
                                clear H
                                have H := H1
                                clear H1
                                by_cases c34 : 0 ≤ x17_2
                                · rw [if_pos c34] at H
                                  have c34b0 : decide (0 ≤ x17_2) = true := decide_eq_true c34
                                  clear c34
                                  by_cases c35 : x17_2 < (y115.length : Int)
                                  · rw [if_pos c35] at H
                                    have c35b0 : decide (x17_2 < (y115.length : Int)) = true := decide_eq_true c35
                                    clear c35
                                    obtain ⟨y123, hy123⟩ : ∃ y_ : List (List Int), y_ = (y115.set (x17_2 : Int).toNat ([] : List Int)) := ⟨_, rfl⟩
                                    replace H : (if x17_2 < (l3.length : Int) then (if rdOf false l3 x17_2 = true then (if x17_2 < (y119.length : Int) then (quartermasterlaw03_RsAny.l0 kj27 x0_2 l2 l3 x14_2 y123 (y119.set (x17_2 : Int).toNat ([] : List Int)) (wrap64 (x17_2 + 1))) else (none)) else (quartermasterlaw03_RsAny.l0 kj27 x0_2 l2 l3 x14_2 y123 y119 (wrap64 (x17_2 + 1)))) else (quartermasterlaw03_RsAny.l0 kj27 x0_2 l2 l3 x14_2 y123 y119 (wrap64 (x17_2 + 1)))) = some r := by first | (rw [hy123]; with_reducible exact H) | (have H2_ := (Option.bind_some _ _).symm.trans H; rw [hy123]; with_reducible exact H2_) | (have H2_ := (Option.bind_some _ _).symm.trans H; with_reducible exact H2_) | with_reducible exact H | (rw [hy123]; exact H) | exact H
                                    have Ny123 := Aside0.mk hy123
                                    clear hy123
                                    by_cases c37 : x17_2 < (l3.length : Int)
                                    · rw [if_pos c37] at H
                                      have c37b0 : decide (x17_2 < (l3.length : Int)) = true := decide_eq_true c37
                                      clear c37
                                      obtain ⟨bq38, hbq38⟩ : ∃ b_ : Bool, b_ = (rdOf false l3 x17_2) := ⟨_, rfl⟩
                                      replace H : (if bq38 = true then (if x17_2 < (y119.length : Int) then (quartermasterlaw03_RsAny.l0 kj27 x0_2 l2 l3 x14_2 y123 (y119.set (x17_2 : Int).toNat ([] : List Int)) (wrap64 (x17_2 + 1))) else (none)) else (quartermasterlaw03_RsAny.l0 kj27 x0_2 l2 l3 x14_2 y123 y119 (wrap64 (x17_2 + 1)))) = some r := by rw [← hbq38] at H; exact H
                                      have Nbq38 := Aside0.mk hbq38
                                      clear hbq38
                                      by_cases c39 : bq38 = true
                                      · subst c39
                                        have H1 : (if x17_2 < (y119.length : Int) then (quartermasterlaw03_RsAny.l0 kj27 x0_2 l2 l3 x14_2 y123 (y119.set (x17_2 : Int).toNat ([] : List Int)) (wrap64 (x17_2 + 1))) else (none)) = some r := by rw [if_pos rfl] at H; exact H
                                        clear H
                                        have H := H1
                                        clear H1
                                        by_cases c40 : x17_2 < (y119.length : Int)
                                        · rw [if_pos c40] at H
                                          have c40b0 : decide (x17_2 < (y119.length : Int)) = true := decide_eq_true c40
                                          clear c40
                                          obtain ⟨y125, hy125⟩ : ∃ y_ : List (List Int), y_ = (y119.set (x17_2 : Int).toNat ([] : List Int)) := ⟨_, rfl⟩
                                          replace H : (quartermasterlaw03_RsAny.l0 kj27 x0_2 l2 l3 x14_2 y123 y125 (wrap64 (x17_2 + 1))) = some r := by first | (rw [hy125]; with_reducible exact H) | (have H2_ := (Option.bind_some _ _).symm.trans H; rw [hy125]; with_reducible exact H2_) | (have H2_ := (Option.bind_some _ _).symm.trans H; with_reducible exact H2_) | with_reducible exact H | (rw [hy125]; exact H) | exact H
                                          have Ny125 := Aside0.mk hy125
                                          clear hy125
                                          have H' := Aside0.mk H
                                          clear H
                                          have p36 : 0 ≤ (x17_2 : Int) := of_decide_eq_true (by first | (with_reducible assumption) | assumption)
                                          have q36 : (x17_2 : Int) < ((y115.length : Int) : Int) := of_decide_eq_true (by first | (with_reducible assumption) | assumption)
                                          obtain ⟨go36, co36, eo36, gb36, gl36, cl36, HG36⟩ := Kd.N_form HO_15.out (by omega)
                                          (first | cases eo36 | (injection eo36 with ea_ en_ ec_; (first | subst ea_ | (injection ea_ with ea_; subst ea_)); subst ec_; clear en_))
                                          have GB36 := Aside0.mk gb36
                                          have GG36 := Aside0.mk HG36
                                          clear gb36 gl36 HG36
                                          obtain ⟨ce36, hcl36, hM36, hcc36, hfr36⟩ := Kd.N_elem HO_15.out [] (x17_2 : Int) p36 q36
                                          obtain ⟨ua36_0, uc36_0, rfl, ul36_0, ge36_0⟩ := Kd.FK_slice_open hM36
                                          have hx36_0 := hcc36 0 _ rfl
                                          have hf36_0 := hfr36 0
                                          (try simp only [show ((Kd.slice 5 (Kd.int .u8))).sz = 1 from rfl, Nat.mul_one, Nat.add_zero] at hx36_0)
                                          (try simp only [show ((Kd.slice 5 (Kd.int .u8))).sz = 1 from rfl, Nat.mul_one, Nat.add_zero] at hf36_0)
                                          clear hcl36 hcc36 hfr36 hM36
                                          replace p36 := eq_true p36
                                          replace q36 := eq_true q36
                                          have HX42 := Aside0.mk (show Kd.N (Kd.slice 5 (Kd.int .u8)) 43 wc w.heap.size (fun k_ => (P0_ k_ ∨ w.heap.size ≤ k_) ∧ some k_ ≠ (.slice (some ad114) x14_2.length co29 : Value).ownBlock ∧ some k_ ≠ (v120 : Value).ownBlock) (.slice (some ⟨go36, 0, none⟩) y115.length co36) y115 from (by (with_reducible repeat (first | apply Kd.N_alloc | apply Kd.N_drewN | apply Kd.N_drew)); exact HO_15.out))
                                          obtain ⟨ce42, hcl42, hM42, hcc42, hfr42⟩ := Kd.N_elem HX42.out [] (x17_2 : Int) (of_decide_eq_true (by first | (with_reducible assumption) | assumption)) (by have h_ : (x17_2 : Int) < ((y115.length : Int) : Int) := of_decide_eq_true (by first | (with_reducible assumption) | assumption); first | exact h_ | (have e_ := (Kd.N_reads' HO_15.out).1; omega) | simpa using h_)
                                          obtain ⟨ua42_0, uc42_0, rfl, ul42_0, ge42_0⟩ := Kd.FK_slice_open hM42
                                          have HP42 := Kd.N_seg HX42.out (x17_2 : Int) (of_decide_eq_true (by first | (with_reducible assumption) | assumption)) (by have h_ : (x17_2 : Int) < ((y115.length : Int) : Int) := of_decide_eq_true (by first | (with_reducible assumption) | assumption); first | exact h_ | (have e_ := (Kd.N_reads' HO_15.out).1; omega) | simpa using h_) (seg := [.slice none 0 0]) (j := 0) hcl42 hcc42 (show 1 ≤ 1 from by decide) (x' := ([] : List Int)) (Kd.FK_slice_mk (Nat.le_refl _) (Kd.F_nil _ _ _)) (fun _ hk => hk)
                                          have hx42_0 := hcc42 0 _ rfl
                                          (try simp only [show ((Kd.slice 5 (Kd.int .u8))).sz = 1 from rfl, Nat.mul_one, Nat.add_zero] at hx42_0)
                                          have hf42_0 := hfr42 0
                                          (try simp only [show ((Kd.slice 5 (Kd.int .u8))).sz = 1 from rfl, Nat.mul_one, Nat.add_zero] at hf42_0)
                                          clear hcl42 hcc42 hfr42 hM42
                                          (try simp only [show ((Kd.slice 5 (Kd.int .u8))).sz = 1 from rfl, Nat.mul_one, Nat.add_zero] at HP42)
                                          (try simp only [show ((Kd.slice 5 (Kd.int .u8))).sz = 1 from rfl, Nat.mul_one, Nat.add_zero] at HP42)
                                          go_wp2_with (first | ((with_reducible refine gate_store (t := 43) (p := 95) rfl ?_); refine store_event (t := 43) (p := 95) (v := ?vo_w43) (w1 := (wc.setCell ⟨go36, (x17_2 : Int).toNat, none⟩ (.slice none 0 0))) ?hg ?ho ?hn ?hr ?_; (case ho => rfl); (case hg => rfl); (case hn => rfl); (case hr => first | (go_simp; done) | (go_simp; rfl)); intro w43 hw; have hg : wc.grownBy w43 (some go36) := (by rw [hw]; exact HP42.2); have hp_ : Kd.N (Kd.slice 5 (Kd.int .u8)) 43 w43 w.heap.size (fun k_ => (P0_ k_ ∨ w.heap.size ≤ k_) ∧ some k_ ≠ (.slice (some ad114) x14_2.length co29 : Value).ownBlock ∧ some k_ ≠ (v120 : Value).ownBlock) (.slice (some ⟨go36, 0, none⟩) y115.length co36) y123 := (by rw [hw, Ny123.out]; exact HP42.1); clear HP42; have n0_ := Aside0.mk (Kd.V_afterv (v := (.slice (some ⟨go36, 0, none⟩) y115.length co36)) (v1 := (.slice (some ⟨go36, 0, none⟩) y115.length co36)) (ok := (fun k_ => (P0_ k_ ∨ w.heap.size ≤ k_) ∧ some k_ ≠ (.slice (some ad114) x14_2.length co29 : Value).ownBlock ∧ some k_ ≠ (v120 : Value).ownBlock)) (by (with_reducible repeat (first | apply Kd.V_alloc | apply Kd.V_drewN | apply Kd.V_drew)); exact Kd.V_mono HO_0.out (fun _ hk => ⟨⟨hk.1, ⟨hk.2.1, hk.2.2.2⟩⟩, hk.2.2.1⟩)) hg (.inl rfl)); have n1_ := Aside0.mk (Kd.N_afterv (v := (.slice (some ⟨go36, 0, none⟩) y115.length co36)) (v1 := (.slice (some ⟨go36, 0, none⟩) y115.length co36)) (ok := (fun k_ => (P0_ k_ ∨ w.heap.size ≤ k_) ∧ some k_ ≠ (v120 : Value).ownBlock)) (by (with_reducible repeat (first | apply Kd.N_alloc | apply Kd.N_drewN | apply Kd.N_drew)); exact Kd.N_mono HO_14.out (fun _ hk => ⟨⟨hk.1, hk.2.2⟩, hk.2.1⟩)) hg (.inl rfl)); have n2_ := Aside0.mk (hp_); have n3_ := Aside0.mk (Kd.N_afterv (v := (.slice (some ⟨go36, 0, none⟩) y115.length co36)) (v1 := (.slice (some ⟨go36, 0, none⟩) y115.length co36)) (ok := (fun k_ => (P0_ k_ ∨ w.heap.size ≤ k_) ∧ some k_ ≠ (.slice (some ad114) x14_2.length co29 : Value).ownBlock)) (by (with_reducible repeat (first | apply Kd.N_alloc | apply Kd.N_drewN | apply Kd.N_drew)); exact Kd.N_mono HO_16.out (fun _ hk => ⟨⟨hk.1, hk.2.1⟩, hk.2.2⟩)) hg (.inl rfl)); have n4_ := Aside0.mk ((by rw [hw]; exact below_set (HB.out) GB36.out : Below w.heap.size w w43)); clear HO_0; clear HO_14; clear HO_15; clear HO_16; clear HB; have HO_0 := n0_; have HO_14 := n1_; have HO_15 := n2_; have HO_16 := n3_; have HB := n4_; clear n0_ n1_ n2_ n3_ n4_; clear hg hw hp_; have p124 : 0 ≤ (x17_2 : Int) := of_decide_eq_true (by first | (with_reducible assumption) | assumption); have q124 : x17_2 < (l3.length : Int) := of_decide_eq_true (by first | (with_reducible assumption) | assumption); obtain ⟨ad124, e124, hx124_0⟩ := Kd.at_bool HR3.out x17_2 p124 q124; (try rw [← Nbq38.out] at hx124_0); cases e124; replace hx124_0 := (HB.out.cell (World.block_lt_of_cell? w _ hx124_0)).trans hx124_0; replace p124 := eq_true p124; replace q124 := eq_true q124; have p41 : 0 ≤ (x17_2 : Int) := of_decide_eq_true (by first | (with_reducible assumption) | assumption); have q41 : (x17_2 : Int) < ((y119.length : Int) : Int) := of_decide_eq_true (by first | (with_reducible assumption) | assumption); obtain ⟨go41, co41, eo41, gb41, gl41, cl41, HG41⟩ := Kd.N_form HO_16.out (by omega); (first | cases eo41 | (injection eo41 with ea_ en_ ec_; (first | subst ea_ | (injection ea_ with ea_; subst ea_)); subst ec_; clear en_)); have GB41 := Aside0.mk gb41; have GG41 := Aside0.mk HG41; clear gb41 gl41 HG41; obtain ⟨ce41, hcl41, hM41, hcc41, hfr41⟩ := Kd.N_elem HO_16.out [] (x17_2 : Int) p41 q41; obtain ⟨ua41_0, uc41_0, rfl, ul41_0, ge41_0⟩ := Kd.FK_slice_open hM41; have hx41_0 := hcc41 0 _ rfl; have hf41_0 := hfr41 0; (try simp only [show ((Kd.slice 5 (Kd.int .u8))).sz = 1 from rfl, Nat.mul_one, Nat.add_zero] at hx41_0); (try simp only [show ((Kd.slice 5 (Kd.int .u8))).sz = 1 from rfl, Nat.mul_one, Nat.add_zero] at hf41_0); clear hcl41 hcc41 hfr41 hM41; replace p41 := eq_true p41; replace q41 := eq_true q41; have n_ := Aside0.mk (Kd.N_mono (ok' := (fun k_ => (P0_ k_ ∨ w.heap.size ≤ k_) ∧ some k_ ≠ (.slice (some ad114) x14_2.length co29 : Value).ownBlock ∧ some k_ ≠ (.slice (some ⟨go36, 0, none⟩) y115.length co36 : Value).ownBlock)) HO_16.out (fun k_ hk => ⟨hk.1.1, ⟨hk.1.2, hk.2⟩⟩)); clear HO_16; have HO_16 := n_; clear n_; have HX44 := Aside0.mk (show Kd.N (Kd.slice 5 (Kd.int .u8)) 43 w43 w.heap.size (fun k_ => (P0_ k_ ∨ w.heap.size ≤ k_) ∧ some k_ ≠ (.slice (some ad114) x14_2.length co29 : Value).ownBlock ∧ some k_ ≠ (.slice (some ⟨go36, 0, none⟩) y115.length co36 : Value).ownBlock) (.slice (some ⟨go41, 0, none⟩) y119.length co41) y119 from (by (with_reducible repeat (first | apply Kd.N_alloc | apply Kd.N_drewN | apply Kd.N_drew)); exact HO_16.out)); obtain ⟨ce44, hcl44, hM44, hcc44, hfr44⟩ := Kd.N_elem HX44.out [] (x17_2 : Int) (of_decide_eq_true (by first | (with_reducible assumption) | assumption)) (by have h_ : (x17_2 : Int) < ((y119.length : Int) : Int) := of_decide_eq_true (by first | (with_reducible assumption) | assumption); first | exact h_ | (have e_ := (Kd.N_reads' HO_16.out).1; omega) | simpa using h_); obtain ⟨ua44_0, uc44_0, rfl, ul44_0, ge44_0⟩ := Kd.FK_slice_open hM44; have HP44 := Kd.N_seg HX44.out (x17_2 : Int) (of_decide_eq_true (by first | (with_reducible assumption) | assumption)) (by have h_ : (x17_2 : Int) < ((y119.length : Int) : Int) := of_decide_eq_true (by first | (with_reducible assumption) | assumption); first | exact h_ | (have e_ := (Kd.N_reads' HO_16.out).1; omega) | simpa using h_) (seg := [.slice none 0 0]) (j := 0) hcl44 hcc44 (show 1 ≤ 1 from by decide) (x' := ([] : List Int)) (Kd.FK_slice_mk (Nat.le_refl _) (Kd.F_nil _ _ _)) (fun _ hk => hk); have hx44_0 := hcc44 0 _ rfl; (try simp only [show ((Kd.slice 5 (Kd.int .u8))).sz = 1 from rfl, Nat.mul_one, Nat.add_zero] at hx44_0); have hf44_0 := hfr44 0; (try simp only [show ((Kd.slice 5 (Kd.int .u8))).sz = 1 from rfl, Nat.mul_one, Nat.add_zero] at hf44_0); clear hcl44 hcc44 hfr44 hM44; (try simp only [show ((Kd.slice 5 (Kd.int .u8))).sz = 1 from rfl, Nat.mul_one, Nat.add_zero] at HP44); (try simp only [show ((Kd.slice 5 (Kd.int .u8))).sz = 1 from rfl, Nat.mul_one, Nat.add_zero] at HP44)) | ((with_reducible refine gate_store (t := 43) (p := 108) rfl ?_); refine store_event (t := 43) (p := 108) (v := ?vo_w45) (w1 := (w43.setCell ⟨go41, (x17_2 : Int).toNat, none⟩ (.slice none 0 0))) ?hg ?ho ?hn ?hr ?_; (case ho => rfl); (case hg => rfl); (case hn => rfl); (case hr => first | (go_simp; done) | (go_simp; rfl)); intro w45 hw; have hg : w43.grownBy w45 (some go41) := (by rw [hw]; exact HP44.2); have hp_ : Kd.N (Kd.slice 5 (Kd.int .u8)) 43 w45 w.heap.size (fun k_ => (P0_ k_ ∨ w.heap.size ≤ k_) ∧ some k_ ≠ (.slice (some ad114) x14_2.length co29 : Value).ownBlock ∧ some k_ ≠ (.slice (some ⟨go36, 0, none⟩) y115.length co36 : Value).ownBlock) (.slice (some ⟨go41, 0, none⟩) y119.length co41) y125 := (by rw [hw, Ny125.out]; exact HP44.1); clear HP44; have n0_ := Aside0.mk (Kd.V_afterv (v := (.slice (some ⟨go41, 0, none⟩) y119.length co41)) (v1 := (.slice (some ⟨go41, 0, none⟩) y119.length co41)) (ok := (fun k_ => (P0_ k_ ∨ w.heap.size ≤ k_) ∧ some k_ ≠ (.slice (some ad114) x14_2.length co29 : Value).ownBlock ∧ some k_ ≠ (.slice (some ⟨go36, 0, none⟩) y115.length co36 : Value).ownBlock)) (by (with_reducible repeat (first | apply Kd.V_alloc | apply Kd.V_drewN | apply Kd.V_drew)); exact Kd.V_mono HO_0.out (fun _ hk => ⟨⟨hk.1.1, ⟨hk.1.2.1, hk.2⟩⟩, hk.1.2.2⟩)) hg (.inl rfl)); have n1_ := Aside0.mk (Kd.N_afterv (v := (.slice (some ⟨go41, 0, none⟩) y119.length co41)) (v1 := (.slice (some ⟨go41, 0, none⟩) y119.length co41)) (ok := (fun k_ => (P0_ k_ ∨ w.heap.size ≤ k_) ∧ some k_ ≠ (.slice (some ⟨go36, 0, none⟩) y115.length co36 : Value).ownBlock)) (by (with_reducible repeat (first | apply Kd.N_alloc | apply Kd.N_drewN | apply Kd.N_drew)); exact Kd.N_mono HO_14.out (fun _ hk => ⟨⟨hk.1.1, hk.2⟩, hk.1.2⟩)) hg (.inl rfl)); have n2_ := Aside0.mk (Kd.N_afterv (v := (.slice (some ⟨go41, 0, none⟩) y119.length co41)) (v1 := (.slice (some ⟨go41, 0, none⟩) y119.length co41)) (ok := (fun k_ => (P0_ k_ ∨ w.heap.size ≤ k_) ∧ some k_ ≠ (.slice (some ad114) x14_2.length co29 : Value).ownBlock)) (by (with_reducible repeat (first | apply Kd.N_alloc | apply Kd.N_drewN | apply Kd.N_drew)); exact Kd.N_mono HO_15.out (fun _ hk => ⟨⟨hk.1, hk.2.1⟩, hk.2.2⟩)) hg (.inl rfl)); have n3_ := Aside0.mk (hp_); have n4_ := Aside0.mk ((by rw [hw]; exact below_set (HB.out) GB41.out : Below w.heap.size w w45)); clear HO_0; clear HO_14; clear HO_15; clear HO_16; clear HB; have HO_0 := n0_; have HO_14 := n1_; have HO_15 := n2_; have HO_16 := n3_; have HB := n4_; clear n0_ n1_ n2_ n3_ n4_; clear hg hw hp_))
                                          (try simp only [← hl0_2])
                                          go_roundg kj27
                                          case measure => have := HJ7.out; have := HK2.out; have := HJ27.out; omega
                                          case rel => exact ⟨(x0_2), (x14_2), (y123), (y125), (wrap64 (x17_2 + 1)), (by first | rfl | (simp; done) | (simp [*]; done)), H', ⟨by have := HJ7.out; have := HK2.out; have := HJ27.out; omega⟩, ⟨by (try simp only [hl0_2]); (with_reducible repeat (first | apply Kd.V_alloc | apply Kd.V_drewN | apply Kd.V_drew)); exact Kd.V_mono HO_0.out (fun _ hk => ⟨hk.1.1, ⟨hk.1.2.1, ⟨hk.1.2.2, hk.2⟩⟩⟩)⟩, ⟨by (try simp only [hl0_2]); (with_reducible repeat (first | apply Kd.N_alloc | apply Kd.N_drewN | apply Kd.N_drew)); exact Kd.N_mono HO_14.out (fun _ hk => ⟨hk.1.1, ⟨hk.1.2, hk.2⟩⟩)⟩, ⟨by (try simp only [hl0_2]); (with_reducible repeat (first | apply Kd.N_alloc | apply Kd.N_drewN | apply Kd.N_drew)); exact Kd.N_mono HO_15.out (fun _ hk => ⟨hk.1.1, ⟨hk.1.2, hk.2⟩⟩)⟩, ⟨by (try simp only [hl0_2]); (with_reducible repeat (first | apply Kd.N_alloc | apply Kd.N_drewN | apply Kd.N_drew)); exact HO_16.out⟩, ⟨by repeat (first | (with_reducible first | exact HB.out | apply below_alloc | apply pw_below_drewN | apply below_drew1) | exact HB.out)⟩⟩
                                        · rw [if_neg c40] at H
                                          exact absurd H (by simp)
                                      · replace c39 := Bool.eq_false_iff.mpr c39
                                        subst c39
                                        have H1 : (quartermasterlaw03_RsAny.l0 kj27 x0_2 l2 l3 x14_2 y123 y119 (wrap64 (x17_2 + 1))) = some r := by rw [if_neg (show ¬ (false = true) by decide)] at H; exact H
                                        clear H
                                        have H := H1
                                        clear H1
                                        have H' := Aside0.mk H
                                        clear H
                                        have p36 : 0 ≤ (x17_2 : Int) := of_decide_eq_true (by first | (with_reducible assumption) | assumption)
                                        have q36 : (x17_2 : Int) < ((y115.length : Int) : Int) := of_decide_eq_true (by first | (with_reducible assumption) | assumption)
                                        obtain ⟨go36, co36, eo36, gb36, gl36, cl36, HG36⟩ := Kd.N_form HO_15.out (by omega)
                                        (first | cases eo36 | (injection eo36 with ea_ en_ ec_; (first | subst ea_ | (injection ea_ with ea_; subst ea_)); subst ec_; clear en_))
                                        have GB36 := Aside0.mk gb36
                                        have GG36 := Aside0.mk HG36
                                        clear gb36 gl36 HG36
                                        obtain ⟨ce36, hcl36, hM36, hcc36, hfr36⟩ := Kd.N_elem HO_15.out [] (x17_2 : Int) p36 q36
                                        obtain ⟨ua36_0, uc36_0, rfl, ul36_0, ge36_0⟩ := Kd.FK_slice_open hM36
                                        have hx36_0 := hcc36 0 _ rfl
                                        have hf36_0 := hfr36 0
                                        (try simp only [show ((Kd.slice 5 (Kd.int .u8))).sz = 1 from rfl, Nat.mul_one, Nat.add_zero] at hx36_0)
                                        (try simp only [show ((Kd.slice 5 (Kd.int .u8))).sz = 1 from rfl, Nat.mul_one, Nat.add_zero] at hf36_0)
                                        clear hcl36 hcc36 hfr36 hM36
                                        replace p36 := eq_true p36
                                        replace q36 := eq_true q36
                                        have HX46 := Aside0.mk (show Kd.N (Kd.slice 5 (Kd.int .u8)) 43 wc w.heap.size (fun k_ => (P0_ k_ ∨ w.heap.size ≤ k_) ∧ some k_ ≠ (.slice (some ad114) x14_2.length co29 : Value).ownBlock ∧ some k_ ≠ (v120 : Value).ownBlock) (.slice (some ⟨go36, 0, none⟩) y115.length co36) y115 from (by (with_reducible repeat (first | apply Kd.N_alloc | apply Kd.N_drewN | apply Kd.N_drew)); exact HO_15.out))
                                        obtain ⟨ce46, hcl46, hM46, hcc46, hfr46⟩ := Kd.N_elem HX46.out [] (x17_2 : Int) (of_decide_eq_true (by first | (with_reducible assumption) | assumption)) (by have h_ : (x17_2 : Int) < ((y115.length : Int) : Int) := of_decide_eq_true (by first | (with_reducible assumption) | assumption); first | exact h_ | (have e_ := (Kd.N_reads' HO_15.out).1; omega) | simpa using h_)
                                        obtain ⟨ua46_0, uc46_0, rfl, ul46_0, ge46_0⟩ := Kd.FK_slice_open hM46
                                        have HP46 := Kd.N_seg HX46.out (x17_2 : Int) (of_decide_eq_true (by first | (with_reducible assumption) | assumption)) (by have h_ : (x17_2 : Int) < ((y115.length : Int) : Int) := of_decide_eq_true (by first | (with_reducible assumption) | assumption); first | exact h_ | (have e_ := (Kd.N_reads' HO_15.out).1; omega) | simpa using h_) (seg := [.slice none 0 0]) (j := 0) hcl46 hcc46 (show 1 ≤ 1 from by decide) (x' := ([] : List Int)) (Kd.FK_slice_mk (Nat.le_refl _) (Kd.F_nil _ _ _)) (fun _ hk => hk)
                                        have hx46_0 := hcc46 0 _ rfl
                                        (try simp only [show ((Kd.slice 5 (Kd.int .u8))).sz = 1 from rfl, Nat.mul_one, Nat.add_zero] at hx46_0)
                                        have hf46_0 := hfr46 0
                                        (try simp only [show ((Kd.slice 5 (Kd.int .u8))).sz = 1 from rfl, Nat.mul_one, Nat.add_zero] at hf46_0)
                                        clear hcl46 hcc46 hfr46 hM46
                                        (try simp only [show ((Kd.slice 5 (Kd.int .u8))).sz = 1 from rfl, Nat.mul_one, Nat.add_zero] at HP46)
                                        (try simp only [show ((Kd.slice 5 (Kd.int .u8))).sz = 1 from rfl, Nat.mul_one, Nat.add_zero] at HP46)
                                        go_wp2_with (first | ((with_reducible refine gate_store (t := 43) (p := 95) rfl ?_); refine store_event (t := 43) (p := 95) (v := ?vo_w47) (w1 := (wc.setCell ⟨go36, (x17_2 : Int).toNat, none⟩ (.slice none 0 0))) ?hg ?ho ?hn ?hr ?_; (case ho => rfl); (case hg => rfl); (case hn => rfl); (case hr => first | (go_simp; done) | (go_simp; rfl)); intro w47 hw; have hg : wc.grownBy w47 (some go36) := (by rw [hw]; exact HP46.2); have hp_ : Kd.N (Kd.slice 5 (Kd.int .u8)) 43 w47 w.heap.size (fun k_ => (P0_ k_ ∨ w.heap.size ≤ k_) ∧ some k_ ≠ (.slice (some ad114) x14_2.length co29 : Value).ownBlock ∧ some k_ ≠ (v120 : Value).ownBlock) (.slice (some ⟨go36, 0, none⟩) y115.length co36) y123 := (by rw [hw, Ny123.out]; exact HP46.1); clear HP46; have n0_ := Aside0.mk (Kd.V_afterv (v := (.slice (some ⟨go36, 0, none⟩) y115.length co36)) (v1 := (.slice (some ⟨go36, 0, none⟩) y115.length co36)) (ok := (fun k_ => (P0_ k_ ∨ w.heap.size ≤ k_) ∧ some k_ ≠ (.slice (some ad114) x14_2.length co29 : Value).ownBlock ∧ some k_ ≠ (v120 : Value).ownBlock)) (by (with_reducible repeat (first | apply Kd.V_alloc | apply Kd.V_drewN | apply Kd.V_drew)); exact Kd.V_mono HO_0.out (fun _ hk => ⟨⟨hk.1, ⟨hk.2.1, hk.2.2.2⟩⟩, hk.2.2.1⟩)) hg (.inl rfl)); have n1_ := Aside0.mk (Kd.N_afterv (v := (.slice (some ⟨go36, 0, none⟩) y115.length co36)) (v1 := (.slice (some ⟨go36, 0, none⟩) y115.length co36)) (ok := (fun k_ => (P0_ k_ ∨ w.heap.size ≤ k_) ∧ some k_ ≠ (v120 : Value).ownBlock)) (by (with_reducible repeat (first | apply Kd.N_alloc | apply Kd.N_drewN | apply Kd.N_drew)); exact Kd.N_mono HO_14.out (fun _ hk => ⟨⟨hk.1, hk.2.2⟩, hk.2.1⟩)) hg (.inl rfl)); have n2_ := Aside0.mk (hp_); have n3_ := Aside0.mk (Kd.N_afterv (v := (.slice (some ⟨go36, 0, none⟩) y115.length co36)) (v1 := (.slice (some ⟨go36, 0, none⟩) y115.length co36)) (ok := (fun k_ => (P0_ k_ ∨ w.heap.size ≤ k_) ∧ some k_ ≠ (.slice (some ad114) x14_2.length co29 : Value).ownBlock)) (by (with_reducible repeat (first | apply Kd.N_alloc | apply Kd.N_drewN | apply Kd.N_drew)); exact Kd.N_mono HO_16.out (fun _ hk => ⟨⟨hk.1, hk.2.1⟩, hk.2.2⟩)) hg (.inl rfl)); have n4_ := Aside0.mk ((by rw [hw]; exact below_set (HB.out) GB36.out : Below w.heap.size w w47)); clear HO_0; clear HO_14; clear HO_15; clear HO_16; clear HB; have HO_0 := n0_; have HO_14 := n1_; have HO_15 := n2_; have HO_16 := n3_; have HB := n4_; clear n0_ n1_ n2_ n3_ n4_; clear hg hw hp_; have p124 : 0 ≤ (x17_2 : Int) := of_decide_eq_true (by first | (with_reducible assumption) | assumption); have q124 : x17_2 < (l3.length : Int) := of_decide_eq_true (by first | (with_reducible assumption) | assumption); obtain ⟨ad124, e124, hx124_0⟩ := Kd.at_bool HR3.out x17_2 p124 q124; (try rw [← Nbq38.out] at hx124_0); cases e124; replace hx124_0 := (HB.out.cell (World.block_lt_of_cell? w _ hx124_0)).trans hx124_0; replace p124 := eq_true p124; replace q124 := eq_true q124))
                                        (try simp only [← hl0_2])
                                        go_roundg kj27
                                        case measure => have := HJ7.out; have := HK2.out; have := HJ27.out; omega
                                        case rel => exact ⟨(x0_2), (x14_2), (y123), (y119), (wrap64 (x17_2 + 1)), (by first | rfl | (simp; done) | (simp [*]; done)), H', ⟨by have := HJ7.out; have := HK2.out; have := HJ27.out; omega⟩, ⟨by (try simp only [hl0_2]); (with_reducible repeat (first | apply Kd.V_alloc | apply Kd.V_drewN | apply Kd.V_drew)); exact Kd.V_mono HO_0.out (fun _ hk => ⟨hk.1.1, ⟨hk.1.2.1, ⟨hk.2, hk.1.2.2⟩⟩⟩)⟩, ⟨by (try simp only [hl0_2]); (with_reducible repeat (first | apply Kd.N_alloc | apply Kd.N_drewN | apply Kd.N_drew)); exact Kd.N_mono HO_14.out (fun _ hk => ⟨hk.1.1, ⟨hk.2, hk.1.2⟩⟩)⟩, ⟨by (try simp only [hl0_2]); (with_reducible repeat (first | apply Kd.N_alloc | apply Kd.N_drewN | apply Kd.N_drew)); exact HO_15.out⟩, ⟨by (try simp only [hl0_2]); (with_reducible repeat (first | apply Kd.N_alloc | apply Kd.N_drewN | apply Kd.N_drew)); exact Kd.N_mono HO_16.out (fun _ hk => ⟨hk.1.1, ⟨hk.1.2, hk.2⟩⟩)⟩, ⟨by repeat (first | (with_reducible first | exact HB.out | apply below_alloc | apply pw_below_drewN | apply below_drew1) | exact HB.out)⟩⟩
                                    · rw [if_neg c37] at H
                                      have c37b0 : decide (x17_2 < (l3.length : Int)) = false := decide_eq_false c37
                                      clear c37
                                      have H' := Aside0.mk H
                                      clear H
                                      have p36 : 0 ≤ (x17_2 : Int) := of_decide_eq_true (by first | (with_reducible assumption) | assumption)
                                      have q36 : (x17_2 : Int) < ((y115.length : Int) : Int) := of_decide_eq_true (by first | (with_reducible assumption) | assumption)
                                      obtain ⟨go36, co36, eo36, gb36, gl36, cl36, HG36⟩ := Kd.N_form HO_15.out (by omega)
                                      (first | cases eo36 | (injection eo36 with ea_ en_ ec_; (first | subst ea_ | (injection ea_ with ea_; subst ea_)); subst ec_; clear en_))
                                      have GB36 := Aside0.mk gb36
                                      have GG36 := Aside0.mk HG36
                                      clear gb36 gl36 HG36
                                      obtain ⟨ce36, hcl36, hM36, hcc36, hfr36⟩ := Kd.N_elem HO_15.out [] (x17_2 : Int) p36 q36
                                      obtain ⟨ua36_0, uc36_0, rfl, ul36_0, ge36_0⟩ := Kd.FK_slice_open hM36
                                      have hx36_0 := hcc36 0 _ rfl
                                      have hf36_0 := hfr36 0
                                      (try simp only [show ((Kd.slice 5 (Kd.int .u8))).sz = 1 from rfl, Nat.mul_one, Nat.add_zero] at hx36_0)
                                      (try simp only [show ((Kd.slice 5 (Kd.int .u8))).sz = 1 from rfl, Nat.mul_one, Nat.add_zero] at hf36_0)
                                      clear hcl36 hcc36 hfr36 hM36
                                      replace p36 := eq_true p36
                                      replace q36 := eq_true q36
                                      have HX48 := Aside0.mk (show Kd.N (Kd.slice 5 (Kd.int .u8)) 43 wc w.heap.size (fun k_ => (P0_ k_ ∨ w.heap.size ≤ k_) ∧ some k_ ≠ (.slice (some ad114) x14_2.length co29 : Value).ownBlock ∧ some k_ ≠ (v120 : Value).ownBlock) (.slice (some ⟨go36, 0, none⟩) y115.length co36) y115 from (by (with_reducible repeat (first | apply Kd.N_alloc | apply Kd.N_drewN | apply Kd.N_drew)); exact HO_15.out))
                                      obtain ⟨ce48, hcl48, hM48, hcc48, hfr48⟩ := Kd.N_elem HX48.out [] (x17_2 : Int) (of_decide_eq_true (by first | (with_reducible assumption) | assumption)) (by have h_ : (x17_2 : Int) < ((y115.length : Int) : Int) := of_decide_eq_true (by first | (with_reducible assumption) | assumption); first | exact h_ | (have e_ := (Kd.N_reads' HO_15.out).1; omega) | simpa using h_)
                                      obtain ⟨ua48_0, uc48_0, rfl, ul48_0, ge48_0⟩ := Kd.FK_slice_open hM48
                                      have HP48 := Kd.N_seg HX48.out (x17_2 : Int) (of_decide_eq_true (by first | (with_reducible assumption) | assumption)) (by have h_ : (x17_2 : Int) < ((y115.length : Int) : Int) := of_decide_eq_true (by first | (with_reducible assumption) | assumption); first | exact h_ | (have e_ := (Kd.N_reads' HO_15.out).1; omega) | simpa using h_) (seg := [.slice none 0 0]) (j := 0) hcl48 hcc48 (show 1 ≤ 1 from by decide) (x' := ([] : List Int)) (Kd.FK_slice_mk (Nat.le_refl _) (Kd.F_nil _ _ _)) (fun _ hk => hk)
                                      have hx48_0 := hcc48 0 _ rfl
                                      (try simp only [show ((Kd.slice 5 (Kd.int .u8))).sz = 1 from rfl, Nat.mul_one, Nat.add_zero] at hx48_0)
                                      have hf48_0 := hfr48 0
                                      (try simp only [show ((Kd.slice 5 (Kd.int .u8))).sz = 1 from rfl, Nat.mul_one, Nat.add_zero] at hf48_0)
                                      clear hcl48 hcc48 hfr48 hM48
                                      (try simp only [show ((Kd.slice 5 (Kd.int .u8))).sz = 1 from rfl, Nat.mul_one, Nat.add_zero] at HP48)
                                      (try simp only [show ((Kd.slice 5 (Kd.int .u8))).sz = 1 from rfl, Nat.mul_one, Nat.add_zero] at HP48)
                                      go_wp2_with (first | ((with_reducible refine gate_store (t := 43) (p := 95) rfl ?_); refine store_event (t := 43) (p := 95) (v := ?vo_w49) (w1 := (wc.setCell ⟨go36, (x17_2 : Int).toNat, none⟩ (.slice none 0 0))) ?hg ?ho ?hn ?hr ?_; (case ho => rfl); (case hg => rfl); (case hn => rfl); (case hr => first | (go_simp; done) | (go_simp; rfl)); intro w49 hw; have hg : wc.grownBy w49 (some go36) := (by rw [hw]; exact HP48.2); have hp_ : Kd.N (Kd.slice 5 (Kd.int .u8)) 43 w49 w.heap.size (fun k_ => (P0_ k_ ∨ w.heap.size ≤ k_) ∧ some k_ ≠ (.slice (some ad114) x14_2.length co29 : Value).ownBlock ∧ some k_ ≠ (v120 : Value).ownBlock) (.slice (some ⟨go36, 0, none⟩) y115.length co36) y123 := (by rw [hw, Ny123.out]; exact HP48.1); clear HP48; have n0_ := Aside0.mk (Kd.V_afterv (v := (.slice (some ⟨go36, 0, none⟩) y115.length co36)) (v1 := (.slice (some ⟨go36, 0, none⟩) y115.length co36)) (ok := (fun k_ => (P0_ k_ ∨ w.heap.size ≤ k_) ∧ some k_ ≠ (.slice (some ad114) x14_2.length co29 : Value).ownBlock ∧ some k_ ≠ (v120 : Value).ownBlock)) (by (with_reducible repeat (first | apply Kd.V_alloc | apply Kd.V_drewN | apply Kd.V_drew)); exact Kd.V_mono HO_0.out (fun _ hk => ⟨⟨hk.1, ⟨hk.2.1, hk.2.2.2⟩⟩, hk.2.2.1⟩)) hg (.inl rfl)); have n1_ := Aside0.mk (Kd.N_afterv (v := (.slice (some ⟨go36, 0, none⟩) y115.length co36)) (v1 := (.slice (some ⟨go36, 0, none⟩) y115.length co36)) (ok := (fun k_ => (P0_ k_ ∨ w.heap.size ≤ k_) ∧ some k_ ≠ (v120 : Value).ownBlock)) (by (with_reducible repeat (first | apply Kd.N_alloc | apply Kd.N_drewN | apply Kd.N_drew)); exact Kd.N_mono HO_14.out (fun _ hk => ⟨⟨hk.1, hk.2.2⟩, hk.2.1⟩)) hg (.inl rfl)); have n2_ := Aside0.mk (hp_); have n3_ := Aside0.mk (Kd.N_afterv (v := (.slice (some ⟨go36, 0, none⟩) y115.length co36)) (v1 := (.slice (some ⟨go36, 0, none⟩) y115.length co36)) (ok := (fun k_ => (P0_ k_ ∨ w.heap.size ≤ k_) ∧ some k_ ≠ (.slice (some ad114) x14_2.length co29 : Value).ownBlock)) (by (with_reducible repeat (first | apply Kd.N_alloc | apply Kd.N_drewN | apply Kd.N_drew)); exact Kd.N_mono HO_16.out (fun _ hk => ⟨⟨hk.1, hk.2.1⟩, hk.2.2⟩)) hg (.inl rfl)); have n4_ := Aside0.mk ((by rw [hw]; exact below_set (HB.out) GB36.out : Below w.heap.size w w49)); clear HO_0; clear HO_14; clear HO_15; clear HO_16; clear HB; have HO_0 := n0_; have HO_14 := n1_; have HO_15 := n2_; have HO_16 := n3_; have HB := n4_; clear n0_ n1_ n2_ n3_ n4_; clear hg hw hp_))
                                      (try simp only [← hl0_2])
                                      go_roundg kj27
                                      case measure => have := HJ7.out; have := HK2.out; have := HJ27.out; omega
                                      case rel => exact ⟨(x0_2), (x14_2), (y123), (y119), (wrap64 (x17_2 + 1)), (by first | rfl | (simp; done) | (simp [*]; done)), H', ⟨by have := HJ7.out; have := HK2.out; have := HJ27.out; omega⟩, ⟨by (try simp only [hl0_2]); (with_reducible repeat (first | apply Kd.V_alloc | apply Kd.V_drewN | apply Kd.V_drew)); exact Kd.V_mono HO_0.out (fun _ hk => ⟨hk.1.1, ⟨hk.1.2.1, ⟨hk.2, hk.1.2.2⟩⟩⟩)⟩, ⟨by (try simp only [hl0_2]); (with_reducible repeat (first | apply Kd.N_alloc | apply Kd.N_drewN | apply Kd.N_drew)); exact Kd.N_mono HO_14.out (fun _ hk => ⟨hk.1.1, ⟨hk.2, hk.1.2⟩⟩)⟩, ⟨by (try simp only [hl0_2]); (with_reducible repeat (first | apply Kd.N_alloc | apply Kd.N_drewN | apply Kd.N_drew)); exact HO_15.out⟩, ⟨by (try simp only [hl0_2]); (with_reducible repeat (first | apply Kd.N_alloc | apply Kd.N_drewN | apply Kd.N_drew)); exact Kd.N_mono HO_16.out (fun _ hk => ⟨hk.1.1, ⟨hk.1.2, hk.2⟩⟩)⟩, ⟨by repeat (first | (with_reducible first | exact HB.out | apply below_alloc | apply pw_below_drewN | apply below_drew1) | exact HB.out)⟩⟩
                                  · rw [if_neg c35] at H
                                    exact absurd H (by simp)
                                · rw [if_neg c34] at H
                                  exact absurd H (by simp)
                              · replace c33 := Bool.eq_false_iff.mpr c33
                                subst c33
                                have H1 : (if x17_2 < (l3.length : Int) then (if 0 ≤ x17_2 then (if rdOf false l3 x17_2 = true then (if x17_2 < (y119.length : Int) then (quartermasterlaw03_RsAny.l0 kj27 x0_2 l2 l3 x14_2 y115 (y119.set (x17_2 : Int).toNat ([] : List Int)) (wrap64 (x17_2 + 1))) else (none)) else (quartermasterlaw03_RsAny.l0 kj27 x0_2 l2 l3 x14_2 y115 y119 (wrap64 (x17_2 + 1)))) else (none)) else (quartermasterlaw03_RsAny.l0 kj27 x0_2 l2 l3 x14_2 y115 y119 (wrap64 (x17_2 + 1)))) = some r := by rw [if_neg (show ¬ (false = true) by decide)] at H; exact H
                                clear H
                                have H := H1
                                clear H1
                                by_cases c50 : x17_2 < (l3.length : Int)
                                · rw [if_pos c50] at H
                                  have c50b0 : decide (x17_2 < (l3.length : Int)) = true := decide_eq_true c50
                                  clear c50
                                  by_cases c51 : 0 ≤ x17_2
                                  · rw [if_pos c51] at H
                                    have c51b0 : decide (0 ≤ x17_2) = true := decide_eq_true c51
                                    clear c51
                                    obtain ⟨bq52, hbq52⟩ : ∃ b_ : Bool, b_ = (rdOf false l3 x17_2) := ⟨_, rfl⟩
                                    replace H : (if bq52 = true then (if x17_2 < (y119.length : Int) then (quartermasterlaw03_RsAny.l0 kj27 x0_2 l2 l3 x14_2 y115 (y119.set (x17_2 : Int).toNat ([] : List Int)) (wrap64 (x17_2 + 1))) else (none)) else (quartermasterlaw03_RsAny.l0 kj27 x0_2 l2 l3 x14_2 y115 y119 (wrap64 (x17_2 + 1)))) = some r := by rw [← hbq52] at H; exact H
                                    have Nbq52 := Aside0.mk hbq52
                                    clear hbq52
                                    by_cases c53 : bq52 = true
                                    · subst c53
                                      have H1 : (if x17_2 < (y119.length : Int) then (quartermasterlaw03_RsAny.l0 kj27 x0_2 l2 l3 x14_2 y115 (y119.set (x17_2 : Int).toNat ([] : List Int)) (wrap64 (x17_2 + 1))) else (none)) = some r := by rw [if_pos rfl] at H; exact H
                                      clear H
                                      have H := H1
                                      clear H1
                                      by_cases c54 : x17_2 < (y119.length : Int)
                                      · rw [if_pos c54] at H
                                        have c54b0 : decide (x17_2 < (y119.length : Int)) = true := decide_eq_true c54
                                        clear c54
                                        obtain ⟨y127, hy127⟩ : ∃ y_ : List (List Int), y_ = (y119.set (x17_2 : Int).toNat ([] : List Int)) := ⟨_, rfl⟩
                                        replace H : (quartermasterlaw03_RsAny.l0 kj27 x0_2 l2 l3 x14_2 y115 y127 (wrap64 (x17_2 + 1))) = some r := by first | (rw [hy127]; with_reducible exact H) | (have H2_ := (Option.bind_some _ _).symm.trans H; rw [hy127]; with_reducible exact H2_) | (have H2_ := (Option.bind_some _ _).symm.trans H; with_reducible exact H2_) | with_reducible exact H | (rw [hy127]; exact H) | exact H
                                        have Ny127 := Aside0.mk hy127
                                        clear hy127
                                        have H' := Aside0.mk H
                                        clear H
                                        have p126 : 0 ≤ (x17_2 : Int) := of_decide_eq_true (by first | (with_reducible assumption) | assumption)
                                        have q126 : x17_2 < (l3.length : Int) := of_decide_eq_true (by first | (with_reducible assumption) | assumption)
                                        obtain ⟨ad126, e126, hx126_0⟩ := Kd.at_bool HR3.out x17_2 p126 q126
                                        (try rw [← Nbq52.out] at hx126_0)
                                        cases e126
                                        replace hx126_0 := (HB.out.cell (World.block_lt_of_cell? w _ hx126_0)).trans hx126_0
                                        replace p126 := eq_true p126
                                        replace q126 := eq_true q126
                                        have p55 : 0 ≤ (x17_2 : Int) := of_decide_eq_true (by first | (with_reducible assumption) | assumption)
                                        have q55 : (x17_2 : Int) < ((y119.length : Int) : Int) := of_decide_eq_true (by first | (with_reducible assumption) | assumption)
                                        obtain ⟨go55, co55, eo55, gb55, gl55, cl55, HG55⟩ := Kd.N_form HO_16.out (by omega)
                                        (first | cases eo55 | (injection eo55 with ea_ en_ ec_; (first | subst ea_ | (injection ea_ with ea_; subst ea_)); subst ec_; clear en_))
                                        have GB55 := Aside0.mk gb55
                                        have GG55 := Aside0.mk HG55
                                        clear gb55 gl55 HG55
                                        obtain ⟨ce55, hcl55, hM55, hcc55, hfr55⟩ := Kd.N_elem HO_16.out [] (x17_2 : Int) p55 q55
                                        obtain ⟨ua55_0, uc55_0, rfl, ul55_0, ge55_0⟩ := Kd.FK_slice_open hM55
                                        have hx55_0 := hcc55 0 _ rfl
                                        have hf55_0 := hfr55 0
                                        (try simp only [show ((Kd.slice 5 (Kd.int .u8))).sz = 1 from rfl, Nat.mul_one, Nat.add_zero] at hx55_0)
                                        (try simp only [show ((Kd.slice 5 (Kd.int .u8))).sz = 1 from rfl, Nat.mul_one, Nat.add_zero] at hf55_0)
                                        clear hcl55 hcc55 hfr55 hM55
                                        replace p55 := eq_true p55
                                        replace q55 := eq_true q55
                                        have HX56 := Aside0.mk (show Kd.N (Kd.slice 5 (Kd.int .u8)) 43 wc w.heap.size (fun k_ => (P0_ k_ ∨ w.heap.size ≤ k_) ∧ some k_ ≠ (.slice (some ad114) x14_2.length co29 : Value).ownBlock ∧ some k_ ≠ (v116 : Value).ownBlock) (.slice (some ⟨go55, 0, none⟩) y119.length co55) y119 from (by (with_reducible repeat (first | apply Kd.N_alloc | apply Kd.N_drewN | apply Kd.N_drew)); exact HO_16.out))
                                        obtain ⟨ce56, hcl56, hM56, hcc56, hfr56⟩ := Kd.N_elem HX56.out [] (x17_2 : Int) (of_decide_eq_true (by first | (with_reducible assumption) | assumption)) (by have h_ : (x17_2 : Int) < ((y119.length : Int) : Int) := of_decide_eq_true (by first | (with_reducible assumption) | assumption); first | exact h_ | (have e_ := (Kd.N_reads' HO_16.out).1; omega) | simpa using h_)
                                        obtain ⟨ua56_0, uc56_0, rfl, ul56_0, ge56_0⟩ := Kd.FK_slice_open hM56
                                        have HP56 := Kd.N_seg HX56.out (x17_2 : Int) (of_decide_eq_true (by first | (with_reducible assumption) | assumption)) (by have h_ : (x17_2 : Int) < ((y119.length : Int) : Int) := of_decide_eq_true (by first | (with_reducible assumption) | assumption); first | exact h_ | (have e_ := (Kd.N_reads' HO_16.out).1; omega) | simpa using h_) (seg := [.slice none 0 0]) (j := 0) hcl56 hcc56 (show 1 ≤ 1 from by decide) (x' := ([] : List Int)) (Kd.FK_slice_mk (Nat.le_refl _) (Kd.F_nil _ _ _)) (fun _ hk => hk)
                                        have hx56_0 := hcc56 0 _ rfl
                                        (try simp only [show ((Kd.slice 5 (Kd.int .u8))).sz = 1 from rfl, Nat.mul_one, Nat.add_zero] at hx56_0)
                                        have hf56_0 := hfr56 0
                                        (try simp only [show ((Kd.slice 5 (Kd.int .u8))).sz = 1 from rfl, Nat.mul_one, Nat.add_zero] at hf56_0)
                                        clear hcl56 hcc56 hfr56 hM56
                                        (try simp only [show ((Kd.slice 5 (Kd.int .u8))).sz = 1 from rfl, Nat.mul_one, Nat.add_zero] at HP56)
                                        (try simp only [show ((Kd.slice 5 (Kd.int .u8))).sz = 1 from rfl, Nat.mul_one, Nat.add_zero] at HP56)
                                        go_wp2_with (first | ((with_reducible refine gate_store (t := 43) (p := 108) rfl ?_); refine store_event (t := 43) (p := 108) (v := ?vo_w57) (w1 := (wc.setCell ⟨go55, (x17_2 : Int).toNat, none⟩ (.slice none 0 0))) ?hg ?ho ?hn ?hr ?_; (case ho => rfl); (case hg => rfl); (case hn => rfl); (case hr => first | (go_simp; done) | (go_simp; rfl)); intro w57 hw; have hg : wc.grownBy w57 (some go55) := (by rw [hw]; exact HP56.2); have hp_ : Kd.N (Kd.slice 5 (Kd.int .u8)) 43 w57 w.heap.size (fun k_ => (P0_ k_ ∨ w.heap.size ≤ k_) ∧ some k_ ≠ (.slice (some ad114) x14_2.length co29 : Value).ownBlock ∧ some k_ ≠ (v116 : Value).ownBlock) (.slice (some ⟨go55, 0, none⟩) y119.length co55) y127 := (by rw [hw, Ny127.out]; exact HP56.1); clear HP56; have n0_ := Aside0.mk (Kd.V_afterv (v := (.slice (some ⟨go55, 0, none⟩) y119.length co55)) (v1 := (.slice (some ⟨go55, 0, none⟩) y119.length co55)) (ok := (fun k_ => (P0_ k_ ∨ w.heap.size ≤ k_) ∧ some k_ ≠ (.slice (some ad114) x14_2.length co29 : Value).ownBlock ∧ some k_ ≠ (v116 : Value).ownBlock)) (by (with_reducible repeat (first | apply Kd.V_alloc | apply Kd.V_drewN | apply Kd.V_drew)); exact Kd.V_mono HO_0.out (fun _ hk => ⟨⟨hk.1, ⟨hk.2.1, hk.2.2.1⟩⟩, hk.2.2.2⟩)) hg (.inl rfl)); have n1_ := Aside0.mk (Kd.N_afterv (v := (.slice (some ⟨go55, 0, none⟩) y119.length co55)) (v1 := (.slice (some ⟨go55, 0, none⟩) y119.length co55)) (ok := (fun k_ => (P0_ k_ ∨ w.heap.size ≤ k_) ∧ some k_ ≠ (v116 : Value).ownBlock)) (by (with_reducible repeat (first | apply Kd.N_alloc | apply Kd.N_drewN | apply Kd.N_drew)); exact Kd.N_mono HO_14.out (fun _ hk => ⟨⟨hk.1, hk.2.1⟩, hk.2.2⟩)) hg (.inl rfl)); have n2_ := Aside0.mk (Kd.N_afterv (v := (.slice (some ⟨go55, 0, none⟩) y119.length co55)) (v1 := (.slice (some ⟨go55, 0, none⟩) y119.length co55)) (ok := (fun k_ => (P0_ k_ ∨ w.heap.size ≤ k_) ∧ some k_ ≠ (.slice (some ad114) x14_2.length co29 : Value).ownBlock)) (by (with_reducible repeat (first | apply Kd.N_alloc | apply Kd.N_drewN | apply Kd.N_drew)); exact Kd.N_mono HO_15.out (fun _ hk => ⟨⟨hk.1, hk.2.1⟩, hk.2.2⟩)) hg (.inl rfl)); have n3_ := Aside0.mk (hp_); have n4_ := Aside0.mk ((by rw [hw]; exact below_set (HB.out) GB55.out : Below w.heap.size w w57)); clear HO_0; clear HO_14; clear HO_15; clear HO_16; clear HB; have HO_0 := n0_; have HO_14 := n1_; have HO_15 := n2_; have HO_16 := n3_; have HB := n4_; clear n0_ n1_ n2_ n3_ n4_; clear hg hw hp_))
                                        (try simp only [← hl0_2])
                                        go_roundg kj27
                                        case measure => have := HJ7.out; have := HK2.out; have := HJ27.out; omega
                                        case rel => exact ⟨(x0_2), (x14_2), (y115), (y127), (wrap64 (x17_2 + 1)), (by first | rfl | (simp; done) | (simp [*]; done)), H', ⟨by have := HJ7.out; have := HK2.out; have := HJ27.out; omega⟩, ⟨by (try simp only [hl0_2]); (with_reducible repeat (first | apply Kd.V_alloc | apply Kd.V_drewN | apply Kd.V_drew)); exact Kd.V_mono HO_0.out (fun _ hk => ⟨hk.1.1, ⟨hk.1.2.1, ⟨hk.1.2.2, hk.2⟩⟩⟩)⟩, ⟨by (try simp only [hl0_2]); (with_reducible repeat (first | apply Kd.N_alloc | apply Kd.N_drewN | apply Kd.N_drew)); exact Kd.N_mono HO_14.out (fun _ hk => ⟨hk.1.1, ⟨hk.1.2, hk.2⟩⟩)⟩, ⟨by (try simp only [hl0_2]); (with_reducible repeat (first | apply Kd.N_alloc | apply Kd.N_drewN | apply Kd.N_drew)); exact Kd.N_mono HO_15.out (fun _ hk => ⟨hk.1.1, ⟨hk.1.2, hk.2⟩⟩)⟩, ⟨by (try simp only [hl0_2]); (with_reducible repeat (first | apply Kd.N_alloc | apply Kd.N_drewN | apply Kd.N_drew)); exact HO_16.out⟩, ⟨by repeat (first | (with_reducible first | exact HB.out | apply below_alloc | apply pw_below_drewN | apply below_drew1) | exact HB.out)⟩⟩
                                      · rw [if_neg c54] at H
                                        exact absurd H (by simp)
                                    · replace c53 := Bool.eq_false_iff.mpr c53
                                      subst c53
                                      have H1 : (quartermasterlaw03_RsAny.l0 kj27 x0_2 l2 l3 x14_2 y115 y119 (wrap64 (x17_2 + 1))) = some r := by rw [if_neg (show ¬ (false = true) by decide)] at H; exact H
                                      clear H
                                      have H := H1
                                      clear H1
                                      have H' := Aside0.mk H
                                      clear H
                                      have p126 : 0 ≤ (x17_2 : Int) := of_decide_eq_true (by first | (with_reducible assumption) | assumption)
                                      have q126 : x17_2 < (l3.length : Int) := of_decide_eq_true (by first | (with_reducible assumption) | assumption)
                                      obtain ⟨ad126, e126, hx126_0⟩ := Kd.at_bool HR3.out x17_2 p126 q126
                                      (try rw [← Nbq52.out] at hx126_0)
                                      cases e126
                                      replace hx126_0 := (HB.out.cell (World.block_lt_of_cell? w _ hx126_0)).trans hx126_0
                                      replace p126 := eq_true p126
                                      replace q126 := eq_true q126
                                      go_wp2
                                      (try simp only [← hl0_2])
                                      go_roundg kj27
                                      case measure => have := HJ7.out; have := HK2.out; have := HJ27.out; omega
                                      case rel => exact ⟨(x0_2), (x14_2), (y115), (y119), (wrap64 (x17_2 + 1)), (by first | rfl | (simp; done) | (simp [*]; done)), H', ⟨by have := HJ7.out; have := HK2.out; have := HJ27.out; omega⟩, ⟨by (try simp only [hl0_2]); (with_reducible repeat (first | apply Kd.V_alloc | apply Kd.V_drewN | apply Kd.V_drew)); exact HO_0.out⟩, ⟨by (try simp only [hl0_2]); (with_reducible repeat (first | apply Kd.N_alloc | apply Kd.N_drewN | apply Kd.N_drew)); exact HO_14.out⟩, ⟨by (try simp only [hl0_2]); (with_reducible repeat (first | apply Kd.N_alloc | apply Kd.N_drewN | apply Kd.N_drew)); exact HO_15.out⟩, ⟨by (try simp only [hl0_2]); (with_reducible repeat (first | apply Kd.N_alloc | apply Kd.N_drewN | apply Kd.N_drew)); exact HO_16.out⟩, ⟨by repeat (first | (with_reducible first | exact HB.out | apply below_alloc | apply pw_below_drewN | apply below_drew1) | exact HB.out)⟩⟩
                                  · rw [if_neg c51] at H
                                    exact absurd H (by simp)
                                · rw [if_neg c50] at H
                                  have c50b0 : decide (x17_2 < (l3.length : Int)) = false := decide_eq_false c50
                                  clear c50
                                  have H' := Aside0.mk H
                                  clear H
                                  go_wp2
                                  (try simp only [← hl0_2])
                                  go_roundg kj27
                                  case measure => have := HJ7.out; have := HK2.out; have := HJ27.out; omega
                                  case rel => exact ⟨(x0_2), (x14_2), (y115), (y119), (wrap64 (x17_2 + 1)), (by first | rfl | (simp; done) | (simp [*]; done)), H', ⟨by have := HJ7.out; have := HK2.out; have := HJ27.out; omega⟩, ⟨by (try simp only [hl0_2]); (with_reducible repeat (first | apply Kd.V_alloc | apply Kd.V_drewN | apply Kd.V_drew)); exact HO_0.out⟩, ⟨by (try simp only [hl0_2]); (with_reducible repeat (first | apply Kd.N_alloc | apply Kd.N_drewN | apply Kd.N_drew)); exact HO_14.out⟩, ⟨by (try simp only [hl0_2]); (with_reducible repeat (first | apply Kd.N_alloc | apply Kd.N_drewN | apply Kd.N_drew)); exact HO_15.out⟩, ⟨by (try simp only [hl0_2]); (with_reducible repeat (first | apply Kd.N_alloc | apply Kd.N_drewN | apply Kd.N_drew)); exact HO_16.out⟩, ⟨by repeat (first | (with_reducible first | exact HB.out | apply below_alloc | apply pw_below_drewN | apply below_drew1) | exact HB.out)⟩⟩
                        · rw [if_neg c27] at H
                          exact absurd H (by simp)
                      · rw [if_neg c26] at H
                        exact absurd H (by simp)
                    · rw [if_neg c25] at H
                      exact absurd H (by simp)
                  · rw [if_neg c24] at H
                    have c24b0 : decide (x17_2 < (x14_2.length : Int)) = false := decide_eq_false c24
                    clear c24
                    replace H := Option.bind_eq_some_iff.mp H
                    obtain ⟨⟨t128, t129⟩, A580, H⟩ := H
                    replace H : ((rs_Decode.f x16_2 (x0_2.length : Int)).bind fun bt132 => (if t129 = 0 then (if bt132.2 = 0 then ((quartermasterref02_Same.f k2 t128 bt132.1).bind fun t136 => (some t136)) else (some (bt132.2 == 9))) else (if t129 = 9 then (if bt132.2 = 0 then (some true) else (some (bt132.2 == 9))) else (none)))) = some r := H
                    have A58 := Aside0.mk A580
                    clear A580
                    replace H := Option.bind_eq_some_iff.mp H
                    obtain ⟨⟨t132, t133⟩, A590, H⟩ := H
                    replace H : (if t129 = 0 then (if t133 = 0 then ((quartermasterref02_Same.f k2 t128 t132).bind fun t136 => (some t136)) else (some (t133 == 9))) else (if t129 = 9 then (if t133 = 0 then (some true) else (some (t133 == 9))) else (none))) = some r := H
                    have A59 := Aside0.mk A590
                    clear A590
                    by_cases c60 : t129 = 0
                    · rw [if_pos c60] at H
                      have c60b0 : (t129 == 0) = true := beq_iff_eq.mpr c60
                      have c60b1 : (t129 != 0) = false := bne_eq_false_iff_eq.mpr c60
                      clear c60
                      by_cases c61 : t133 = 0
                      · rw [if_pos c61] at H
                        have c61b0 : (t133 == 0) = true := beq_iff_eq.mpr c61
                        have c61b1 : (t133 != 0) = false := bne_eq_false_iff_eq.mpr c61
                        clear c61
                        replace H := Option.bind_eq_some_iff.mp H
                        obtain ⟨t136, A620, H⟩ := H
                        replace H : (some t136) = some r := H
                        have A62 := Aside0.mk A620
                        clear A620
                        obtain rfl := Option.some.inj H
                        obtain ⟨Ao63, co63, eo63⟩ := Kd.N_slice HO_14.out
                        subst eo63
                        obtain ⟨Ao64, co64, eo64⟩ := Kd.N_slice HO_15.out
                        subst eo64
                        go_wp2_with (first | ((with_reducible refine gate_callee (f := 55) rfl ?_); refine goesL_ (some 113) rfl rfl Try.func55 (by kernel_rfl) rfl #[.slice Ao64 x15_2.length co64, .int .i64 (x0_2.length : Int)] rfl (by (try simp only [List.map_toArray, List.map_cons, List.map_nil]); first | done | rfl | (simp only [List.length_drop, List.length_take]; rfl)) ?_; (with_reducible refine (rs_Decode.calls _ _ x15_2 (x0_2.length : Int) t128 t129 _ ?side1 ?side2 A58.out).mono ?_); (case side1 => repeat (first | exact (Kd.N_reads' HO_15.out).2.2 | (with_reducible refine Kd.C_alloc ?_ _) | (with_reducible refine Kd.C_drewN ?_ _) | (with_reducible refine Kd.C_drew ?_))); (case side2 => exact (Kd.N_reads' HO_15.out).2.1); rintro e w65 ⟨v130, rfl, ho0, hb⟩; refine ⟨_, rfl, ?_⟩; have n0_ := Aside0.mk (Kd.V_elder' (by (with_reducible repeat (first | apply Kd.V_alloc | apply Kd.V_drewN | apply Kd.V_drew)); exact HO_0.out) (by first | exact Kd.N_base ho0 | exact Kd.N_base (Kd.S_N ho0)) hb); have n1_ := Aside0.mk (Kd.N_elder' (by (with_reducible repeat (first | apply Kd.N_alloc | apply Kd.N_drewN | apply Kd.N_drew)); exact HO_14.out) (by first | exact Kd.N_base ho0 | exact Kd.N_base (Kd.S_N ho0)) hb); have n2_ := Aside0.mk (Kd.N_elder' (by (with_reducible repeat (first | apply Kd.N_alloc | apply Kd.N_drewN | apply Kd.N_drew)); exact HO_15.out) (by first | exact Kd.N_base ho0 | exact Kd.N_base (Kd.S_N ho0)) hb); have n3_ := Aside0.mk (Kd.N_elder' (by (with_reducible repeat (first | apply Kd.N_alloc | apply Kd.N_drewN | apply Kd.N_drew)); exact HO_16.out) (by first | exact Kd.N_base ho0 | exact Kd.N_base (Kd.S_N ho0)) hb); have n4_ := Aside0.mk (Kd.N_lower (Kd.N_mono (ok' := fun k_ => (P0_ k_ ∨ w.heap.size ≤ k_) ∧ some k_ ≠ (.slice Ao63 x14_2.length co63 : Value).ownBlock ∧ some k_ ≠ (.slice Ao64 x15_2.length co64 : Value).ownBlock ∧ some k_ ≠ (u16 : Value).ownBlock) (Kd.S_N (Kd.S_bound ho0)) (fun k_ hk_ => ⟨(.inr (Nat.le_trans (below_size (by repeat (first | (with_reducible first | exact HB.out | apply below_alloc | apply pw_below_drewN | apply below_drew1) | exact HB.out))) hk_.2.1)), (Kd.fresh' (Kd.N_lt (by (with_reducible repeat (first | apply Kd.N_alloc | apply Kd.N_drewN | apply Kd.N_drew)); exact HO_14.out)) k_ hk_.2.1), (Kd.fresh' (Kd.N_lt (by (with_reducible repeat (first | apply Kd.N_alloc | apply Kd.N_drewN | apply Kd.N_drew)); exact HO_15.out)) k_ hk_.2.1), (Kd.fresh' (Kd.N_lt (by (with_reducible repeat (first | apply Kd.N_alloc | apply Kd.N_drewN | apply Kd.N_drew)); exact HO_16.out)) k_ hk_.2.1)⟩)) (below_size (by repeat (first | (with_reducible first | exact HB.out | apply below_alloc | apply pw_below_drewN | apply below_drew1) | exact HB.out)))); have n5_ := Aside0.mk (below_step (by repeat (first | (with_reducible first | exact HB.out | apply below_alloc | apply pw_below_drewN | apply below_drew1) | exact HB.out)) hb); clear HO_0; clear HO_14; clear HO_15; clear HO_16; clear HB; have HO_0 := n0_; have HO_14 := n1_; have HO_15 := n2_; have HO_16 := n3_; have HO131 := n4_; have HB := n5_; clear n0_ n1_ n2_ n3_ n4_ n5_; (try clear hb); (try clear hb2); (try clear hk); (try clear hi); (try clear ho0); obtain ⟨Ao66, co66, eo66⟩ := Kd.N_slice HO_16.out; subst eo66) | ((with_reducible refine gate_callee (f := 55) rfl ?_); refine goesL_ (some 120) rfl rfl Try.func55 (by kernel_rfl) rfl #[.slice Ao66 x16_2.length co66, .int .i64 (x0_2.length : Int)] rfl (by (try simp only [List.map_toArray, List.map_cons, List.map_nil]); first | done | rfl | (simp only [List.length_drop, List.length_take]; rfl)) ?_; (with_reducible refine (rs_Decode.calls _ _ x16_2 (x0_2.length : Int) t132 t133 _ ?side1 ?side2 A59.out).mono ?_); (case side1 => repeat (first | exact (Kd.N_reads' HO_16.out).2.2 | (with_reducible refine Kd.C_alloc ?_ _) | (with_reducible refine Kd.C_drewN ?_ _) | (with_reducible refine Kd.C_drew ?_))); (case side2 => exact (Kd.N_reads' HO_16.out).2.1); rintro e w67 ⟨v134, rfl, ho0, hb⟩; refine ⟨_, rfl, ?_⟩; have n0_ := Aside0.mk (Kd.V_elder' (by (with_reducible repeat (first | apply Kd.V_alloc | apply Kd.V_drewN | apply Kd.V_drew)); exact HO_0.out) (by first | exact Kd.N_base ho0 | exact Kd.N_base (Kd.S_N ho0)) hb); have n1_ := Aside0.mk (Kd.N_elder' (by (with_reducible repeat (first | apply Kd.N_alloc | apply Kd.N_drewN | apply Kd.N_drew)); exact HO_14.out) (by first | exact Kd.N_base ho0 | exact Kd.N_base (Kd.S_N ho0)) hb); have n2_ := Aside0.mk (Kd.N_elder' (by (with_reducible repeat (first | apply Kd.N_alloc | apply Kd.N_drewN | apply Kd.N_drew)); exact HO_15.out) (by first | exact Kd.N_base ho0 | exact Kd.N_base (Kd.S_N ho0)) hb); have n3_ := Aside0.mk (Kd.N_elder' (by (with_reducible repeat (first | apply Kd.N_alloc | apply Kd.N_drewN | apply Kd.N_drew)); exact HO_16.out) (by first | exact Kd.N_base ho0 | exact Kd.N_base (Kd.S_N ho0)) hb); have n4_ := Aside0.mk (Kd.N_elder' (by (with_reducible repeat (first | apply Kd.N_alloc | apply Kd.N_drewN | apply Kd.N_drew)); exact HO131.out) (by first | exact Kd.N_base ho0 | exact Kd.N_base (Kd.S_N ho0)) hb); have n5_ := Aside0.mk (Kd.N_lower (Kd.N_mono (ok' := fun k_ => (P0_ k_ ∨ w.heap.size ≤ k_) ∧ some k_ ≠ (.slice Ao63 x14_2.length co63 : Value).ownBlock ∧ some k_ ≠ (.slice Ao64 x15_2.length co64 : Value).ownBlock ∧ some k_ ≠ (.slice Ao66 x16_2.length co66 : Value).ownBlock ∧ some k_ ≠ (v130 : Value).ownBlock) (Kd.S_N (Kd.S_bound ho0)) (fun k_ hk_ => ⟨(.inr (Nat.le_trans (below_size (by repeat (first | (with_reducible first | exact HB.out | apply below_alloc | apply pw_below_drewN | apply below_drew1) | exact HB.out))) hk_.2.1)), (Kd.fresh' (Kd.N_lt (by (with_reducible repeat (first | apply Kd.N_alloc | apply Kd.N_drewN | apply Kd.N_drew)); exact HO_14.out)) k_ hk_.2.1), (Kd.fresh' (Kd.N_lt (by (with_reducible repeat (first | apply Kd.N_alloc | apply Kd.N_drewN | apply Kd.N_drew)); exact HO_15.out)) k_ hk_.2.1), (Kd.fresh' (Kd.N_lt (by (with_reducible repeat (first | apply Kd.N_alloc | apply Kd.N_drewN | apply Kd.N_drew)); exact HO_16.out)) k_ hk_.2.1), (Kd.fresh' (Kd.N_lt (by (with_reducible repeat (first | apply Kd.N_alloc | apply Kd.N_drewN | apply Kd.N_drew)); exact HO131.out)) k_ hk_.2.1)⟩)) (below_size (by repeat (first | (with_reducible first | exact HB.out | apply below_alloc | apply pw_below_drewN | apply below_drew1) | exact HB.out)))); have n6_ := Aside0.mk (below_step (by repeat (first | (with_reducible first | exact HB.out | apply below_alloc | apply pw_below_drewN | apply below_drew1) | exact HB.out)) hb); clear HO_0; clear HO_14; clear HO_15; clear HO_16; clear HO131; clear HB; have HO_0 := n0_; have HO_14 := n1_; have HO_15 := n2_; have HO_16 := n3_; have HO131 := n4_; have HO135 := n5_; have HB := n6_; clear n0_ n1_ n2_ n3_ n4_ n5_ n6_; (try clear hb); (try clear hb2); (try clear hk); (try clear hi); (try clear ho0); obtain ⟨Ao68, co68, eo68⟩ := Kd.N_slice HO131.out; subst eo68; obtain ⟨Ao69, co69, eo69⟩ := Kd.N_slice HO135.out; subst eo69) | ((with_reducible refine gate_callee (f := 41) rfl ?_); refine goesL_ (some 145) rfl rfl Try.func41 (by kernel_rfl) rfl #[.slice Ao68 t128.length co68, .slice Ao69 t132.length co69] rfl (by (try simp only [List.map_toArray, List.map_cons, List.map_nil]); first | done | rfl | (simp only [List.length_drop, List.length_take]; rfl)) ?_; (with_reducible refine (quartermasterref02_Same.calls k2 _ _ t128 _ _ t132 t136 _ ?side1 ?side2 ?side3 ?side4 A62.out).mono ?_); (case side1 => repeat (first | exact (Kd.N_reads' HO131.out).2.2 | (with_reducible refine Kd.C_alloc ?_ _) | (with_reducible refine Kd.C_drewN ?_ _) | (with_reducible refine Kd.C_drew ?_))); (case side2 => exact (Kd.N_reads' HO131.out).2.1); (case side3 => repeat (first | exact (Kd.N_reads' HO135.out).2.2 | (with_reducible refine Kd.C_alloc ?_ _) | (with_reducible refine Kd.C_drewN ?_ _) | (with_reducible refine Kd.C_drew ?_))); (case side4 => exact (Kd.N_reads' HO135.out).2.1); rintro e w' ⟨rfl, ⟨nd, rfl⟩⟩; refine ⟨_, rfl, ?_⟩))
                        go_ret
                        exact ⟨by first | rfl | (simp [errW_none, errW_some] <;> rfl) | (simp [*, errW_none, errW_some] <;> rfl), by repeat (first | (with_reducible first | exact HB.out | apply below_alloc | apply pw_below_drewN | apply below_drew1) | exact HB.out)⟩
                      · rw [if_neg c61] at H
                        have c61b0 : (t133 == 0) = false := beq_eq_false_iff_ne.mpr c61
                        have c61b1 : (t133 != 0) = true := bne_iff_ne.mpr c61
                        obtain rfl := Option.some.inj H
                        obtain ⟨Ao70, co70, eo70⟩ := Kd.N_slice HO_14.out
                        subst eo70
                        obtain ⟨Ao71, co71, eo71⟩ := Kd.N_slice HO_15.out
                        subst eo71
                        go_wp2_with (first | ((with_reducible refine gate_callee (f := 55) rfl ?_); refine goesL_ (some 113) rfl rfl Try.func55 (by kernel_rfl) rfl #[.slice Ao71 x15_2.length co71, .int .i64 (x0_2.length : Int)] rfl (by (try simp only [List.map_toArray, List.map_cons, List.map_nil]); first | done | rfl | (simp only [List.length_drop, List.length_take]; rfl)) ?_; (with_reducible refine (rs_Decode.calls _ _ x15_2 (x0_2.length : Int) t128 t129 _ ?side1 ?side2 A58.out).mono ?_); (case side1 => repeat (first | exact (Kd.N_reads' HO_15.out).2.2 | (with_reducible refine Kd.C_alloc ?_ _) | (with_reducible refine Kd.C_drewN ?_ _) | (with_reducible refine Kd.C_drew ?_))); (case side2 => exact (Kd.N_reads' HO_15.out).2.1); rintro e w72 ⟨v130, rfl, ho0, hb⟩; refine ⟨_, rfl, ?_⟩; have n0_ := Aside0.mk (Kd.V_elder' (by (with_reducible repeat (first | apply Kd.V_alloc | apply Kd.V_drewN | apply Kd.V_drew)); exact HO_0.out) (by first | exact Kd.N_base ho0 | exact Kd.N_base (Kd.S_N ho0)) hb); have n1_ := Aside0.mk (Kd.N_elder' (by (with_reducible repeat (first | apply Kd.N_alloc | apply Kd.N_drewN | apply Kd.N_drew)); exact HO_14.out) (by first | exact Kd.N_base ho0 | exact Kd.N_base (Kd.S_N ho0)) hb); have n2_ := Aside0.mk (Kd.N_elder' (by (with_reducible repeat (first | apply Kd.N_alloc | apply Kd.N_drewN | apply Kd.N_drew)); exact HO_15.out) (by first | exact Kd.N_base ho0 | exact Kd.N_base (Kd.S_N ho0)) hb); have n3_ := Aside0.mk (Kd.N_elder' (by (with_reducible repeat (first | apply Kd.N_alloc | apply Kd.N_drewN | apply Kd.N_drew)); exact HO_16.out) (by first | exact Kd.N_base ho0 | exact Kd.N_base (Kd.S_N ho0)) hb); have n4_ := Aside0.mk (Kd.N_lower (Kd.N_mono (ok' := fun k_ => (P0_ k_ ∨ w.heap.size ≤ k_) ∧ some k_ ≠ (.slice Ao70 x14_2.length co70 : Value).ownBlock ∧ some k_ ≠ (.slice Ao71 x15_2.length co71 : Value).ownBlock ∧ some k_ ≠ (u16 : Value).ownBlock) (Kd.S_N (Kd.S_bound ho0)) (fun k_ hk_ => ⟨(.inr (Nat.le_trans (below_size (by repeat (first | (with_reducible first | exact HB.out | apply below_alloc | apply pw_below_drewN | apply below_drew1) | exact HB.out))) hk_.2.1)), (Kd.fresh' (Kd.N_lt (by (with_reducible repeat (first | apply Kd.N_alloc | apply Kd.N_drewN | apply Kd.N_drew)); exact HO_14.out)) k_ hk_.2.1), (Kd.fresh' (Kd.N_lt (by (with_reducible repeat (first | apply Kd.N_alloc | apply Kd.N_drewN | apply Kd.N_drew)); exact HO_15.out)) k_ hk_.2.1), (Kd.fresh' (Kd.N_lt (by (with_reducible repeat (first | apply Kd.N_alloc | apply Kd.N_drewN | apply Kd.N_drew)); exact HO_16.out)) k_ hk_.2.1)⟩)) (below_size (by repeat (first | (with_reducible first | exact HB.out | apply below_alloc | apply pw_below_drewN | apply below_drew1) | exact HB.out)))); have n5_ := Aside0.mk (below_step (by repeat (first | (with_reducible first | exact HB.out | apply below_alloc | apply pw_below_drewN | apply below_drew1) | exact HB.out)) hb); clear HO_0; clear HO_14; clear HO_15; clear HO_16; clear HB; have HO_0 := n0_; have HO_14 := n1_; have HO_15 := n2_; have HO_16 := n3_; have HO131 := n4_; have HB := n5_; clear n0_ n1_ n2_ n3_ n4_ n5_; (try clear hb); (try clear hb2); (try clear hk); (try clear hi); (try clear ho0); obtain ⟨Ao73, co73, eo73⟩ := Kd.N_slice HO_16.out; subst eo73) | ((with_reducible refine gate_callee (f := 55) rfl ?_); refine goesL_ (some 120) rfl rfl Try.func55 (by kernel_rfl) rfl #[.slice Ao73 x16_2.length co73, .int .i64 (x0_2.length : Int)] rfl (by (try simp only [List.map_toArray, List.map_cons, List.map_nil]); first | done | rfl | (simp only [List.length_drop, List.length_take]; rfl)) ?_; (with_reducible refine (rs_Decode.calls _ _ x16_2 (x0_2.length : Int) t132 t133 _ ?side1 ?side2 A59.out).mono ?_); (case side1 => repeat (first | exact (Kd.N_reads' HO_16.out).2.2 | (with_reducible refine Kd.C_alloc ?_ _) | (with_reducible refine Kd.C_drewN ?_ _) | (with_reducible refine Kd.C_drew ?_))); (case side2 => exact (Kd.N_reads' HO_16.out).2.1); rintro e w74 ⟨v134, rfl, ho0, hb⟩; refine ⟨_, rfl, ?_⟩; have n0_ := Aside0.mk (Kd.V_elder' (by (with_reducible repeat (first | apply Kd.V_alloc | apply Kd.V_drewN | apply Kd.V_drew)); exact HO_0.out) (by first | exact Kd.N_base ho0 | exact Kd.N_base (Kd.S_N ho0)) hb); have n1_ := Aside0.mk (Kd.N_elder' (by (with_reducible repeat (first | apply Kd.N_alloc | apply Kd.N_drewN | apply Kd.N_drew)); exact HO_14.out) (by first | exact Kd.N_base ho0 | exact Kd.N_base (Kd.S_N ho0)) hb); have n2_ := Aside0.mk (Kd.N_elder' (by (with_reducible repeat (first | apply Kd.N_alloc | apply Kd.N_drewN | apply Kd.N_drew)); exact HO_15.out) (by first | exact Kd.N_base ho0 | exact Kd.N_base (Kd.S_N ho0)) hb); have n3_ := Aside0.mk (Kd.N_elder' (by (with_reducible repeat (first | apply Kd.N_alloc | apply Kd.N_drewN | apply Kd.N_drew)); exact HO_16.out) (by first | exact Kd.N_base ho0 | exact Kd.N_base (Kd.S_N ho0)) hb); have n4_ := Aside0.mk (Kd.N_elder' (by (with_reducible repeat (first | apply Kd.N_alloc | apply Kd.N_drewN | apply Kd.N_drew)); exact HO131.out) (by first | exact Kd.N_base ho0 | exact Kd.N_base (Kd.S_N ho0)) hb); have n5_ := Aside0.mk (Kd.N_lower (Kd.N_mono (ok' := fun k_ => (P0_ k_ ∨ w.heap.size ≤ k_) ∧ some k_ ≠ (.slice Ao70 x14_2.length co70 : Value).ownBlock ∧ some k_ ≠ (.slice Ao71 x15_2.length co71 : Value).ownBlock ∧ some k_ ≠ (.slice Ao73 x16_2.length co73 : Value).ownBlock ∧ some k_ ≠ (v130 : Value).ownBlock) (Kd.S_N (Kd.S_bound ho0)) (fun k_ hk_ => ⟨(.inr (Nat.le_trans (below_size (by repeat (first | (with_reducible first | exact HB.out | apply below_alloc | apply pw_below_drewN | apply below_drew1) | exact HB.out))) hk_.2.1)), (Kd.fresh' (Kd.N_lt (by (with_reducible repeat (first | apply Kd.N_alloc | apply Kd.N_drewN | apply Kd.N_drew)); exact HO_14.out)) k_ hk_.2.1), (Kd.fresh' (Kd.N_lt (by (with_reducible repeat (first | apply Kd.N_alloc | apply Kd.N_drewN | apply Kd.N_drew)); exact HO_15.out)) k_ hk_.2.1), (Kd.fresh' (Kd.N_lt (by (with_reducible repeat (first | apply Kd.N_alloc | apply Kd.N_drewN | apply Kd.N_drew)); exact HO_16.out)) k_ hk_.2.1), (Kd.fresh' (Kd.N_lt (by (with_reducible repeat (first | apply Kd.N_alloc | apply Kd.N_drewN | apply Kd.N_drew)); exact HO131.out)) k_ hk_.2.1)⟩)) (below_size (by repeat (first | (with_reducible first | exact HB.out | apply below_alloc | apply pw_below_drewN | apply below_drew1) | exact HB.out)))); have n6_ := Aside0.mk (below_step (by repeat (first | (with_reducible first | exact HB.out | apply below_alloc | apply pw_below_drewN | apply below_drew1) | exact HB.out)) hb); clear HO_0; clear HO_14; clear HO_15; clear HO_16; clear HO131; clear HB; have HO_0 := n0_; have HO_14 := n1_; have HO_15 := n2_; have HO_16 := n3_; have HO131 := n4_; have HO135 := n5_; have HB := n6_; clear n0_ n1_ n2_ n3_ n4_ n5_ n6_; (try clear hb); (try clear hb2); (try clear hk); (try clear hi); (try clear ho0)))
                        go_ret
                        exact ⟨by first | rfl | (simp [errW_none, errW_some] <;> rfl) | (simp [*, errW_none, errW_some] <;> rfl), by repeat (first | (with_reducible first | exact HB.out | apply below_alloc | apply pw_below_drewN | apply below_drew1) | exact HB.out)⟩
                    · rw [if_neg c60] at H
                      have c60b0 : (t129 == 0) = false := beq_eq_false_iff_ne.mpr c60
                      have c60b1 : (t129 != 0) = true := bne_iff_ne.mpr c60
                      by_cases c75 : t129 = 9
                      · rw [if_pos c75] at H
                        have c75b0 : (t129 == 9) = true := beq_iff_eq.mpr c75
                        have c75b1 : (t129 != 9) = false := bne_eq_false_iff_eq.mpr c75
                        clear c75
                        by_cases c76 : t133 = 0
                        · rw [if_pos c76] at H
                          have c76b0 : (t133 == 0) = true := beq_iff_eq.mpr c76
                          have c76b1 : (t133 != 0) = false := bne_eq_false_iff_eq.mpr c76
                          clear c76
                          obtain rfl := Option.some.inj H
                          obtain ⟨Ao77, co77, eo77⟩ := Kd.N_slice HO_14.out
                          subst eo77
                          obtain ⟨Ao78, co78, eo78⟩ := Kd.N_slice HO_15.out
                          subst eo78
                          go_wp2_with (first | ((with_reducible refine gate_callee (f := 55) rfl ?_); refine goesL_ (some 113) rfl rfl Try.func55 (by kernel_rfl) rfl #[.slice Ao78 x15_2.length co78, .int .i64 (x0_2.length : Int)] rfl (by (try simp only [List.map_toArray, List.map_cons, List.map_nil]); first | done | rfl | (simp only [List.length_drop, List.length_take]; rfl)) ?_; (with_reducible refine (rs_Decode.calls _ _ x15_2 (x0_2.length : Int) t128 t129 _ ?side1 ?side2 A58.out).mono ?_); (case side1 => repeat (first | exact (Kd.N_reads' HO_15.out).2.2 | (with_reducible refine Kd.C_alloc ?_ _) | (with_reducible refine Kd.C_drewN ?_ _) | (with_reducible refine Kd.C_drew ?_))); (case side2 => exact (Kd.N_reads' HO_15.out).2.1); rintro e w79 ⟨v130, rfl, ho0, hb⟩; refine ⟨_, rfl, ?_⟩; have n0_ := Aside0.mk (Kd.V_elder' (by (with_reducible repeat (first | apply Kd.V_alloc | apply Kd.V_drewN | apply Kd.V_drew)); exact HO_0.out) (by first | exact Kd.N_base ho0 | exact Kd.N_base (Kd.S_N ho0)) hb); have n1_ := Aside0.mk (Kd.N_elder' (by (with_reducible repeat (first | apply Kd.N_alloc | apply Kd.N_drewN | apply Kd.N_drew)); exact HO_14.out) (by first | exact Kd.N_base ho0 | exact Kd.N_base (Kd.S_N ho0)) hb); have n2_ := Aside0.mk (Kd.N_elder' (by (with_reducible repeat (first | apply Kd.N_alloc | apply Kd.N_drewN | apply Kd.N_drew)); exact HO_15.out) (by first | exact Kd.N_base ho0 | exact Kd.N_base (Kd.S_N ho0)) hb); have n3_ := Aside0.mk (Kd.N_elder' (by (with_reducible repeat (first | apply Kd.N_alloc | apply Kd.N_drewN | apply Kd.N_drew)); exact HO_16.out) (by first | exact Kd.N_base ho0 | exact Kd.N_base (Kd.S_N ho0)) hb); have n4_ := Aside0.mk (Kd.N_lower (Kd.N_mono (ok' := fun k_ => (P0_ k_ ∨ w.heap.size ≤ k_) ∧ some k_ ≠ (.slice Ao77 x14_2.length co77 : Value).ownBlock ∧ some k_ ≠ (.slice Ao78 x15_2.length co78 : Value).ownBlock ∧ some k_ ≠ (u16 : Value).ownBlock) (Kd.S_N (Kd.S_bound ho0)) (fun k_ hk_ => ⟨(.inr (Nat.le_trans (below_size (by repeat (first | (with_reducible first | exact HB.out | apply below_alloc | apply pw_below_drewN | apply below_drew1) | exact HB.out))) hk_.2.1)), (Kd.fresh' (Kd.N_lt (by (with_reducible repeat (first | apply Kd.N_alloc | apply Kd.N_drewN | apply Kd.N_drew)); exact HO_14.out)) k_ hk_.2.1), (Kd.fresh' (Kd.N_lt (by (with_reducible repeat (first | apply Kd.N_alloc | apply Kd.N_drewN | apply Kd.N_drew)); exact HO_15.out)) k_ hk_.2.1), (Kd.fresh' (Kd.N_lt (by (with_reducible repeat (first | apply Kd.N_alloc | apply Kd.N_drewN | apply Kd.N_drew)); exact HO_16.out)) k_ hk_.2.1)⟩)) (below_size (by repeat (first | (with_reducible first | exact HB.out | apply below_alloc | apply pw_below_drewN | apply below_drew1) | exact HB.out)))); have n5_ := Aside0.mk (below_step (by repeat (first | (with_reducible first | exact HB.out | apply below_alloc | apply pw_below_drewN | apply below_drew1) | exact HB.out)) hb); clear HO_0; clear HO_14; clear HO_15; clear HO_16; clear HB; have HO_0 := n0_; have HO_14 := n1_; have HO_15 := n2_; have HO_16 := n3_; have HO131 := n4_; have HB := n5_; clear n0_ n1_ n2_ n3_ n4_ n5_; (try clear hb); (try clear hb2); (try clear hk); (try clear hi); (try clear ho0); obtain ⟨Ao80, co80, eo80⟩ := Kd.N_slice HO_16.out; subst eo80) | ((with_reducible refine gate_callee (f := 55) rfl ?_); refine goesL_ (some 120) rfl rfl Try.func55 (by kernel_rfl) rfl #[.slice Ao80 x16_2.length co80, .int .i64 (x0_2.length : Int)] rfl (by (try simp only [List.map_toArray, List.map_cons, List.map_nil]); first | done | rfl | (simp only [List.length_drop, List.length_take]; rfl)) ?_; (with_reducible refine (rs_Decode.calls _ _ x16_2 (x0_2.length : Int) t132 t133 _ ?side1 ?side2 A59.out).mono ?_); (case side1 => repeat (first | exact (Kd.N_reads' HO_16.out).2.2 | (with_reducible refine Kd.C_alloc ?_ _) | (with_reducible refine Kd.C_drewN ?_ _) | (with_reducible refine Kd.C_drew ?_))); (case side2 => exact (Kd.N_reads' HO_16.out).2.1); rintro e w81 ⟨v134, rfl, ho0, hb⟩; refine ⟨_, rfl, ?_⟩; have n0_ := Aside0.mk (Kd.V_elder' (by (with_reducible repeat (first | apply Kd.V_alloc | apply Kd.V_drewN | apply Kd.V_drew)); exact HO_0.out) (by first | exact Kd.N_base ho0 | exact Kd.N_base (Kd.S_N ho0)) hb); have n1_ := Aside0.mk (Kd.N_elder' (by (with_reducible repeat (first | apply Kd.N_alloc | apply Kd.N_drewN | apply Kd.N_drew)); exact HO_14.out) (by first | exact Kd.N_base ho0 | exact Kd.N_base (Kd.S_N ho0)) hb); have n2_ := Aside0.mk (Kd.N_elder' (by (with_reducible repeat (first | apply Kd.N_alloc | apply Kd.N_drewN | apply Kd.N_drew)); exact HO_15.out) (by first | exact Kd.N_base ho0 | exact Kd.N_base (Kd.S_N ho0)) hb); have n3_ := Aside0.mk (Kd.N_elder' (by (with_reducible repeat (first | apply Kd.N_alloc | apply Kd.N_drewN | apply Kd.N_drew)); exact HO_16.out) (by first | exact Kd.N_base ho0 | exact Kd.N_base (Kd.S_N ho0)) hb); have n4_ := Aside0.mk (Kd.N_elder' (by (with_reducible repeat (first | apply Kd.N_alloc | apply Kd.N_drewN | apply Kd.N_drew)); exact HO131.out) (by first | exact Kd.N_base ho0 | exact Kd.N_base (Kd.S_N ho0)) hb); have n5_ := Aside0.mk (Kd.N_lower (Kd.N_mono (ok' := fun k_ => (P0_ k_ ∨ w.heap.size ≤ k_) ∧ some k_ ≠ (.slice Ao77 x14_2.length co77 : Value).ownBlock ∧ some k_ ≠ (.slice Ao78 x15_2.length co78 : Value).ownBlock ∧ some k_ ≠ (.slice Ao80 x16_2.length co80 : Value).ownBlock ∧ some k_ ≠ (v130 : Value).ownBlock) (Kd.S_N (Kd.S_bound ho0)) (fun k_ hk_ => ⟨(.inr (Nat.le_trans (below_size (by repeat (first | (with_reducible first | exact HB.out | apply below_alloc | apply pw_below_drewN | apply below_drew1) | exact HB.out))) hk_.2.1)), (Kd.fresh' (Kd.N_lt (by (with_reducible repeat (first | apply Kd.N_alloc | apply Kd.N_drewN | apply Kd.N_drew)); exact HO_14.out)) k_ hk_.2.1), (Kd.fresh' (Kd.N_lt (by (with_reducible repeat (first | apply Kd.N_alloc | apply Kd.N_drewN | apply Kd.N_drew)); exact HO_15.out)) k_ hk_.2.1), (Kd.fresh' (Kd.N_lt (by (with_reducible repeat (first | apply Kd.N_alloc | apply Kd.N_drewN | apply Kd.N_drew)); exact HO_16.out)) k_ hk_.2.1), (Kd.fresh' (Kd.N_lt (by (with_reducible repeat (first | apply Kd.N_alloc | apply Kd.N_drewN | apply Kd.N_drew)); exact HO131.out)) k_ hk_.2.1)⟩)) (below_size (by repeat (first | (with_reducible first | exact HB.out | apply below_alloc | apply pw_below_drewN | apply below_drew1) | exact HB.out)))); have n6_ := Aside0.mk (below_step (by repeat (first | (with_reducible first | exact HB.out | apply below_alloc | apply pw_below_drewN | apply below_drew1) | exact HB.out)) hb); clear HO_0; clear HO_14; clear HO_15; clear HO_16; clear HO131; clear HB; have HO_0 := n0_; have HO_14 := n1_; have HO_15 := n2_; have HO_16 := n3_; have HO131 := n4_; have HO135 := n5_; have HB := n6_; clear n0_ n1_ n2_ n3_ n4_ n5_ n6_; (try clear hb); (try clear hb2); (try clear hk); (try clear hi); (try clear ho0)))
                          go_ret
                          exact ⟨by first | rfl | (simp [errW_none, errW_some] <;> rfl) | (simp [*, errW_none, errW_some] <;> rfl), by repeat (first | (with_reducible first | exact HB.out | apply below_alloc | apply pw_below_drewN | apply below_drew1) | exact HB.out)⟩
                        · rw [if_neg c76] at H
                          have c76b0 : (t133 == 0) = false := beq_eq_false_iff_ne.mpr c76
                          have c76b1 : (t133 != 0) = true := bne_iff_ne.mpr c76
                          obtain rfl := Option.some.inj H
                          obtain ⟨Ao82, co82, eo82⟩ := Kd.N_slice HO_14.out
                          subst eo82
                          obtain ⟨Ao83, co83, eo83⟩ := Kd.N_slice HO_15.out
                          subst eo83
                          go_wp2_with (first | ((with_reducible refine gate_callee (f := 55) rfl ?_); refine goesL_ (some 113) rfl rfl Try.func55 (by kernel_rfl) rfl #[.slice Ao83 x15_2.length co83, .int .i64 (x0_2.length : Int)] rfl (by (try simp only [List.map_toArray, List.map_cons, List.map_nil]); first | done | rfl | (simp only [List.length_drop, List.length_take]; rfl)) ?_; (with_reducible refine (rs_Decode.calls _ _ x15_2 (x0_2.length : Int) t128 t129 _ ?side1 ?side2 A58.out).mono ?_); (case side1 => repeat (first | exact (Kd.N_reads' HO_15.out).2.2 | (with_reducible refine Kd.C_alloc ?_ _) | (with_reducible refine Kd.C_drewN ?_ _) | (with_reducible refine Kd.C_drew ?_))); (case side2 => exact (Kd.N_reads' HO_15.out).2.1); rintro e w84 ⟨v130, rfl, ho0, hb⟩; refine ⟨_, rfl, ?_⟩; have n0_ := Aside0.mk (Kd.V_elder' (by (with_reducible repeat (first | apply Kd.V_alloc | apply Kd.V_drewN | apply Kd.V_drew)); exact HO_0.out) (by first | exact Kd.N_base ho0 | exact Kd.N_base (Kd.S_N ho0)) hb); have n1_ := Aside0.mk (Kd.N_elder' (by (with_reducible repeat (first | apply Kd.N_alloc | apply Kd.N_drewN | apply Kd.N_drew)); exact HO_14.out) (by first | exact Kd.N_base ho0 | exact Kd.N_base (Kd.S_N ho0)) hb); have n2_ := Aside0.mk (Kd.N_elder' (by (with_reducible repeat (first | apply Kd.N_alloc | apply Kd.N_drewN | apply Kd.N_drew)); exact HO_15.out) (by first | exact Kd.N_base ho0 | exact Kd.N_base (Kd.S_N ho0)) hb); have n3_ := Aside0.mk (Kd.N_elder' (by (with_reducible repeat (first | apply Kd.N_alloc | apply Kd.N_drewN | apply Kd.N_drew)); exact HO_16.out) (by first | exact Kd.N_base ho0 | exact Kd.N_base (Kd.S_N ho0)) hb); have n4_ := Aside0.mk (Kd.N_lower (Kd.N_mono (ok' := fun k_ => (P0_ k_ ∨ w.heap.size ≤ k_) ∧ some k_ ≠ (.slice Ao82 x14_2.length co82 : Value).ownBlock ∧ some k_ ≠ (.slice Ao83 x15_2.length co83 : Value).ownBlock ∧ some k_ ≠ (u16 : Value).ownBlock) (Kd.S_N (Kd.S_bound ho0)) (fun k_ hk_ => ⟨(.inr (Nat.le_trans (below_size (by repeat (first | (with_reducible first | exact HB.out | apply below_alloc | apply pw_below_drewN | apply below_drew1) | exact HB.out))) hk_.2.1)), (Kd.fresh' (Kd.N_lt (by (with_reducible repeat (first | apply Kd.N_alloc | apply Kd.N_drewN | apply Kd.N_drew)); exact HO_14.out)) k_ hk_.2.1), (Kd.fresh' (Kd.N_lt (by (with_reducible repeat (first | apply Kd.N_alloc | apply Kd.N_drewN | apply Kd.N_drew)); exact HO_15.out)) k_ hk_.2.1), (Kd.fresh' (Kd.N_lt (by (with_reducible repeat (first | apply Kd.N_alloc | apply Kd.N_drewN | apply Kd.N_drew)); exact HO_16.out)) k_ hk_.2.1)⟩)) (below_size (by repeat (first | (with_reducible first | exact HB.out | apply below_alloc | apply pw_below_drewN | apply below_drew1) | exact HB.out)))); have n5_ := Aside0.mk (below_step (by repeat (first | (with_reducible first | exact HB.out | apply below_alloc | apply pw_below_drewN | apply below_drew1) | exact HB.out)) hb); clear HO_0; clear HO_14; clear HO_15; clear HO_16; clear HB; have HO_0 := n0_; have HO_14 := n1_; have HO_15 := n2_; have HO_16 := n3_; have HO131 := n4_; have HB := n5_; clear n0_ n1_ n2_ n3_ n4_ n5_; (try clear hb); (try clear hb2); (try clear hk); (try clear hi); (try clear ho0); obtain ⟨Ao85, co85, eo85⟩ := Kd.N_slice HO_16.out; subst eo85) | ((with_reducible refine gate_callee (f := 55) rfl ?_); refine goesL_ (some 120) rfl rfl Try.func55 (by kernel_rfl) rfl #[.slice Ao85 x16_2.length co85, .int .i64 (x0_2.length : Int)] rfl (by (try simp only [List.map_toArray, List.map_cons, List.map_nil]); first | done | rfl | (simp only [List.length_drop, List.length_take]; rfl)) ?_; (with_reducible refine (rs_Decode.calls _ _ x16_2 (x0_2.length : Int) t132 t133 _ ?side1 ?side2 A59.out).mono ?_); (case side1 => repeat (first | exact (Kd.N_reads' HO_16.out).2.2 | (with_reducible refine Kd.C_alloc ?_ _) | (with_reducible refine Kd.C_drewN ?_ _) | (with_reducible refine Kd.C_drew ?_))); (case side2 => exact (Kd.N_reads' HO_16.out).2.1); rintro e w86 ⟨v134, rfl, ho0, hb⟩; refine ⟨_, rfl, ?_⟩; have n0_ := Aside0.mk (Kd.V_elder' (by (with_reducible repeat (first | apply Kd.V_alloc | apply Kd.V_drewN | apply Kd.V_drew)); exact HO_0.out) (by first | exact Kd.N_base ho0 | exact Kd.N_base (Kd.S_N ho0)) hb); have n1_ := Aside0.mk (Kd.N_elder' (by (with_reducible repeat (first | apply Kd.N_alloc | apply Kd.N_drewN | apply Kd.N_drew)); exact HO_14.out) (by first | exact Kd.N_base ho0 | exact Kd.N_base (Kd.S_N ho0)) hb); have n2_ := Aside0.mk (Kd.N_elder' (by (with_reducible repeat (first | apply Kd.N_alloc | apply Kd.N_drewN | apply Kd.N_drew)); exact HO_15.out) (by first | exact Kd.N_base ho0 | exact Kd.N_base (Kd.S_N ho0)) hb); have n3_ := Aside0.mk (Kd.N_elder' (by (with_reducible repeat (first | apply Kd.N_alloc | apply Kd.N_drewN | apply Kd.N_drew)); exact HO_16.out) (by first | exact Kd.N_base ho0 | exact Kd.N_base (Kd.S_N ho0)) hb); have n4_ := Aside0.mk (Kd.N_elder' (by (with_reducible repeat (first | apply Kd.N_alloc | apply Kd.N_drewN | apply Kd.N_drew)); exact HO131.out) (by first | exact Kd.N_base ho0 | exact Kd.N_base (Kd.S_N ho0)) hb); have n5_ := Aside0.mk (Kd.N_lower (Kd.N_mono (ok' := fun k_ => (P0_ k_ ∨ w.heap.size ≤ k_) ∧ some k_ ≠ (.slice Ao82 x14_2.length co82 : Value).ownBlock ∧ some k_ ≠ (.slice Ao83 x15_2.length co83 : Value).ownBlock ∧ some k_ ≠ (.slice Ao85 x16_2.length co85 : Value).ownBlock ∧ some k_ ≠ (v130 : Value).ownBlock) (Kd.S_N (Kd.S_bound ho0)) (fun k_ hk_ => ⟨(.inr (Nat.le_trans (below_size (by repeat (first | (with_reducible first | exact HB.out | apply below_alloc | apply pw_below_drewN | apply below_drew1) | exact HB.out))) hk_.2.1)), (Kd.fresh' (Kd.N_lt (by (with_reducible repeat (first | apply Kd.N_alloc | apply Kd.N_drewN | apply Kd.N_drew)); exact HO_14.out)) k_ hk_.2.1), (Kd.fresh' (Kd.N_lt (by (with_reducible repeat (first | apply Kd.N_alloc | apply Kd.N_drewN | apply Kd.N_drew)); exact HO_15.out)) k_ hk_.2.1), (Kd.fresh' (Kd.N_lt (by (with_reducible repeat (first | apply Kd.N_alloc | apply Kd.N_drewN | apply Kd.N_drew)); exact HO_16.out)) k_ hk_.2.1), (Kd.fresh' (Kd.N_lt (by (with_reducible repeat (first | apply Kd.N_alloc | apply Kd.N_drewN | apply Kd.N_drew)); exact HO131.out)) k_ hk_.2.1)⟩)) (below_size (by repeat (first | (with_reducible first | exact HB.out | apply below_alloc | apply pw_below_drewN | apply below_drew1) | exact HB.out)))); have n6_ := Aside0.mk (below_step (by repeat (first | (with_reducible first | exact HB.out | apply below_alloc | apply pw_below_drewN | apply below_drew1) | exact HB.out)) hb); clear HO_0; clear HO_14; clear HO_15; clear HO_16; clear HO131; clear HB; have HO_0 := n0_; have HO_14 := n1_; have HO_15 := n2_; have HO_16 := n3_; have HO131 := n4_; have HO135 := n5_; have HB := n6_; clear n0_ n1_ n2_ n3_ n4_ n5_ n6_; (try clear hb); (try clear hb2); (try clear hk); (try clear hi); (try clear ho0)))
                          go_ret
                          exact ⟨by first | rfl | (simp [errW_none, errW_some] <;> rfl) | (simp [*, errW_none, errW_some] <;> rfl), by repeat (first | (with_reducible first | exact HB.out | apply below_alloc | apply pw_below_drewN | apply below_drew1) | exact HB.out)⟩
                      · rw [if_neg c75] at H
                        exact absurd H (by simp)
            · rw [if_neg c19] at H
              exact absurd H (by simp)
          · rw [if_neg c18] at H
            exact absurd H (by simp)
        · rw [if_neg c17] at H
          exact absurd H (by simp)
end Go.Proofs.Ythblmkailhdhlaa.XA
