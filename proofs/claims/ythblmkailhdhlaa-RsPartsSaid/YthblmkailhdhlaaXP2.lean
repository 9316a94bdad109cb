-- PRINTED by print.py (a twelfth state) out of the translation. Not trusted: Lean checks it.
import Derived.Test.YthblmkailhdhlaaXP0
namespace Go.Proofs.Ythblmkailhdhlaa.XP
open Go.Proofs.Ythblmkailhdhlaa.G Go.Proofs.Ythblmkailhdhlaa.P Go.Proofs.Ythblmkailhdhlaa.Given Go.Proofs.Ythblmkailhdhlaa.T Go.RowKit Go.Proofs.YthblmkailhdhlaaW.PrintWords Go.Proofs.YthblmkailhdhlaaW.PrintLast Go.Proofs.YthblmkailhdhlaaW.PrintMore
attribute [local go_sem] max2_int min2_int max_two min_two max_three min_three max_four min_four   -- for this text's walks alone
set_option linter.unusedVariables false
set_option linter.unusedSimpArgs false

/-! ### quartermasterlaw03_RsParts: function 19 -/
mutual
def quartermasterlaw03_RsParts.j0 : Nat → List (List Int) → Int → Int → Bool → Bool → Option (Bool)
  | 0, _, _, _, _, _ => none
  | k + 1, x0, x1, x2, x7, x51 => if x51 = true then (some x7) else (quartermasterlaw03_RsParts.l0 k x0 x1 x2 ([] : List (List Int)) 0)
def quartermasterlaw03_RsParts.l0 : Nat → List (List Int) → Int → Int → List (List Int) → Int → Option (Bool)
  | 0, _, _, _, _, _ => none
  | k + 1, x0, x1, x2, x10, x11 => if x11 < (x0.length : Int) then (if 0 ≤ x11 then (if 0 ≤ x2 then (if x2 ≤ ((rd_L1 x0 x11).length : Int) then (if x10.length < 5864062014805 then (quartermasterlaw03_RsParts.l0 k x0 x1 x2 (x10 ++ [((rd_L1 x0 x11).take (x2 : Int).toNat)]) (wrap64 (x11 + 1))) else (none)) else (none)) else (none)) else (none)) else ((rs_Encode.f k x0 x1).bind fun bt114 => ((rs_Encode.f k x10 x1).bind fun bt118 => (if bt114.2 = 0 then (if bt118.2 = 0 then (if (bt114.1.length : Int) = x1 then (quartermasterlaw03_RsParts.j2 k x0 x1 x2 bt114.1 bt118.1 ((bt118.1.length : Int) != x1)) else (quartermasterlaw03_RsParts.j2 k x0 x1 x2 bt114.1 bt118.1 true)) else (quartermasterlaw03_RsParts.j2 k x0 x1 x2 bt114.1 bt118.1 true)) else (quartermasterlaw03_RsParts.j2 k x0 x1 x2 bt114.1 bt118.1 true))))
def quartermasterlaw03_RsParts.j2 : Nat → List (List Int) → Int → Int → List (List Int) → List (List Int) → Bool → Option (Bool)
  | 0, _, _, _, _, _, _ => none
  | k + 1, x0, x1, x2, x12, x14, x97 => if x97 = true then (none) else (quartermasterlaw03_RsParts.l1 k x0 x1 x2 x12 x14 0)
def quartermasterlaw03_RsParts.l1 : Nat → List (List Int) → Int → Int → List (List Int) → List (List Int) → Int → Option (Bool)
  | 0, _, _, _, _, _, _ => none
  | k + 1, x0, x1, x2, x12, x14, x16 => if x16 < x1 then (if 0 ≤ x16 then (if x16 < (x12.length : Int) then (if 0 < (x0.length : Int) then (if ((rd_L1 x12 x16).length : Int) = ((rd_L1 x0 0).length : Int) then (if 0 ≤ x2 then (if x2 ≤ ((rd_L1 x12 x16).length : Int) then (if x16 < (x14.length : Int) then (if (strOfNums ((rd_L1 x12 x16).take (x2 : Int).toNat)).toList = (strOfNums (rd_L1 x14 x16)).toList then (quartermasterlaw03_RsParts.l1 k x0 x1 x2 x12 x14 (wrap64 (x16 + 1))) else (none)) else (none)) else (none)) else (none)) else (none)) else (none)) else (none)) else (none)) else (some true)
end
def quartermasterlaw03_RsParts.f (k : Nat) (l0 : List (List Int)) (a1 : Int) (a2 : Int) : Option (Bool) := (quartermasterlaw03_awake.f).bind fun t101 => ((quartermasterlaw03_light.f k l0).bind fun t102 => ((quartermasterref02_May.f k l0).bind fun t103 => (if t101 = true then (if t102 = true then (if t103 = true then (if a1 < 0 then (quartermasterlaw03_RsParts.j0 k l0 a1 a2 t101 true) else (if a1 > 10 then (quartermasterlaw03_RsParts.j0 k l0 a1 a2 t101 true) else (if a2 < 1 then (quartermasterlaw03_RsParts.j0 k l0 a1 a2 t101 true) else (if 0 < (l0.length : Int) then (quartermasterlaw03_RsParts.j0 k l0 a1 a2 t101 (decide (a2 ≥ ((rd_L1 l0 0).length : Int)))) else (none))))) else (quartermasterlaw03_RsParts.j0 k l0 a1 a2 t101 true)) else (quartermasterlaw03_RsParts.j0 k l0 a1 a2 t101 true)) else (quartermasterlaw03_RsParts.j0 k l0 a1 a2 t101 true))))
theorem quartermasterlaw03_RsParts.mono_l : ∀ k, (∀ y0 y1 y2 y3 y4, LeO (quartermasterlaw03_RsParts.j0 k y0 y1 y2 y3 y4) (quartermasterlaw03_RsParts.j0 (k + 1) y0 y1 y2 y3 y4)) ∧ (∀ y0 y1 y2 y3 y4, LeO (quartermasterlaw03_RsParts.l0 k y0 y1 y2 y3 y4) (quartermasterlaw03_RsParts.l0 (k + 1) y0 y1 y2 y3 y4)) ∧ (∀ y0 y1 y2 y3 y4 y5, LeO (quartermasterlaw03_RsParts.j2 k y0 y1 y2 y3 y4 y5) (quartermasterlaw03_RsParts.j2 (k + 1) y0 y1 y2 y3 y4 y5)) ∧ (∀ y0 y1 y2 y3 y4 y5, LeO (quartermasterlaw03_RsParts.l1 k y0 y1 y2 y3 y4 y5) (quartermasterlaw03_RsParts.l1 (k + 1) y0 y1 y2 y3 y4 y5))
  | 0 => ⟨fun _ _ _ _ _ r h => by simp [quartermasterlaw03_RsParts.j0] at h, fun _ _ _ _ _ r h => by simp [quartermasterlaw03_RsParts.l0] at h, fun _ _ _ _ _ _ r h => by simp [quartermasterlaw03_RsParts.j2] at h, fun _ _ _ _ _ _ r h => by simp [quartermasterlaw03_RsParts.l1] at h⟩
  | k + 1 => by
    obtain ⟨ih0, ih1, ih2, ih3⟩ := quartermasterlaw03_RsParts.mono_l k
    refine ⟨?_, ?_, ?_, ?_⟩
    · intro y0 y1 y2 y3 y4
      unfold quartermasterlaw03_RsParts.j0
      repeat' first
      | (with_reducible exact ih0 _ _ _ _ _)
      | (with_reducible exact ih1 _ _ _ _ _)
      | (with_reducible exact ih2 _ _ _ _ _ _)
      | (with_reducible exact ih3 _ _ _ _ _ _)
      | (with_reducible exact quartermasterlaw03_light.mono _ _)
      | (with_reducible exact quartermasterref02_May.mono _ _)
      | (with_reducible exact rs_Encode.mono _ _ _)
      | (with_reducible exact LeO.refl _)
      | (with_reducible exact LeO.none _)
      | (with_reducible refine LeO.ite ?_ ?_)
      | (with_reducible refine LeO.bind ?_ (fun _ => ?_))
      | exact ih0 _ _ _ _ _
      | exact ih1 _ _ _ _ _
      | exact ih2 _ _ _ _ _ _
      | exact ih3 _ _ _ _ _ _
      | exact quartermasterlaw03_light.mono _ _
      | exact quartermasterref02_May.mono _ _
      | exact rs_Encode.mono _ _ _
      | exact LeO.none _
      | refine LeO.ite ?_ ?_
      | refine LeO.bind ?_ (fun _ => ?_)
    · intro y0 y1 y2 y3 y4
      unfold quartermasterlaw03_RsParts.l0
      repeat' first
      | (with_reducible exact ih0 _ _ _ _ _)
      | (with_reducible exact ih1 _ _ _ _ _)
      | (with_reducible exact ih2 _ _ _ _ _ _)
      | (with_reducible exact ih3 _ _ _ _ _ _)
      | (with_reducible exact quartermasterlaw03_light.mono _ _)
      | (with_reducible exact quartermasterref02_May.mono _ _)
      | (with_reducible exact rs_Encode.mono _ _ _)
      | (with_reducible exact LeO.refl _)
      | (with_reducible exact LeO.none _)
      | (with_reducible refine LeO.ite ?_ ?_)
      | (with_reducible refine LeO.bind ?_ (fun _ => ?_))
      | exact ih0 _ _ _ _ _
      | exact ih1 _ _ _ _ _
      | exact ih2 _ _ _ _ _ _
      | exact ih3 _ _ _ _ _ _
      | exact quartermasterlaw03_light.mono _ _
      | exact quartermasterref02_May.mono _ _
      | exact rs_Encode.mono _ _ _
      | exact LeO.none _
      | refine LeO.ite ?_ ?_
      | refine LeO.bind ?_ (fun _ => ?_)
    · intro y0 y1 y2 y3 y4 y5
      unfold quartermasterlaw03_RsParts.j2
      repeat' first
      | (with_reducible exact ih0 _ _ _ _ _)
      | (with_reducible exact ih1 _ _ _ _ _)
      | (with_reducible exact ih2 _ _ _ _ _ _)
      | (with_reducible exact ih3 _ _ _ _ _ _)
      | (with_reducible exact quartermasterlaw03_light.mono _ _)
      | (with_reducible exact quartermasterref02_May.mono _ _)
      | (with_reducible exact rs_Encode.mono _ _ _)
      | (with_reducible exact LeO.refl _)
      | (with_reducible exact LeO.none _)
      | (with_reducible refine LeO.ite ?_ ?_)
      | (with_reducible refine LeO.bind ?_ (fun _ => ?_))
      | exact ih0 _ _ _ _ _
      | exact ih1 _ _ _ _ _
      | exact ih2 _ _ _ _ _ _
      | exact ih3 _ _ _ _ _ _
      | exact quartermasterlaw03_light.mono _ _
      | exact quartermasterref02_May.mono _ _
      | exact rs_Encode.mono _ _ _
      | exact LeO.none _
      | refine LeO.ite ?_ ?_
      | refine LeO.bind ?_ (fun _ => ?_)
    · intro y0 y1 y2 y3 y4 y5
      unfold quartermasterlaw03_RsParts.l1
      repeat' first
      | (with_reducible exact ih0 _ _ _ _ _)
      | (with_reducible exact ih1 _ _ _ _ _)
      | (with_reducible exact ih2 _ _ _ _ _ _)
      | (with_reducible exact ih3 _ _ _ _ _ _)
      | (with_reducible exact quartermasterlaw03_light.mono _ _)
      | (with_reducible exact quartermasterref02_May.mono _ _)
      | (with_reducible exact rs_Encode.mono _ _ _)
      | (with_reducible exact LeO.refl _)
      | (with_reducible exact LeO.none _)
      | (with_reducible refine LeO.ite ?_ ?_)
      | (with_reducible refine LeO.bind ?_ (fun _ => ?_))
      | exact ih0 _ _ _ _ _
      | exact ih1 _ _ _ _ _
      | exact ih2 _ _ _ _ _ _
      | exact ih3 _ _ _ _ _ _
      | exact quartermasterlaw03_light.mono _ _
      | exact quartermasterref02_May.mono _ _
      | exact rs_Encode.mono _ _ _
      | exact LeO.none _
      | refine LeO.ite ?_ ?_
      | refine LeO.bind ?_ (fun _ => ?_)
theorem quartermasterlaw03_RsParts.mono : ∀ a0 a1 a2 k, LeO (quartermasterlaw03_RsParts.f k a0 a1 a2) (quartermasterlaw03_RsParts.f (k + 1) a0 a1 a2) := by
  intro a0 a1 a2 k
  obtain ⟨ih0, ih1, ih2, ih3⟩ := quartermasterlaw03_RsParts.mono_l k
  unfold quartermasterlaw03_RsParts.f
  repeat' first
      | (with_reducible exact ih0 _ _ _ _ _)
      | (with_reducible exact ih1 _ _ _ _ _)
      | (with_reducible exact ih2 _ _ _ _ _ _)
      | (with_reducible exact ih3 _ _ _ _ _ _)
      | (with_reducible exact quartermasterlaw03_light.mono _ _)
      | (with_reducible exact quartermasterref02_May.mono _ _)
      | (with_reducible exact rs_Encode.mono _ _ _)
      | (with_reducible exact LeO.refl _)
      | (with_reducible exact LeO.none _)
      | (with_reducible refine LeO.ite ?_ ?_)
      | (with_reducible refine LeO.bind ?_ (fun _ => ?_))
      | exact ih0 _ _ _ _ _
      | exact ih1 _ _ _ _ _
      | exact ih2 _ _ _ _ _ _
      | exact ih3 _ _ _ _ _ _
      | exact quartermasterlaw03_light.mono _ _
      | exact quartermasterref02_May.mono _ _
      | exact rs_Encode.mono _ _ _
      | exact LeO.none _
      | refine LeO.ite ?_ ?_
      | refine LeO.bind ?_ (fun _ => ?_)
set_option maxHeartbeats 8000000 in
set_option maxRecDepth 100000 in
theorem quartermasterlaw03_RsParts.calls (k : Nat) (P0_ : Nat → Prop) (A0 : Option Addr) (c0 : Nat) (l0 : List (List Int)) (a1 : Int) (a2 : Int) (r : Bool) (w : World) (hs0 : Kd.V (Kd.slice 5 (Kd.int .u8)) 43 w w.heap.size (fun k_ => P0_ k_) (.slice A0 l0.length c0) l0) (h : quartermasterlaw03_RsParts.f k l0 a1 a2 = some r) :
    Calls Try.prog 19 #[.slice A0 l0.length c0, .int .i64 a1, .int .i64 a2] w fun e w' => e = .returned (.bool r) ∧ Below w.heap.size w w' := by
  have HO0 := Aside0.mk (show Kd.V (Kd.slice 5 (Kd.int .u8)) 43 w w.heap.size (fun k_ => (P0_ k_ ∨ w.heap.size ≤ k_)) (.slice A0 l0.length c0) l0 from Kd.V_mono hs0 (fun k_ hk => .inl hk))
  have HB := Aside0.mk (Below.refl w.heap.size w)
  have H : ((quartermasterlaw03_awake.f).bind fun t101 => ((quartermasterlaw03_light.f k l0).bind fun t102 => ((quartermasterref02_May.f k l0).bind fun t103 => (if t101 = true then (if t102 = true then (if t103 = true then (if a1 < 0 then (quartermasterlaw03_RsParts.j0 k l0 a1 a2 t101 true) else (if a1 > 10 then (quartermasterlaw03_RsParts.j0 k l0 a1 a2 t101 true) else (if a2 < 1 then (quartermasterlaw03_RsParts.j0 k l0 a1 a2 t101 true) else (if 0 < (l0.length : Int) then (quartermasterlaw03_RsParts.j0 k l0 a1 a2 t101 (decide (a2 ≥ ((rd_L1 l0 0).length : Int)))) else (none))))) else (quartermasterlaw03_RsParts.j0 k l0 a1 a2 t101 true)) else (quartermasterlaw03_RsParts.j0 k l0 a1 a2 t101 true)) else (quartermasterlaw03_RsParts.j0 k l0 a1 a2 t101 true))))) = some r := h
  clear h
  replace H := Option.bind_eq_some_iff.mp H
  obtain ⟨t101, A40, H⟩ := H
  replace H : ((quartermasterlaw03_light.f k l0).bind fun t102 => ((quartermasterref02_May.f k l0).bind fun t103 => (if t101 = true then (if t102 = true then (if t103 = true then (if a1 < 0 then (quartermasterlaw03_RsParts.j0 k l0 a1 a2 t101 true) else (if a1 > 10 then (quartermasterlaw03_RsParts.j0 k l0 a1 a2 t101 true) else (if a2 < 1 then (quartermasterlaw03_RsParts.j0 k l0 a1 a2 t101 true) else (if 0 < (l0.length : Int) then (quartermasterlaw03_RsParts.j0 k l0 a1 a2 t101 (decide (a2 ≥ ((rd_L1 l0 0).length : Int)))) else (none))))) else (quartermasterlaw03_RsParts.j0 k l0 a1 a2 t101 true)) else (quartermasterlaw03_RsParts.j0 k l0 a1 a2 t101 true)) else (quartermasterlaw03_RsParts.j0 k l0 a1 a2 t101 true)))) = some r := H
  have A4 := Aside0.mk A40
  clear A40
  replace H := Option.bind_eq_some_iff.mp H
  obtain ⟨t102, A50, H⟩ := H
  replace H : ((quartermasterref02_May.f k l0).bind fun t103 => (if t101 = true then (if t102 = true then (if t103 = true then (if a1 < 0 then (quartermasterlaw03_RsParts.j0 k l0 a1 a2 t101 true) else (if a1 > 10 then (quartermasterlaw03_RsParts.j0 k l0 a1 a2 t101 true) else (if a2 < 1 then (quartermasterlaw03_RsParts.j0 k l0 a1 a2 t101 true) else (if 0 < (l0.length : Int) then (quartermasterlaw03_RsParts.j0 k l0 a1 a2 t101 (decide (a2 ≥ ((rd_L1 l0 0).length : Int)))) else (none))))) else (quartermasterlaw03_RsParts.j0 k l0 a1 a2 t101 true)) else (quartermasterlaw03_RsParts.j0 k l0 a1 a2 t101 true)) else (quartermasterlaw03_RsParts.j0 k l0 a1 a2 t101 true))) = some r := H
  have A5 := Aside0.mk A50
  clear A50
  replace H := Option.bind_eq_some_iff.mp H
  obtain ⟨t103, A60, H⟩ := H
  replace H : (if t101 = true then (if t102 = true then (if t103 = true then (if a1 < 0 then (quartermasterlaw03_RsParts.j0 k l0 a1 a2 t101 true) else (if a1 > 10 then (quartermasterlaw03_RsParts.j0 k l0 a1 a2 t101 true) else (if a2 < 1 then (quartermasterlaw03_RsParts.j0 k l0 a1 a2 t101 true) else (if 0 < (l0.length : Int) then (quartermasterlaw03_RsParts.j0 k l0 a1 a2 t101 (decide (a2 ≥ ((rd_L1 l0 0).length : Int)))) else (none))))) else (quartermasterlaw03_RsParts.j0 k l0 a1 a2 t101 true)) else (quartermasterlaw03_RsParts.j0 k l0 a1 a2 t101 true)) else (quartermasterlaw03_RsParts.j0 k l0 a1 a2 t101 true)) = some r := H
  have A6 := Aside0.mk A60
  clear A60
  have HC7 := Aside0.mk H
  clear H
  go_enter Try.func19, Try.ntmps19
  go_upto_region 4 with (first | (go_at_call 49; (with_reducible refine (quartermasterlaw03_awake.calls  t101 _ A4.out).mono ?_); rintro e w8 ⟨rfl, hb⟩; have n0_ := Aside0.mk (Kd.V_below (by (with_reducible repeat (first | apply Kd.V_alloc | apply Kd.V_drewN | apply Kd.V_drew)); exact HO0.out) hb); have n1_ := Aside0.mk (below_step (by repeat (first | (with_reducible first | exact HB.out | apply below_alloc | apply pw_below_drewN | apply below_drew1) | exact HB.out)) hb); clear HO0; clear HB; have HO0 := n0_; have HB := n1_; clear n0_ n1_; (try clear hb); (try clear hb2); (try clear hk); (try clear hi)) | (go_at_call 50; (with_reducible refine (quartermasterlaw03_light.calls k _ _ l0 t102 _ ?side1 ?side2 A5.out).mono ?_); (case side1 => repeat (first | exact (Kd.V_reads' HO0.out).2.2 | (with_reducible refine Kd.C_alloc ?_ _) | (with_reducible refine Kd.C_drewN ?_ _) | (with_reducible refine Kd.C_drew ?_))); (case side2 => exact (Kd.V_reads' HO0.out).2.1); rintro e w' ⟨rfl, ⟨nd, rfl⟩⟩; (try first | exact ⟨rfl, _, World.drewN_drewN _ _ _⟩ | exact ⟨rfl, _, Eq.trans (World.drewN_drewN _ _ _) (congrArg (World.drewN _) (Nat.add_assoc _ _ _))⟩)) | (go_at_call 43; (with_reducible refine (quartermasterref02_May.calls k _ _ l0 t103 _ ?side1 ?side2 A6.out).mono ?_); (case side1 => repeat (first | exact (Kd.V_reads' HO0.out).2.2 | (with_reducible refine Kd.C_alloc ?_ _) | (with_reducible refine Kd.C_drewN ?_ _) | (with_reducible refine Kd.C_drew ?_))); (case side2 => exact (Kd.V_reads' HO0.out).2.1); rintro e w' ⟨rfl, ⟨nd, rfl⟩⟩; (try first | exact ⟨rfl, _, World.drewN_drewN _ _ _⟩ | exact ⟨rfl, _, Eq.trans (World.drewN_drewN _ _ _) (congrArg (World.drewN _) (Nat.add_assoc _ _ _))⟩)))
  repeat (go_quiet (first | (go_at_call 49; (with_reducible refine (quartermasterlaw03_awake.calls  t101 _ A4.out).mono ?_); rintro e w8 ⟨rfl, hb⟩; have n0_ := Aside0.mk (Kd.V_below (by (with_reducible repeat (first | apply Kd.V_alloc | apply Kd.V_drewN | apply Kd.V_drew)); exact HO0.out) hb); have n1_ := Aside0.mk (below_step (by repeat (first | (with_reducible first | exact HB.out | apply below_alloc | apply pw_below_drewN | apply below_drew1) | exact HB.out)) hb); clear HO0; clear HB; have HO0 := n0_; have HB := n1_; clear n0_ n1_; (try clear hb); (try clear hb2); (try clear hk); (try clear hi)) | (go_at_call 50; (with_reducible refine (quartermasterlaw03_light.calls k _ _ l0 t102 _ ?side1 ?side2 A5.out).mono ?_); (case side1 => repeat (first | exact (Kd.V_reads' HO0.out).2.2 | (with_reducible refine Kd.C_alloc ?_ _) | (with_reducible refine Kd.C_drewN ?_ _) | (with_reducible refine Kd.C_drew ?_))); (case side2 => exact (Kd.V_reads' HO0.out).2.1); rintro e w' ⟨rfl, ⟨nd, rfl⟩⟩; (try first | exact ⟨rfl, _, World.drewN_drewN _ _ _⟩ | exact ⟨rfl, _, Eq.trans (World.drewN_drewN _ _ _) (congrArg (World.drewN _) (Nat.add_assoc _ _ _))⟩)) | (go_at_call 43; (with_reducible refine (quartermasterref02_May.calls k _ _ l0 t103 _ ?side1 ?side2 A6.out).mono ?_); (case side1 => repeat (first | exact (Kd.V_reads' HO0.out).2.2 | (with_reducible refine Kd.C_alloc ?_ _) | (with_reducible refine Kd.C_drewN ?_ _) | (with_reducible refine Kd.C_drew ?_))); (case side2 => exact (Kd.V_reads' HO0.out).2.1); rintro e w' ⟨rfl, ⟨nd, rfl⟩⟩; (try first | exact ⟨rfl, _, World.drewN_drewN _ _ _⟩ | exact ⟨rfl, _, Eq.trans (World.drewN_drewN _ _ _) (congrArg (World.drewN _) (Nat.add_assoc _ _ _))⟩))); go_upto_region 4 with (first | (go_at_call 49; (with_reducible refine (quartermasterlaw03_awake.calls  t101 _ A4.out).mono ?_); rintro e w8 ⟨rfl, hb⟩; have n0_ := Aside0.mk (Kd.V_below (by (with_reducible repeat (first | apply Kd.V_alloc | apply Kd.V_drewN | apply Kd.V_drew)); exact HO0.out) hb); have n1_ := Aside0.mk (below_step (by repeat (first | (with_reducible first | exact HB.out | apply below_alloc | apply pw_below_drewN | apply below_drew1) | exact HB.out)) hb); clear HO0; clear HB; have HO0 := n0_; have HB := n1_; clear n0_ n1_; (try clear hb); (try clear hb2); (try clear hk); (try clear hi)) | (go_at_call 50; (with_reducible refine (quartermasterlaw03_light.calls k _ _ l0 t102 _ ?side1 ?side2 A5.out).mono ?_); (case side1 => repeat (first | exact (Kd.V_reads' HO0.out).2.2 | (with_reducible refine Kd.C_alloc ?_ _) | (with_reducible refine Kd.C_drewN ?_ _) | (with_reducible refine Kd.C_drew ?_))); (case side2 => exact (Kd.V_reads' HO0.out).2.1); rintro e w' ⟨rfl, ⟨nd, rfl⟩⟩; (try first | exact ⟨rfl, _, World.drewN_drewN _ _ _⟩ | exact ⟨rfl, _, Eq.trans (World.drewN_drewN _ _ _) (congrArg (World.drewN _) (Nat.add_assoc _ _ _))⟩)) | (go_at_call 43; (with_reducible refine (quartermasterref02_May.calls k _ _ l0 t103 _ ?side1 ?side2 A6.out).mono ?_); (case side1 => repeat (first | exact (Kd.V_reads' HO0.out).2.2 | (with_reducible refine Kd.C_alloc ?_ _) | (with_reducible refine Kd.C_drewN ?_ _) | (with_reducible refine Kd.C_drew ?_))); (case side2 => exact (Kd.V_reads' HO0.out).2.1); rintro e w' ⟨rfl, ⟨nd, rfl⟩⟩; (try first | exact ⟨rfl, _, World.drewN_drewN _ _ _⟩ | exact ⟨rfl, _, Eq.trans (World.drewN_drewN _ _ _) (congrArg (World.drewN _) (Nat.add_assoc _ _ _))⟩))))
  (try simp only [Act.put, List.setIfInBounds_toArray, List.set_cons_zero, List.set_cons_succ])
  go_cut [51] (fun v51 wc => ∃ (kq : Nat) (x51_6 : Bool), v51 = .bool x51_6 ∧ Aside0 (quartermasterlaw03_RsParts.j0 kq l0 a1 a2 t101 x51_6 = some r) ∧ Aside0 (kq ≤ k) ∧ Aside0 (Kd.V (Kd.slice 5 (Kd.int .u8)) 43 wc w.heap.size (fun k_ => (P0_ k_ ∨ w.heap.size ≤ k_)) (.slice A0 l0.length c0) l0) ∧ Aside0 (Below w.heap.size w wc))
  case first =>
    have H := HC7.out
    clear HC7
    by_cases c9 : t101 = true
    · subst c9
      have H1 : (if t102 = true then (if t103 = true then (if a1 < 0 then (quartermasterlaw03_RsParts.j0 k l0 a1 a2 true true) else (if a1 > 10 then (quartermasterlaw03_RsParts.j0 k l0 a1 a2 true true) else (if a2 < 1 then (quartermasterlaw03_RsParts.j0 k l0 a1 a2 true true) else (if 0 < (l0.length : Int) then (quartermasterlaw03_RsParts.j0 k l0 a1 a2 true (decide (a2 ≥ ((rd_L1 l0 0).length : Int)))) else (none))))) else (quartermasterlaw03_RsParts.j0 k l0 a1 a2 true true)) else (quartermasterlaw03_RsParts.j0 k l0 a1 a2 true true)) = some r := by rw [if_pos rfl] at H; exact H
      clear H
      have H := H1
      clear H1
      by_cases c10 : t102 = true
      · subst c10
        have H1 : (if t103 = true then (if a1 < 0 then (quartermasterlaw03_RsParts.j0 k l0 a1 a2 true true) else (if a1 > 10 then (quartermasterlaw03_RsParts.j0 k l0 a1 a2 true true) else (if a2 < 1 then (quartermasterlaw03_RsParts.j0 k l0 a1 a2 true true) else (if 0 < (l0.length : Int) then (quartermasterlaw03_RsParts.j0 k l0 a1 a2 true (decide (a2 ≥ ((rd_L1 l0 0).length : Int)))) else (none))))) else (quartermasterlaw03_RsParts.j0 k l0 a1 a2 true true)) = some r := by rw [if_pos rfl] at H; exact H
        clear H
        have H := H1
        clear H1
        by_cases c11 : t103 = true
        · subst c11
          have H1 : (if a1 < 0 then (quartermasterlaw03_RsParts.j0 k l0 a1 a2 true true) else (if a1 > 10 then (quartermasterlaw03_RsParts.j0 k l0 a1 a2 true true) else (if a2 < 1 then (quartermasterlaw03_RsParts.j0 k l0 a1 a2 true true) else (if 0 < (l0.length : Int) then (quartermasterlaw03_RsParts.j0 k l0 a1 a2 true (decide (a2 ≥ ((rd_L1 l0 0).length : Int)))) else (none))))) = some r := by rw [if_pos rfl] at H; exact H
          clear H
          have H := H1
          clear H1
          by_cases c12 : a1 < 0
          · rw [if_pos c12] at H
            have c12b0 : decide (a1 < 0) = true := decide_eq_true c12
            clear c12
            (first | rw [c12b0] | (simp only [i64_w, i32_w]; rw [c12b0]) | skip)
            have H' := Aside0.mk H
            clear H
            go_wp2
            repeat (go_quiet (fail); try go_wp2)
            go_meet
            case rel => exact ⟨_, (true), (by first | rfl | (simp; done) | (simp [*]; done)), H', ⟨by first | omega | exact Nat.le_refl _⟩, ⟨by (with_reducible repeat (first | apply Kd.V_alloc | apply Kd.V_drewN | apply Kd.V_drew)); exact HO0.out⟩, ⟨by repeat (first | (with_reducible first | exact HB.out | apply below_alloc | apply pw_below_drewN | apply below_drew1) | exact HB.out)⟩⟩
          · rw [if_neg c12] at H
            have c12b0 : decide (a1 < 0) = false := decide_eq_false c12
            clear c12
            (first | rw [c12b0] | (simp only [i64_w, i32_w]; rw [c12b0]) | skip)
            by_cases c13 : a1 > 10
            · rw [if_pos c13] at H
              have c13b0 : decide (10 < a1) = true := decide_eq_true c13
              clear c13
              have H' := Aside0.mk H
              clear H
              go_wp2
              repeat (go_quiet (fail); try go_wp2)
              go_meet
              case rel => exact ⟨_, (true), (by first | rfl | (simp; done) | (simp [*]; done)), H', ⟨by first | omega | exact Nat.le_refl _⟩, ⟨by (with_reducible repeat (first | apply Kd.V_alloc | apply Kd.V_drewN | apply Kd.V_drew)); exact HO0.out⟩, ⟨by repeat (first | (with_reducible first | exact HB.out | apply below_alloc | apply pw_below_drewN | apply below_drew1) | exact HB.out)⟩⟩
            · rw [if_neg c13] at H
              have c13b0 : decide (10 < a1) = false := decide_eq_false c13
              clear c13
              by_cases c14 : a2 < 1
              · rw [if_pos c14] at H
                have c14b0 : decide (a2 < 1) = true := decide_eq_true c14
                clear c14
                have H' := Aside0.mk H
                clear H
                go_wp2
                repeat (go_quiet (fail); try go_wp2)
                go_meet
                case rel => exact ⟨_, (true), (by first | rfl | (simp; done) | (simp [*]; done)), H', ⟨by first | omega | exact Nat.le_refl _⟩, ⟨by (with_reducible repeat (first | apply Kd.V_alloc | apply Kd.V_drewN | apply Kd.V_drew)); exact HO0.out⟩, ⟨by repeat (first | (with_reducible first | exact HB.out | apply below_alloc | apply pw_below_drewN | apply below_drew1) | exact HB.out)⟩⟩
              · rw [if_neg c14] at H
                have c14b0 : decide (a2 < 1) = false := decide_eq_false c14
                clear c14
                by_cases c15 : 0 < (l0.length : Int)
                · rw [if_pos c15] at H
                  have c15b0 : decide (0 < (l0.length : Int)) = true := decide_eq_true c15
                  have c15b1 : decide (0 < l0.length) = true := decide_eq_true (by omega)
                  clear c15
                  have H' := Aside0.mk H
                  clear H
                  have p104 : 0 ≤ (0 : Int) := (by omega)
                  have q104 : 0 < (l0.length : Int) := of_decide_eq_true (by first | (with_reducible assumption) | assumption)
                  obtain ⟨ad104, A104_0, c104_0, e104, hx104_0, hl104_0, hi104_0⟩ := at_L1 (Kd.V_reads' HO0.out).2.2 0 p104 q104
                  cases e104
                  obtain ⟨ce104, hce104, hMe104, hcc104⟩ := Kd.V_get HO0.out [] 0 p104 (by first | exact q104 | exact of_decide_eq_true (by first | (with_reducible assumption) | assumption) | (have e_ := (Kd.V_reads' HO0.out).1; omega))
                  obtain ⟨ua104_0, uc104_0, rfl, ul104_0, ge104_0⟩ := Kd.FK_slice_open hMe104
                  have hv104_0 := hcc104 0 _ rfl
                  rw [Nat.add_zero, show ((Kd.slice 5 (Kd.int .u8))).sz = 1 from rfl, Nat.mul_one] at hv104_0
                  replace hv104_0 := Option.some.inj (hv104_0.symm.trans hx104_0)
                  injection hv104_0 with hva_ hvn_ hvc_
                  rw [hva_] at ge104_0
                  rw [hvc_] at ul104_0
                  have HL104_0 := Aside0.mk (show Kd.V (Kd.int .u8) 5 _ w.heap.size _ _ (rd_L1 l0 0) from Kd.V_mk ul104_0 ge104_0)
                  clear hva_ hvn_ hvc_ ge104_0 ul104_0
                  clear hcc104 hce104
                  have qi104 : (0 < l0.length) = True := eq_true (by omega)
                  (try rw [show ((0 : Int)).toNat = 0 from rfl] at hx104_0)
                  (try rw [Addr.add_zero'] at hx104_0)
                  have HR104_0 := Aside0.mk hi104_0
                  have HC104_0 := Aside0.mk hl104_0
                  clear hi104_0 hl104_0
                  replace p104 := eq_true p104
                  replace q104 := eq_true q104
                  go_wp2
                  repeat (go_quiet (fail); try go_wp2)
                  go_meet
                  case rel => exact ⟨_, (decide (a2 ≥ ((rd_L1 l0 0).length : Int))), (by first | rfl | (simp; done) | (simp [*]; done)), H', ⟨by first | omega | exact Nat.le_refl _⟩, ⟨by (with_reducible repeat (first | apply Kd.V_alloc | apply Kd.V_drewN | apply Kd.V_drew)); exact HO0.out⟩, ⟨by repeat (first | (with_reducible first | exact HB.out | apply below_alloc | apply pw_below_drewN | apply below_drew1) | exact HB.out)⟩⟩
                · rw [if_neg c15] at H
                  exact absurd H (by simp)
        · replace c11 := Bool.eq_false_iff.mpr c11
          subst c11
          have H1 : (quartermasterlaw03_RsParts.j0 k l0 a1 a2 true true) = some r := by rw [if_neg (show ¬ (false = true) by decide)] at H; exact H
          clear H
          have H := H1
          clear H1
          have H' := Aside0.mk H
          clear H
          go_wp2
          repeat (go_quiet (fail); try go_wp2)
          go_meet
          case rel => exact ⟨_, (true), (by first | rfl | (simp; done) | (simp [*]; done)), H', ⟨by first | omega | exact Nat.le_refl _⟩, ⟨by (with_reducible repeat (first | apply Kd.V_alloc | apply Kd.V_drewN | apply Kd.V_drew)); exact HO0.out⟩, ⟨by repeat (first | (with_reducible first | exact HB.out | apply below_alloc | apply pw_below_drewN | apply below_drew1) | exact HB.out)⟩⟩
      · replace c10 := Bool.eq_false_iff.mpr c10
        subst c10
        have H1 : (quartermasterlaw03_RsParts.j0 k l0 a1 a2 true true) = some r := by rw [if_neg (show ¬ (false = true) by decide)] at H; exact H
        clear H
        have H := H1
        clear H1
        have H' := Aside0.mk H
        clear H
        go_wp2
        repeat (go_quiet (fail); try go_wp2)
        go_meet
        case rel => exact ⟨_, (true), (by first | rfl | (simp; done) | (simp [*]; done)), H', ⟨by first | omega | exact Nat.le_refl _⟩, ⟨by (with_reducible repeat (first | apply Kd.V_alloc | apply Kd.V_drewN | apply Kd.V_drew)); exact HO0.out⟩, ⟨by repeat (first | (with_reducible first | exact HB.out | apply below_alloc | apply pw_below_drewN | apply below_drew1) | exact HB.out)⟩⟩
    · replace c9 := Bool.eq_false_iff.mpr c9
      subst c9
      have H1 : (quartermasterlaw03_RsParts.j0 k l0 a1 a2 false true) = some r := by rw [if_neg (show ¬ (false = true) by decide)] at H; exact H
      clear H
      have H := H1
      clear H1
      have H' := Aside0.mk H
      clear H
      go_wp2
      repeat (go_quiet (fail); try go_wp2)
      go_meet
      case rel => exact ⟨_, (true), (by first | rfl | (simp; done) | (simp [*]; done)), H', ⟨by first | omega | exact Nat.le_refl _⟩, ⟨by (with_reducible repeat (first | apply Kd.V_alloc | apply Kd.V_drewN | apply Kd.V_drew)); exact HO0.out⟩, ⟨by repeat (first | (with_reducible first | exact HB.out | apply below_alloc | apply pw_below_drewN | apply below_drew1) | exact HB.out)⟩⟩
  case rest =>
    clear HC7
    try clear c1
    try clear p1
    try clear q1
    try clear hx1
    try clear qi1
    try clear p2
    try clear c9
    try clear c10
    try clear p10
    try clear q10
    try clear hx10
    try clear qi10
    try clear c11
    try clear c12
    try clear c12b0
    try clear c13
    try clear c13b0
    try clear c14
    try clear c14b0
    try clear c15
    try clear c15b0
    try clear c15b1
    try clear hx104_0
    try clear p104
    try clear q104
    obtain ⟨kq, x51_6, rfl, HA, HJ6, HO_0, HB⟩ := hcut
    cases kq with
    | zero => exact absurd HA.out (by simp [quartermasterlaw03_RsParts.j0])
    | succ kj6 =>
      have H := HA.out
      clear HA
      simp only [quartermasterlaw03_RsParts.j0] at H
      by_cases c16 : x51_6 = true
      · subst c16
        have H1 : (some t101) = some r := by rw [if_pos rfl] at H; exact H
        clear H
        have H := H1
        clear H1
        obtain rfl := Option.some.inj H
        go_wp2
        repeat (go_quiet (fail); try go_wp2)
        go_ret
        exact ⟨by first | rfl | (simp [errW_none, errW_some] <;> rfl) | (simp [*, errW_none, errW_some] <;> rfl), by repeat (first | (with_reducible first | exact HB.out | apply below_alloc | apply pw_below_drewN | apply below_drew1) | exact HB.out)⟩
      · replace c16 := Bool.eq_false_iff.mpr c16
        subst c16
        have H1 : (quartermasterlaw03_RsParts.l0 kj6 l0 a1 a2 ([] : List (List Int)) 0) = some r := by rw [if_neg (show ¬ (false = true) by decide)] at H; exact H
        clear H
        have H := H1
        clear H1
        have H' := Aside0.mk H
        clear H
        go_wp2
        repeat (go_quiet (fail); try go_wp2)
        go_loopg [10, 11] kj6 (fun kq v10 v11 w' => ∃ (x10_2 : List (List Int)) (x11_2 : Int), v11 = .int .i64 x11_2 ∧ Aside0 (quartermasterlaw03_RsParts.l0 kq l0 a1 a2 x10_2 x11_2 = some r) ∧ Aside0 (kq ≤ kj6) ∧ Aside0 (Kd.V (Kd.slice 5 (Kd.int .u8)) 43 w' w.heap.size (fun k_ => (P0_ k_ ∨ w.heap.size ≤ k_) ∧ some k_ ≠ (v10 : Value).ownBlock) (.slice A0 l0.length c0) l0) ∧ Aside0 (Kd.N (Kd.slice 5 (Kd.int .u8)) 43 w' w.heap.size (fun k_ => (P0_ k_ ∨ w.heap.size ≤ k_)) v10 x10_2) ∧ Aside0 (Below w.heap.size w w'))
        case atStart => exact ⟨(([] : List (List Int))), (0), (by first | rfl | (simp; done) | (simp [*]; done)), H', ⟨Nat.le_refl _⟩, ⟨by (with_reducible repeat (first | apply Kd.V_alloc | apply Kd.V_drewN | apply Kd.V_drew)); exact Kd.V_mono HO_0.out (fun _ hk => ⟨hk, (by simp [Value.ownBlock])⟩)⟩, ⟨by first | exact Kd.S_nil _ _ _ _ _ | exact Kd.N_nil _ _ _ _ _ | exact Kd.V_nil _ _ _ _ _ | exact Kd.Q_nil _ _ _ _ _ | exact Kd.R_nil _ _ _ _ _⟩, ⟨by repeat (first | (with_reducible first | exact HB.out | apply below_alloc | apply pw_below_drewN | apply below_drew1) | exact HB.out)⟩⟩
        case round =>
          clear H'
          try clear c1
          try clear p1
          try clear q1
          try clear hx1
          try clear qi1
          try clear p2
          try clear c9
          try clear c10
          try clear p10
          try clear q10
          try clear hx10
          try clear qi10
          try clear c11
          try clear c12
          try clear c12b0
          try clear c13
          try clear c13b0
          try clear c14
          try clear c14b0
          try clear c15
          try clear c15b0
          try clear c15b1
          try clear c16
          try clear hx104_0
          try clear p1
          try clear p10
          try clear p104
          try clear p2
          try clear q1
          try clear q10
          try clear q104
          obtain ⟨x10_2, x11_2, rfl, HA, HK2, HO_0, HO_10, HB⟩ := hrel
          cases gk with
          | zero => exact absurd HA.out (by simp [quartermasterlaw03_RsParts.l0])
          | succ k2 =>
            have H := HA.out
            clear HA
            simp only [quartermasterlaw03_RsParts.l0] at H
            by_cases c17 : x11_2 < (l0.length : Int)
            · rw [if_pos c17] at H
              have c17b0 : decide (x11_2 < (l0.length : Int)) = true := decide_eq_true c17
              clear c17
              by_cases c18 : 0 ≤ x11_2
              · rw [if_pos c18] at H
                have c18b0 : decide (0 ≤ x11_2) = true := decide_eq_true c18
                clear c18
                by_cases c19 : 0 ≤ a2
                · rw [if_pos c19] at H
                  have c19b0 := eq_true c19
                  have c19b1 : decide (0 ≤ a2) = true := decide_eq_true c19
                  clear c19
                  by_cases c20 : a2 ≤ ((rd_L1 l0 x11_2).length : Int)
                  · rw [if_pos c20] at H
                    have c20b0 := eq_true c20
                    have c20b1 : decide (a2 ≤ ((rd_L1 l0 x11_2).length : Int)) = true := decide_eq_true c20
                    clear c20
                    obtain ⟨y106, hy106⟩ : ∃ y_ : List Int, y_ = ((rd_L1 l0 x11_2).take (a2 : Int).toNat) := ⟨_, rfl⟩
                    replace H : (if x10_2.length < 5864062014805 then (quartermasterlaw03_RsParts.l0 k2 l0 a1 a2 (x10_2 ++ [y106]) (wrap64 (x11_2 + 1))) else (none)) = some r := by first | (rw [hy106]; with_reducible exact H) | (have H2_ := (Option.bind_some _ _).symm.trans H; rw [hy106]; with_reducible exact H2_) | (have H2_ := (Option.bind_some _ _).symm.trans H; with_reducible exact H2_) | with_reducible exact H | (rw [hy106]; exact H) | exact H
                    have Ny106 := Aside0.mk hy106
                    clear hy106
                    by_cases c21 : x10_2.length < 5864062014805
                    · rw [if_pos c21] at H
                      have LMc21 := Aside0.mk c21
                      clear c21
                      obtain ⟨y111, hy111⟩ : ∃ y_ : List (List Int), y_ = (x10_2 ++ [y106]) := ⟨_, rfl⟩
                      replace H : (quartermasterlaw03_RsParts.l0 k2 l0 a1 a2 y111 (wrap64 (x11_2 + 1))) = some r := by first | (rw [hy111]; with_reducible exact H) | (have H2_ := (Option.bind_some _ _).symm.trans H; rw [hy111]; with_reducible exact H2_) | (have H2_ := (Option.bind_some _ _).symm.trans H; with_reducible exact H2_) | with_reducible exact H | (rw [hy111]; exact H) | exact H
                      have Ny111 := Aside0.mk hy111
                      clear hy111
                      have H' := Aside0.mk H
                      clear H
                      have p105 : 0 ≤ (x11_2 : Int) := of_decide_eq_true (by first | (with_reducible assumption) | assumption)
                      have q105 : x11_2 < (l0.length : Int) := of_decide_eq_true (by first | (with_reducible assumption) | assumption)
                      obtain ⟨ad105, A105_0, c105_0, e105, hx105_0, hl105_0, hi105_0⟩ := at_L1 (Kd.V_reads' HO_0.out).2.2 x11_2 p105 q105
                      cases e105
                      obtain ⟨ce105, hce105, hMe105, hcc105⟩ := Kd.V_get HO_0.out [] x11_2 p105 (by first | exact q105 | exact of_decide_eq_true (by first | (with_reducible assumption) | assumption) | (have e_ := (Kd.V_reads' HO_0.out).1; omega))
                      obtain ⟨ua105_0, uc105_0, rfl, ul105_0, ge105_0⟩ := Kd.FK_slice_open hMe105
                      have hv105_0 := hcc105 0 _ rfl
                      rw [Nat.add_zero, show ((Kd.slice 5 (Kd.int .u8))).sz = 1 from rfl, Nat.mul_one] at hv105_0
                      replace hv105_0 := Option.some.inj (hv105_0.symm.trans hx105_0)
                      injection hv105_0 with hva_ hvn_ hvc_
                      rw [hva_] at ge105_0
                      rw [hvc_] at ul105_0
                      have HL105_0 := Aside0.mk (show Kd.V (Kd.int .u8) 5 _ w.heap.size _ _ (rd_L1 l0 x11_2) from Kd.V_mk ul105_0 ge105_0)
                      clear hva_ hvn_ hvc_ ge105_0 ul105_0
                      clear hcc105 hce105
                      have HR105_0 := Aside0.mk hi105_0
                      have HC105_0 := Aside0.mk hl105_0
                      clear hi105_0 hl105_0
                      replace p105 := eq_true p105
                      replace q105 := eq_true q105
                      have q22 : (a2 : Int) ≤ (((rd_L1 l0 x11_2).length : Int) : Int) := of_decide_eq_true (by first | (with_reducible assumption) | assumption)
                      obtain ⟨i022, hi022, _, hsz22, _⟩ := info_parts info5
                      have hroom22 : (rd_L1 l0 x11_2).length ≤ c105_0 := HC105_0.out
                      have hC22 : Kd.F (Kd.int .u8) _ _ A105_0 (rd_L1 l0 x11_2).length (rd_L1 l0 x11_2) := (Kd.V_at (base := w.heap.size) HL105_0.out).2.2
                      have hcut22 := cut_to (P := Try.prog) 43 5 .i64 Try.underlying43 hi022 A105_0 (rd_L1 l0 x11_2).length c105_0 a2 (of_decide_eq_true (by first | (with_reducible assumption) | assumption)) q22 hroom22
                      have hr22 := Kd.F_take (m := (a2 : Int).toNat) hC22 (by omega)
                      have hy22 : y106.length = (a2 : Int).toNat := (by rw [Ny106.out, List.length_take]; omega)
                      rw [← Ny106.out] at hr22
                      rw [← hy22] at hcut22
                      have HO110 := Aside0.mk (show Kd.V (Kd.int .u8) 5 _ w.heap.size _ (.slice A105_0 y106.length c105_0) y106 from Kd.V_mk (by omega) hr22)
                      have HC110 := Aside0.mk (show y106.length ≤ c105_0 from by omega)
                      clear hr22 hC22 hroom22 hi022 hsz22
                      have KY22 := Aside0.mk hy22
                      clear hy22
                      replace q22 := eq_true q22
                      go_wp2_with (first | ((with_reducible refine gate_builtin (b := .append) (xs := #[.tmp 59, .tmp 66]) rfl ?_); (try (refine gate_guard (by rfl) ?_; dsimp only)); at_builtin; refine Kd.N_append (Kd.slice 5 (Kd.int .u8)) (w0 := w) w.heap.size rfl (.tmp 59) (.tmp 66) 42 43 (.slice none 0 0) 24 rfl Try.underlying42 info43 rfl (by decide) (by omega) u10 x10_2 y106 [.slice A105_0 y106.length c105_0] (fun k_ => (P0_ k_ ∨ w.heap.size ≤ k_)) (fun k_ => ((fun k_ => (P0_ k_ ∨ w.heap.size ≤ k_))) k_ ∧ some k_ ≠ (u10 : Value).ownBlock) rfl rfl ?aP (fun _ hk => hk) ?aF ?aO ?aB ?aS ?aL ?_; (case aP => exact (Kd.FK_slice_mk (Kd.V_reads' (Kd.V_mono (ok' := (fun k_ => ((fun k_ => (P0_ k_ ∨ w.heap.size ≤ k_))) k_ ∧ some k_ ≠ (u10 : Value).ownBlock)) (HO110.out) (fun k_ hk => ⟨hk.1, hk.2⟩))).2.1 (Kd.V_F (Kd.V_mono (ok' := (fun k_ => ((fun k_ => (P0_ k_ ∨ w.heap.size ≤ k_))) k_ ∧ some k_ ≠ (u10 : Value).ownBlock)) (HO110.out) (fun k_ hk => ⟨hk.1, hk.2⟩))))); (case aB => exact (by repeat (first | (with_reducible first | exact HB.out | apply below_alloc | apply pw_below_drewN | apply below_drew1) | exact HB.out))); (case aF => exact (fun k_ hk => (.inr (Nat.le_trans (below_size (by repeat (first | (with_reducible first | exact HB.out | apply below_alloc | apply pw_below_drewN | apply below_drew1) | exact HB.out))) hk)))); (case aO => exact (by (with_reducible repeat (first | apply Kd.N_alloc | apply Kd.N_drewN | apply Kd.N_drew)); exact HO_10.out)); (case aS => exact (below_size (by repeat (first | (with_reducible first | exact HB.out | apply below_alloc | apply pw_below_drewN | apply below_drew1) | exact HB.out)))); (case aL => have := LMc21.out; omega); intro v112 w23 ho hb hg hat; rw [← Ny111.out] at ho; have n0_ := Aside0.mk (Kd.V_afterv (ok := (fun k_ => (P0_ k_ ∨ w.heap.size ≤ k_))) (by (with_reducible repeat (first | apply Kd.V_alloc | apply Kd.V_drewN | apply Kd.V_drew)); exact HO_0.out) hg hat); have n1_ := Aside0.mk (Kd.V_afterv (ok := (fun k_ => (P0_ k_ ∨ w.heap.size ≤ k_))) (by (with_reducible repeat (first | apply Kd.V_alloc | apply Kd.V_drewN | apply Kd.V_drew)); exact HL105_0.out) hg hat); have n2_ := Aside0.mk (Kd.V_afterv (ok := (fun k_ => (P0_ k_ ∨ w.heap.size ≤ k_))) (by (with_reducible repeat (first | apply Kd.V_alloc | apply Kd.V_drewN | apply Kd.V_drew)); exact HO110.out) hg hat); have n3_ := Aside0.mk (hb); have n4_ := Aside0.mk (ho); clear HO_0; clear HL105_0; clear HO110; clear HB; clear HO_10; have HO_0 := n0_; have HL105_0 := n1_; have HO110 := n2_; have HB := n3_; have HO113 := n4_; clear n0_ n1_ n2_ n3_ n4_; clear ho hb hg hat))
                      repeat (go_quiet (first | ((with_reducible refine gate_builtin (b := .append) (xs := #[.tmp 59, .tmp 66]) rfl ?_); (try (refine gate_guard (by rfl) ?_; dsimp only)); at_builtin; refine Kd.N_append (Kd.slice 5 (Kd.int .u8)) (w0 := w) w.heap.size rfl (.tmp 59) (.tmp 66) 42 43 (.slice none 0 0) 24 rfl Try.underlying42 info43 rfl (by decide) (by omega) u10 x10_2 y106 [.slice A105_0 y106.length c105_0] (fun k_ => (P0_ k_ ∨ w.heap.size ≤ k_)) (fun k_ => ((fun k_ => (P0_ k_ ∨ w.heap.size ≤ k_))) k_ ∧ some k_ ≠ (u10 : Value).ownBlock) rfl rfl ?aP (fun _ hk => hk) ?aF ?aO ?aB ?aS ?aL ?_; (case aP => exact (Kd.FK_slice_mk (Kd.V_reads' (Kd.V_mono (ok' := (fun k_ => ((fun k_ => (P0_ k_ ∨ w.heap.size ≤ k_))) k_ ∧ some k_ ≠ (u10 : Value).ownBlock)) (HO110.out) (fun k_ hk => ⟨hk.1, hk.2⟩))).2.1 (Kd.V_F (Kd.V_mono (ok' := (fun k_ => ((fun k_ => (P0_ k_ ∨ w.heap.size ≤ k_))) k_ ∧ some k_ ≠ (u10 : Value).ownBlock)) (HO110.out) (fun k_ hk => ⟨hk.1, hk.2⟩))))); (case aB => exact (by repeat (first | (with_reducible first | exact HB.out | apply below_alloc | apply pw_below_drewN | apply below_drew1) | exact HB.out))); (case aF => exact (fun k_ hk => (.inr (Nat.le_trans (below_size (by repeat (first | (with_reducible first | exact HB.out | apply below_alloc | apply pw_below_drewN | apply below_drew1) | exact HB.out))) hk)))); (case aO => exact (by (with_reducible repeat (first | apply Kd.N_alloc | apply Kd.N_drewN | apply Kd.N_drew)); exact HO_10.out)); (case aS => exact (below_size (by repeat (first | (with_reducible first | exact HB.out | apply below_alloc | apply pw_below_drewN | apply below_drew1) | exact HB.out)))); (case aL => have := LMc21.out; omega); intro v112 w23 ho hb hg hat; rw [← Ny111.out] at ho; have n0_ := Aside0.mk (Kd.V_afterv (ok := (fun k_ => (P0_ k_ ∨ w.heap.size ≤ k_))) (by (with_reducible repeat (first | apply Kd.V_alloc | apply Kd.V_drewN | apply Kd.V_drew)); exact HO_0.out) hg hat); have n1_ := Aside0.mk (Kd.V_afterv (ok := (fun k_ => (P0_ k_ ∨ w.heap.size ≤ k_))) (by (with_reducible repeat (first | apply Kd.V_alloc | apply Kd.V_drewN | apply Kd.V_drew)); exact HL105_0.out) hg hat); have n2_ := Aside0.mk (Kd.V_afterv (ok := (fun k_ => (P0_ k_ ∨ w.heap.size ≤ k_))) (by (with_reducible repeat (first | apply Kd.V_alloc | apply Kd.V_drewN | apply Kd.V_drew)); exact HO110.out) hg hat); have n3_ := Aside0.mk (hb); have n4_ := Aside0.mk (ho); clear HO_0; clear HL105_0; clear HO110; clear HB; clear HO_10; have HO_0 := n0_; have HL105_0 := n1_; have HO110 := n2_; have HB := n3_; have HO113 := n4_; clear n0_ n1_ n2_ n3_ n4_; clear ho hb hg hat)); try go_wp2_with (first | ((with_reducible refine gate_builtin (b := .append) (xs := #[.tmp 59, .tmp 66]) rfl ?_); (try (refine gate_guard (by rfl) ?_; dsimp only)); at_builtin; refine Kd.N_append (Kd.slice 5 (Kd.int .u8)) (w0 := w) w.heap.size rfl (.tmp 59) (.tmp 66) 42 43 (.slice none 0 0) 24 rfl Try.underlying42 info43 rfl (by decide) (by omega) u10 x10_2 y106 [.slice A105_0 y106.length c105_0] (fun k_ => (P0_ k_ ∨ w.heap.size ≤ k_)) (fun k_ => ((fun k_ => (P0_ k_ ∨ w.heap.size ≤ k_))) k_ ∧ some k_ ≠ (u10 : Value).ownBlock) rfl rfl ?aP (fun _ hk => hk) ?aF ?aO ?aB ?aS ?aL ?_; (case aP => exact (Kd.FK_slice_mk (Kd.V_reads' (Kd.V_mono (ok' := (fun k_ => ((fun k_ => (P0_ k_ ∨ w.heap.size ≤ k_))) k_ ∧ some k_ ≠ (u10 : Value).ownBlock)) (HO110.out) (fun k_ hk => ⟨hk.1, hk.2⟩))).2.1 (Kd.V_F (Kd.V_mono (ok' := (fun k_ => ((fun k_ => (P0_ k_ ∨ w.heap.size ≤ k_))) k_ ∧ some k_ ≠ (u10 : Value).ownBlock)) (HO110.out) (fun k_ hk => ⟨hk.1, hk.2⟩))))); (case aB => exact (by repeat (first | (with_reducible first | exact HB.out | apply below_alloc | apply pw_below_drewN | apply below_drew1) | exact HB.out))); (case aF => exact (fun k_ hk => (.inr (Nat.le_trans (below_size (by repeat (first | (with_reducible first | exact HB.out | apply below_alloc | apply pw_below_drewN | apply below_drew1) | exact HB.out))) hk)))); (case aO => exact (by (with_reducible repeat (first | apply Kd.N_alloc | apply Kd.N_drewN | apply Kd.N_drew)); exact HO_10.out)); (case aS => exact (below_size (by repeat (first | (with_reducible first | exact HB.out | apply below_alloc | apply pw_below_drewN | apply below_drew1) | exact HB.out)))); (case aL => have := LMc21.out; omega); intro v112 w23 ho hb hg hat; rw [← Ny111.out] at ho; have n0_ := Aside0.mk (Kd.V_afterv (ok := (fun k_ => (P0_ k_ ∨ w.heap.size ≤ k_))) (by (with_reducible repeat (first | apply Kd.V_alloc | apply Kd.V_drewN | apply Kd.V_drew)); exact HO_0.out) hg hat); have n1_ := Aside0.mk (Kd.V_afterv (ok := (fun k_ => (P0_ k_ ∨ w.heap.size ≤ k_))) (by (with_reducible repeat (first | apply Kd.V_alloc | apply Kd.V_drewN | apply Kd.V_drew)); exact HL105_0.out) hg hat); have n2_ := Aside0.mk (Kd.V_afterv (ok := (fun k_ => (P0_ k_ ∨ w.heap.size ≤ k_))) (by (with_reducible repeat (first | apply Kd.V_alloc | apply Kd.V_drewN | apply Kd.V_drew)); exact HO110.out) hg hat); have n3_ := Aside0.mk (hb); have n4_ := Aside0.mk (ho); clear HO_0; clear HL105_0; clear HO110; clear HB; clear HO_10; have HO_0 := n0_; have HL105_0 := n1_; have HO110 := n2_; have HB := n3_; have HO113 := n4_; clear n0_ n1_ n2_ n3_ n4_; clear ho hb hg hat)))
                      go_roundg k2
                      case measure => have := HJ6.out; have := HK2.out; omega
                      case rel => exact ⟨(y111), (wrap64 (x11_2 + 1)), (by first | rfl | (simp; done) | (simp [*]; done)), H', ⟨by have := HJ6.out; have := HK2.out; omega⟩, ⟨by (with_reducible repeat (first | apply Kd.V_alloc | apply Kd.V_drewN | apply Kd.V_drew)); exact HO_0.out⟩, ⟨by (with_reducible repeat (first | apply Kd.N_alloc | apply Kd.N_drewN | apply Kd.N_drew)); exact HO113.out⟩, ⟨by repeat (first | (with_reducible first | exact HB.out | apply below_alloc | apply pw_below_drewN | apply below_drew1) | exact HB.out)⟩⟩
                    · rw [if_neg c21] at H
                      exact absurd H (by simp)
                  · rw [if_neg c20] at H
                    exact absurd H (by simp)
                · rw [if_neg c19] at H
                  exact absurd H (by simp)
              · rw [if_neg c18] at H
                exact absurd H (by simp)
            · rw [if_neg c17] at H
              have c17b0 : decide (x11_2 < (l0.length : Int)) = false := decide_eq_false c17
              clear c17
              replace H := Option.bind_eq_some_iff.mp H
              obtain ⟨⟨t114, t115⟩, A240, H⟩ := H
              replace H : ((rs_Encode.f k2 x10_2 a1).bind fun bt118 => (if t115 = 0 then (if bt118.2 = 0 then (if (t114.length : Int) = a1 then (quartermasterlaw03_RsParts.j2 k2 l0 a1 a2 t114 bt118.1 ((bt118.1.length : Int) != a1)) else (quartermasterlaw03_RsParts.j2 k2 l0 a1 a2 t114 bt118.1 true)) else (quartermasterlaw03_RsParts.j2 k2 l0 a1 a2 t114 bt118.1 true)) else (quartermasterlaw03_RsParts.j2 k2 l0 a1 a2 t114 bt118.1 true))) = some r := H
              have A24 := Aside0.mk A240
              clear A240
              replace H := Option.bind_eq_some_iff.mp H
              obtain ⟨⟨t118, t119⟩, A250, H⟩ := H
              replace H : (if t115 = 0 then (if t119 = 0 then (if (t114.length : Int) = a1 then (quartermasterlaw03_RsParts.j2 k2 l0 a1 a2 t114 t118 ((t118.length : Int) != a1)) else (quartermasterlaw03_RsParts.j2 k2 l0 a1 a2 t114 t118 true)) else (quartermasterlaw03_RsParts.j2 k2 l0 a1 a2 t114 t118 true)) else (quartermasterlaw03_RsParts.j2 k2 l0 a1 a2 t114 t118 true)) = some r := H
              have A25 := Aside0.mk A250
              clear A250
              have HC26 := Aside0.mk H
              clear H
              go_upto_region 13 with (first | (go_at_call 51; (with_reducible refine (rs_Encode.calls k2 _ _ l0 a1 t114 t115 _ ?side1 ?side2 A24.out).mono ?_); (case side1 => repeat (first | exact (Kd.V_reads' HO_0.out).2.2 | (with_reducible refine Kd.C_alloc ?_ _) | (with_reducible refine Kd.C_drewN ?_ _) | (with_reducible refine Kd.C_drew ?_))); (case side2 => exact (Kd.V_reads' HO_0.out).2.1); rintro e w27 ⟨v116, rfl, ho0, hb⟩; have n0_ := Aside0.mk (Kd.V_elder' (by (with_reducible repeat (first | apply Kd.V_alloc | apply Kd.V_drewN | apply Kd.V_drew)); exact HO_0.out) (by first | exact Kd.N_base ho0 | exact Kd.N_base (Kd.S_N ho0)) hb); have n1_ := Aside0.mk (Kd.N_elder' (by (with_reducible repeat (first | apply Kd.N_alloc | apply Kd.N_drewN | apply Kd.N_drew)); exact HO_10.out) (by first | exact Kd.N_base ho0 | exact Kd.N_base (Kd.S_N ho0)) hb); have n2_ := Aside0.mk (Kd.N_lower (Kd.N_mono (ok' := fun k_ => (P0_ k_ ∨ w.heap.size ≤ k_) ∧ some k_ ≠ (u10 : Value).ownBlock) (Kd.S_N (Kd.S_bound ho0)) (fun k_ hk_ => ⟨(.inr (Nat.le_trans (below_size (by repeat (first | (with_reducible first | exact HB.out | apply below_alloc | apply pw_below_drewN | apply below_drew1) | exact HB.out))) hk_.2.1)), (Kd.fresh' (Kd.N_lt (by (with_reducible repeat (first | apply Kd.N_alloc | apply Kd.N_drewN | apply Kd.N_drew)); exact HO_10.out)) k_ hk_.2.1)⟩)) (below_size (by repeat (first | (with_reducible first | exact HB.out | apply below_alloc | apply pw_below_drewN | apply below_drew1) | exact HB.out)))); have n3_ := Aside0.mk (below_step (by repeat (first | (with_reducible first | exact HB.out | apply below_alloc | apply pw_below_drewN | apply below_drew1) | exact HB.out)) hb); clear HO_0; clear HO_10; clear HB; have HO_0 := n0_; have HO_10 := n1_; have HO117 := n2_; have HB := n3_; clear n0_ n1_ n2_ n3_; (try clear hb); (try clear hb2); (try clear hk); (try clear hi); (try clear ho0); obtain ⟨Ao28, co28, eo28⟩ := Kd.N_slice HO_10.out; subst eo28) | (go_at_call 51; (with_reducible refine (rs_Encode.calls k2 _ _ x10_2 a1 t118 t119 _ ?side1 ?side2 A25.out).mono ?_); (case side1 => repeat (first | exact (Kd.N_reads' HO_10.out).2.2 | (with_reducible refine Kd.C_alloc ?_ _) | (with_reducible refine Kd.C_drewN ?_ _) | (with_reducible refine Kd.C_drew ?_))); (case side2 => exact (Kd.N_reads' HO_10.out).2.1); rintro e w29 ⟨v120, rfl, ho0, hb⟩; have n0_ := Aside0.mk (Kd.V_elder' (by (with_reducible repeat (first | apply Kd.V_alloc | apply Kd.V_drewN | apply Kd.V_drew)); exact HO_0.out) (by first | exact Kd.N_base ho0 | exact Kd.N_base (Kd.S_N ho0)) hb); have n1_ := Aside0.mk (Kd.N_elder' (by (with_reducible repeat (first | apply Kd.N_alloc | apply Kd.N_drewN | apply Kd.N_drew)); exact HO_10.out) (by first | exact Kd.N_base ho0 | exact Kd.N_base (Kd.S_N ho0)) hb); have n2_ := Aside0.mk (Kd.N_elder' (by (with_reducible repeat (first | apply Kd.N_alloc | apply Kd.N_drewN | apply Kd.N_drew)); exact HO117.out) (by first | exact Kd.N_base ho0 | exact Kd.N_base (Kd.S_N ho0)) hb); have n3_ := Aside0.mk (Kd.N_lower (Kd.N_mono (ok' := fun k_ => (P0_ k_ ∨ w.heap.size ≤ k_) ∧ some k_ ≠ (.slice Ao28 x10_2.length co28 : Value).ownBlock ∧ some k_ ≠ (v116 : Value).ownBlock) (Kd.S_N (Kd.S_bound ho0)) (fun k_ hk_ => ⟨(.inr (Nat.le_trans (below_size (by repeat (first | (with_reducible first | exact HB.out | apply below_alloc | apply pw_below_drewN | apply below_drew1) | exact HB.out))) hk_.2.1)), (Kd.fresh' (Kd.N_lt (by (with_reducible repeat (first | apply Kd.N_alloc | apply Kd.N_drewN | apply Kd.N_drew)); exact HO_10.out)) k_ hk_.2.1), (Kd.fresh' (Kd.N_lt (by (with_reducible repeat (first | apply Kd.N_alloc | apply Kd.N_drewN | apply Kd.N_drew)); exact HO117.out)) k_ hk_.2.1)⟩)) (below_size (by repeat (first | (with_reducible first | exact HB.out | apply below_alloc | apply pw_below_drewN | apply below_drew1) | exact HB.out)))); have n4_ := Aside0.mk (below_step (by repeat (first | (with_reducible first | exact HB.out | apply below_alloc | apply pw_below_drewN | apply below_drew1) | exact HB.out)) hb); clear HO_0; clear HO_10; clear HO117; clear HB; have HO_0 := n0_; have HO_10 := n1_; have HO117 := n2_; have HO121 := n3_; have HB := n4_; clear n0_ n1_ n2_ n3_ n4_; (try clear hb); (try clear hb2); (try clear hk); (try clear hi); (try clear ho0)))
              repeat (go_quiet (first | (go_at_call 51; (with_reducible refine (rs_Encode.calls k2 _ _ l0 a1 t114 t115 _ ?side1 ?side2 A24.out).mono ?_); (case side1 => repeat (first | exact (Kd.V_reads' HO_0.out).2.2 | (with_reducible refine Kd.C_alloc ?_ _) | (with_reducible refine Kd.C_drewN ?_ _) | (with_reducible refine Kd.C_drew ?_))); (case side2 => exact (Kd.V_reads' HO_0.out).2.1); rintro e w27 ⟨v116, rfl, ho0, hb⟩; have n0_ := Aside0.mk (Kd.V_elder' (by (with_reducible repeat (first | apply Kd.V_alloc | apply Kd.V_drewN | apply Kd.V_drew)); exact HO_0.out) (by first | exact Kd.N_base ho0 | exact Kd.N_base (Kd.S_N ho0)) hb); have n1_ := Aside0.mk (Kd.N_elder' (by (with_reducible repeat (first | apply Kd.N_alloc | apply Kd.N_drewN | apply Kd.N_drew)); exact HO_10.out) (by first | exact Kd.N_base ho0 | exact Kd.N_base (Kd.S_N ho0)) hb); have n2_ := Aside0.mk (Kd.N_lower (Kd.N_mono (ok' := fun k_ => (P0_ k_ ∨ w.heap.size ≤ k_) ∧ some k_ ≠ (u10 : Value).ownBlock) (Kd.S_N (Kd.S_bound ho0)) (fun k_ hk_ => ⟨(.inr (Nat.le_trans (below_size (by repeat (first | (with_reducible first | exact HB.out | apply below_alloc | apply pw_below_drewN | apply below_drew1) | exact HB.out))) hk_.2.1)), (Kd.fresh' (Kd.N_lt (by (with_reducible repeat (first | apply Kd.N_alloc | apply Kd.N_drewN | apply Kd.N_drew)); exact HO_10.out)) k_ hk_.2.1)⟩)) (below_size (by repeat (first | (with_reducible first | exact HB.out | apply below_alloc | apply pw_below_drewN | apply below_drew1) | exact HB.out)))); have n3_ := Aside0.mk (below_step (by repeat (first | (with_reducible first | exact HB.out | apply below_alloc | apply pw_below_drewN | apply below_drew1) | exact HB.out)) hb); clear HO_0; clear HO_10; clear HB; have HO_0 := n0_; have HO_10 := n1_; have HO117 := n2_; have HB := n3_; clear n0_ n1_ n2_ n3_; (try clear hb); (try clear hb2); (try clear hk); (try clear hi); (try clear ho0); obtain ⟨Ao28, co28, eo28⟩ := Kd.N_slice HO_10.out; subst eo28) | (go_at_call 51; (with_reducible refine (rs_Encode.calls k2 _ _ x10_2 a1 t118 t119 _ ?side1 ?side2 A25.out).mono ?_); (case side1 => repeat (first | exact (Kd.N_reads' HO_10.out).2.2 | (with_reducible refine Kd.C_alloc ?_ _) | (with_reducible refine Kd.C_drewN ?_ _) | (with_reducible refine Kd.C_drew ?_))); (case side2 => exact (Kd.N_reads' HO_10.out).2.1); rintro e w29 ⟨v120, rfl, ho0, hb⟩; have n0_ := Aside0.mk (Kd.V_elder' (by (with_reducible repeat (first | apply Kd.V_alloc | apply Kd.V_drewN | apply Kd.V_drew)); exact HO_0.out) (by first | exact Kd.N_base ho0 | exact Kd.N_base (Kd.S_N ho0)) hb); have n1_ := Aside0.mk (Kd.N_elder' (by (with_reducible repeat (first | apply Kd.N_alloc | apply Kd.N_drewN | apply Kd.N_drew)); exact HO_10.out) (by first | exact Kd.N_base ho0 | exact Kd.N_base (Kd.S_N ho0)) hb); have n2_ := Aside0.mk (Kd.N_elder' (by (with_reducible repeat (first | apply Kd.N_alloc | apply Kd.N_drewN | apply Kd.N_drew)); exact HO117.out) (by first | exact Kd.N_base ho0 | exact Kd.N_base (Kd.S_N ho0)) hb); have n3_ := Aside0.mk (Kd.N_lower (Kd.N_mono (ok' := fun k_ => (P0_ k_ ∨ w.heap.size ≤ k_) ∧ some k_ ≠ (.slice Ao28 x10_2.length co28 : Value).ownBlock ∧ some k_ ≠ (v116 : Value).ownBlock) (Kd.S_N (Kd.S_bound ho0)) (fun k_ hk_ => ⟨(.inr (Nat.le_trans (below_size (by repeat (first | (with_reducible first | exact HB.out | apply below_alloc | apply pw_below_drewN | apply below_drew1) | exact HB.out))) hk_.2.1)), (Kd.fresh' (Kd.N_lt (by (with_reducible repeat (first | apply Kd.N_alloc | apply Kd.N_drewN | apply Kd.N_drew)); exact HO_10.out)) k_ hk_.2.1), (Kd.fresh' (Kd.N_lt (by (with_reducible repeat (first | apply Kd.N_alloc | apply Kd.N_drewN | apply Kd.N_drew)); exact HO117.out)) k_ hk_.2.1)⟩)) (below_size (by repeat (first | (with_reducible first | exact HB.out | apply below_alloc | apply pw_below_drewN | apply below_drew1) | exact HB.out)))); have n4_ := Aside0.mk (below_step (by repeat (first | (with_reducible first | exact HB.out | apply below_alloc | apply pw_below_drewN | apply below_drew1) | exact HB.out)) hb); clear HO_0; clear HO_10; clear HO117; clear HB; have HO_0 := n0_; have HO_10 := n1_; have HO117 := n2_; have HO121 := n3_; have HB := n4_; clear n0_ n1_ n2_ n3_ n4_; (try clear hb); (try clear hb2); (try clear hk); (try clear hi); (try clear ho0))); go_upto_region 13 with (first | (go_at_call 51; (with_reducible refine (rs_Encode.calls k2 _ _ l0 a1 t114 t115 _ ?side1 ?side2 A24.out).mono ?_); (case side1 => repeat (first | exact (Kd.V_reads' HO_0.out).2.2 | (with_reducible refine Kd.C_alloc ?_ _) | (with_reducible refine Kd.C_drewN ?_ _) | (with_reducible refine Kd.C_drew ?_))); (case side2 => exact (Kd.V_reads' HO_0.out).2.1); rintro e w27 ⟨v116, rfl, ho0, hb⟩; have n0_ := Aside0.mk (Kd.V_elder' (by (with_reducible repeat (first | apply Kd.V_alloc | apply Kd.V_drewN | apply Kd.V_drew)); exact HO_0.out) (by first | exact Kd.N_base ho0 | exact Kd.N_base (Kd.S_N ho0)) hb); have n1_ := Aside0.mk (Kd.N_elder' (by (with_reducible repeat (first | apply Kd.N_alloc | apply Kd.N_drewN | apply Kd.N_drew)); exact HO_10.out) (by first | exact Kd.N_base ho0 | exact Kd.N_base (Kd.S_N ho0)) hb); have n2_ := Aside0.mk (Kd.N_lower (Kd.N_mono (ok' := fun k_ => (P0_ k_ ∨ w.heap.size ≤ k_) ∧ some k_ ≠ (u10 : Value).ownBlock) (Kd.S_N (Kd.S_bound ho0)) (fun k_ hk_ => ⟨(.inr (Nat.le_trans (below_size (by repeat (first | (with_reducible first | exact HB.out | apply below_alloc | apply pw_below_drewN | apply below_drew1) | exact HB.out))) hk_.2.1)), (Kd.fresh' (Kd.N_lt (by (with_reducible repeat (first | apply Kd.N_alloc | apply Kd.N_drewN | apply Kd.N_drew)); exact HO_10.out)) k_ hk_.2.1)⟩)) (below_size (by repeat (first | (with_reducible first | exact HB.out | apply below_alloc | apply pw_below_drewN | apply below_drew1) | exact HB.out)))); have n3_ := Aside0.mk (below_step (by repeat (first | (with_reducible first | exact HB.out | apply below_alloc | apply pw_below_drewN | apply below_drew1) | exact HB.out)) hb); clear HO_0; clear HO_10; clear HB; have HO_0 := n0_; have HO_10 := n1_; have HO117 := n2_; have HB := n3_; clear n0_ n1_ n2_ n3_; (try clear hb); (try clear hb2); (try clear hk); (try clear hi); (try clear ho0); obtain ⟨Ao28, co28, eo28⟩ := Kd.N_slice HO_10.out; subst eo28) | (go_at_call 51; (with_reducible refine (rs_Encode.calls k2 _ _ x10_2 a1 t118 t119 _ ?side1 ?side2 A25.out).mono ?_); (case side1 => repeat (first | exact (Kd.N_reads' HO_10.out).2.2 | (with_reducible refine Kd.C_alloc ?_ _) | (with_reducible refine Kd.C_drewN ?_ _) | (with_reducible refine Kd.C_drew ?_))); (case side2 => exact (Kd.N_reads' HO_10.out).2.1); rintro e w29 ⟨v120, rfl, ho0, hb⟩; have n0_ := Aside0.mk (Kd.V_elder' (by (with_reducible repeat (first | apply Kd.V_alloc | apply Kd.V_drewN | apply Kd.V_drew)); exact HO_0.out) (by first | exact Kd.N_base ho0 | exact Kd.N_base (Kd.S_N ho0)) hb); have n1_ := Aside0.mk (Kd.N_elder' (by (with_reducible repeat (first | apply Kd.N_alloc | apply Kd.N_drewN | apply Kd.N_drew)); exact HO_10.out) (by first | exact Kd.N_base ho0 | exact Kd.N_base (Kd.S_N ho0)) hb); have n2_ := Aside0.mk (Kd.N_elder' (by (with_reducible repeat (first | apply Kd.N_alloc | apply Kd.N_drewN | apply Kd.N_drew)); exact HO117.out) (by first | exact Kd.N_base ho0 | exact Kd.N_base (Kd.S_N ho0)) hb); have n3_ := Aside0.mk (Kd.N_lower (Kd.N_mono (ok' := fun k_ => (P0_ k_ ∨ w.heap.size ≤ k_) ∧ some k_ ≠ (.slice Ao28 x10_2.length co28 : Value).ownBlock ∧ some k_ ≠ (v116 : Value).ownBlock) (Kd.S_N (Kd.S_bound ho0)) (fun k_ hk_ => ⟨(.inr (Nat.le_trans (below_size (by repeat (first | (with_reducible first | exact HB.out | apply below_alloc | apply pw_below_drewN | apply below_drew1) | exact HB.out))) hk_.2.1)), (Kd.fresh' (Kd.N_lt (by (with_reducible repeat (first | apply Kd.N_alloc | apply Kd.N_drewN | apply Kd.N_drew)); exact HO_10.out)) k_ hk_.2.1), (Kd.fresh' (Kd.N_lt (by (with_reducible repeat (first | apply Kd.N_alloc | apply Kd.N_drewN | apply Kd.N_drew)); exact HO117.out)) k_ hk_.2.1)⟩)) (below_size (by repeat (first | (with_reducible first | exact HB.out | apply below_alloc | apply pw_below_drewN | apply below_drew1) | exact HB.out)))); have n4_ := Aside0.mk (below_step (by repeat (first | (with_reducible first | exact HB.out | apply below_alloc | apply pw_below_drewN | apply below_drew1) | exact HB.out)) hb); clear HO_0; clear HO_10; clear HO117; clear HB; have HO_0 := n0_; have HO_10 := n1_; have HO117 := n2_; have HO121 := n3_; have HB := n4_; clear n0_ n1_ n2_ n3_ n4_; (try clear hb); (try clear hb2); (try clear hk); (try clear hi); (try clear ho0))))
              (try simp only [Act.put, List.setIfInBounds_toArray, List.set_cons_zero, List.set_cons_succ])
              go_cut [97] (fun v97 wc => ∃ (kq : Nat) (x97_25 : Bool), v97 = .bool x97_25 ∧ Aside0 (quartermasterlaw03_RsParts.j2 kq l0 a1 a2 t114 t118 x97_25 = some r) ∧ Aside0 (kq ≤ k2) ∧ Aside0 (Kd.V (Kd.slice 5 (Kd.int .u8)) 43 wc w.heap.size (fun k_ => (P0_ k_ ∨ w.heap.size ≤ k_) ∧ some k_ ≠ (v116 : Value).ownBlock ∧ some k_ ≠ (v120 : Value).ownBlock) (.slice A0 l0.length c0) l0) ∧ Aside0 (Kd.N (Kd.slice 5 (Kd.int .u8)) 43 wc w.heap.size (fun k_ => (P0_ k_ ∨ w.heap.size ≤ k_) ∧ some k_ ≠ (v120 : Value).ownBlock) v116 t114) ∧ Aside0 (Kd.N (Kd.slice 5 (Kd.int .u8)) 43 wc w.heap.size (fun k_ => (P0_ k_ ∨ w.heap.size ≤ k_) ∧ some k_ ≠ (v116 : Value).ownBlock) v120 t118) ∧ Aside0 (Below w.heap.size w wc))
              case first =>
                have H := HC26.out
                clear HC26
                by_cases c30 : t115 = 0
                · rw [if_pos c30] at H
                  have c30b0 : (t115 == 0) = true := beq_iff_eq.mpr c30
                  have c30b1 : (t115 != 0) = false := bne_eq_false_iff_eq.mpr c30
                  clear c30
                  (first | rw [c30b0] | (simp only [i64_w, i32_w]; rw [c30b0]) | skip)
                  by_cases c31 : t119 = 0
                  · rw [if_pos c31] at H
                    have c31b0 : (t119 == 0) = true := beq_iff_eq.mpr c31
                    have c31b1 : (t119 != 0) = false := bne_eq_false_iff_eq.mpr c31
                    clear c31
                    by_cases c32 : (t114.length : Int) = a1
                    · rw [if_pos c32] at H
                      have c32b0 : ((t114.length : Int) == a1) = true := beq_iff_eq.mpr c32
                      have c32b1 : ((t114.length : Int) != a1) = false := bne_eq_false_iff_eq.mpr c32
                      clear c32
                      have H' := Aside0.mk H
                      clear H
                      obtain ⟨Ao33, co33, eo33⟩ := Kd.N_slice HO117.out
                      subst eo33
                      obtain ⟨Ao34, co34, eo34⟩ := Kd.N_slice HO121.out
                      subst eo34
                      go_wp2
                      repeat (go_quiet (fail); try go_wp2)
                      go_meet
                      case rel => exact ⟨_, (((t118.length : Int) != a1)), (by first | rfl | (simp; done) | (simp [*]; done)), H', ⟨by have := HJ6.out; have := HK2.out; first | omega | exact Nat.le_refl _⟩, ⟨by (with_reducible repeat (first | apply Kd.V_alloc | apply Kd.V_drewN | apply Kd.V_drew)); exact Kd.V_mono HO_0.out (fun _ hk => ⟨hk.1.1.1, ⟨hk.1.2, hk.2⟩⟩)⟩, ⟨by (with_reducible repeat (first | apply Kd.N_alloc | apply Kd.N_drewN | apply Kd.N_drew)); exact Kd.N_mono HO117.out (fun _ hk => ⟨hk.1.1, hk.2⟩)⟩, ⟨by (with_reducible repeat (first | apply Kd.N_alloc | apply Kd.N_drewN | apply Kd.N_drew)); exact Kd.N_mono HO121.out (fun _ hk => ⟨hk.1, hk.2.2⟩)⟩, ⟨by repeat (first | (with_reducible first | exact HB.out | apply below_alloc | apply pw_below_drewN | apply below_drew1) | exact HB.out)⟩⟩
                    · rw [if_neg c32] at H
                      have c32b0 : ((t114.length : Int) == a1) = false := beq_eq_false_iff_ne.mpr c32
                      have c32b1 : ((t114.length : Int) != a1) = true := bne_iff_ne.mpr c32
                      have H' := Aside0.mk H
                      clear H
                      obtain ⟨Ao35, co35, eo35⟩ := Kd.N_slice HO117.out
                      subst eo35
                      go_wp2
                      repeat (go_quiet (fail); try go_wp2)
                      go_meet
                      case rel => exact ⟨_, (true), (by first | rfl | (simp; done) | (simp [*]; done)), H', ⟨by have := HJ6.out; have := HK2.out; first | omega | exact Nat.le_refl _⟩, ⟨by (with_reducible repeat (first | apply Kd.V_alloc | apply Kd.V_drewN | apply Kd.V_drew)); exact Kd.V_mono HO_0.out (fun _ hk => ⟨hk.1.1.1, ⟨hk.1.2, hk.2⟩⟩)⟩, ⟨by (with_reducible repeat (first | apply Kd.N_alloc | apply Kd.N_drewN | apply Kd.N_drew)); exact Kd.N_mono HO117.out (fun _ hk => ⟨hk.1.1, hk.2⟩)⟩, ⟨by (with_reducible repeat (first | apply Kd.N_alloc | apply Kd.N_drewN | apply Kd.N_drew)); exact Kd.N_mono HO121.out (fun _ hk => ⟨hk.1, hk.2.2⟩)⟩, ⟨by repeat (first | (with_reducible first | exact HB.out | apply below_alloc | apply pw_below_drewN | apply below_drew1) | exact HB.out)⟩⟩
                  · rw [if_neg c31] at H
                    have c31b0 : (t119 == 0) = false := beq_eq_false_iff_ne.mpr c31
                    have c31b1 : (t119 != 0) = true := bne_iff_ne.mpr c31
                    have H' := Aside0.mk H
                    clear H
                    go_wp2
                    repeat (go_quiet (fail); try go_wp2)
                    go_meet
                    case rel => exact ⟨_, (true), (by first | rfl | (simp; done) | (simp [*]; done)), H', ⟨by have := HJ6.out; have := HK2.out; first | omega | exact Nat.le_refl _⟩, ⟨by (with_reducible repeat (first | apply Kd.V_alloc | apply Kd.V_drewN | apply Kd.V_drew)); exact Kd.V_mono HO_0.out (fun _ hk => ⟨hk.1.1.1, ⟨hk.1.2, hk.2⟩⟩)⟩, ⟨by (with_reducible repeat (first | apply Kd.N_alloc | apply Kd.N_drewN | apply Kd.N_drew)); exact Kd.N_mono HO117.out (fun _ hk => ⟨hk.1.1, hk.2⟩)⟩, ⟨by (with_reducible repeat (first | apply Kd.N_alloc | apply Kd.N_drewN | apply Kd.N_drew)); exact Kd.N_mono HO121.out (fun _ hk => ⟨hk.1, hk.2.2⟩)⟩, ⟨by repeat (first | (with_reducible first | exact HB.out | apply below_alloc | apply pw_below_drewN | apply below_drew1) | exact HB.out)⟩⟩
                · rw [if_neg c30] at H
                  have c30b0 : (t115 == 0) = false := beq_eq_false_iff_ne.mpr c30
                  have c30b1 : (t115 != 0) = true := bne_iff_ne.mpr c30
                  (first | rw [c30b0] | (simp only [i64_w, i32_w]; rw [c30b0]) | skip)
                  have H' := Aside0.mk H
                  clear H
                  go_wp2
                  repeat (go_quiet (fail); try go_wp2)
                  go_meet
                  case rel => exact ⟨_, (true), (by first | rfl | (simp; done) | (simp [*]; done)), H', ⟨by have := HJ6.out; have := HK2.out; first | omega | exact Nat.le_refl _⟩, ⟨by (with_reducible repeat (first | apply Kd.V_alloc | apply Kd.V_drewN | apply Kd.V_drew)); exact Kd.V_mono HO_0.out (fun _ hk => ⟨hk.1.1.1, ⟨hk.1.2, hk.2⟩⟩)⟩, ⟨by (with_reducible repeat (first | apply Kd.N_alloc | apply Kd.N_drewN | apply Kd.N_drew)); exact Kd.N_mono HO117.out (fun _ hk => ⟨hk.1.1, hk.2⟩)⟩, ⟨by (with_reducible repeat (first | apply Kd.N_alloc | apply Kd.N_drewN | apply Kd.N_drew)); exact Kd.N_mono HO121.out (fun _ hk => ⟨hk.1, hk.2.2⟩)⟩, ⟨by repeat (first | (with_reducible first | exact HB.out | apply below_alloc | apply pw_below_drewN | apply below_drew1) | exact HB.out)⟩⟩
              case rest =>
                clear HC26
                try clear c1
                try clear p1
                try clear q1
                try clear hx1
                try clear qi1
                try clear c2
                try clear p2
                try clear q2
                try clear c3
                try clear p6
                try clear c9
                try clear c10
                try clear p10
                try clear q10
                try clear hx10
                try clear qi10
                try clear c11
                try clear c12
                try clear c12b0
                try clear c13
                try clear c13b0
                try clear c14
                try clear c14b0
                try clear c15
                try clear c15b0
                try clear c15b1
                try clear c16
                try clear c17
                try clear c17b0
                try clear c18
                try clear c18b0
                try clear c19
                try clear c19b0
                try clear c19b1
                try clear c20
                try clear c20b0
                try clear c20b1
                try clear c21
                try clear q22
                try clear c30
                try clear c30b0
                try clear c30b1
                try clear c31
                try clear c31b0
                try clear c31b1
                try clear c32
                try clear c32b0
                try clear c32b1
                try clear hx104_0
                try clear hx105_0
                try clear p1
                try clear p10
                try clear p104
                try clear p105
                try clear p2
                try clear q1
                try clear q10
                try clear q104
                try clear q105
                try clear q22
                obtain ⟨kq, x97_25, rfl, HA, HJ25, HO_0, HO_12, HO_14, HB⟩ := hcut
                cases kq with
                | zero => exact absurd HA.out (by simp [quartermasterlaw03_RsParts.j2])
                | succ kj25 =>
                  have H := HA.out
                  clear HA
                  simp only [quartermasterlaw03_RsParts.j2] at H
                  by_cases c36 : x97_25 = true
                  · subst c36
                    have H1 : (none) = some r := by rw [if_pos rfl] at H; exact H
                    exact absurd H1 (by simp)
                  · replace c36 := Bool.eq_false_iff.mpr c36
                    subst c36
                    have H1 : (quartermasterlaw03_RsParts.l1 kj25 l0 a1 a2 t114 t118 0) = some r := by rw [if_neg (show ¬ (false = true) by decide)] at H; exact H
                    clear H
                    have H := H1
                    clear H1
                    have H' := Aside0.mk H
                    clear H
                    go_wp2
                    repeat (go_quiet (fail); try go_wp2)
                    go_loopg [16] kj25 (fun kq v16 w' => ∃ (x16_4 : Int), v16 = .int .i64 x16_4 ∧ Aside0 (quartermasterlaw03_RsParts.l1 kq l0 a1 a2 t114 t118 x16_4 = some r) ∧ Aside0 (kq ≤ kj25) ∧ Aside0 (Kd.V (Kd.slice 5 (Kd.int .u8)) 43 w' w.heap.size (fun k_ => (P0_ k_ ∨ w.heap.size ≤ k_) ∧ some k_ ≠ (v116 : Value).ownBlock ∧ some k_ ≠ (v120 : Value).ownBlock) (.slice A0 l0.length c0) l0) ∧ Aside0 (Kd.N (Kd.slice 5 (Kd.int .u8)) 43 w' w.heap.size (fun k_ => (P0_ k_ ∨ w.heap.size ≤ k_) ∧ some k_ ≠ (v120 : Value).ownBlock) v116 t114) ∧ Aside0 (Kd.N (Kd.slice 5 (Kd.int .u8)) 43 w' w.heap.size (fun k_ => (P0_ k_ ∨ w.heap.size ≤ k_) ∧ some k_ ≠ (v116 : Value).ownBlock) v120 t118) ∧ Aside0 (Below w.heap.size w w'))
                    case atStart => exact ⟨(0), (by first | rfl | (simp; done) | (simp [*]; done)), H', ⟨Nat.le_refl _⟩, ⟨by (with_reducible repeat (first | apply Kd.V_alloc | apply Kd.V_drewN | apply Kd.V_drew)); exact HO_0.out⟩, ⟨by (with_reducible repeat (first | apply Kd.N_alloc | apply Kd.N_drewN | apply Kd.N_drew)); exact HO_12.out⟩, ⟨by (with_reducible repeat (first | apply Kd.N_alloc | apply Kd.N_drewN | apply Kd.N_drew)); exact HO_14.out⟩, ⟨by repeat (first | (with_reducible first | exact HB.out | apply below_alloc | apply pw_below_drewN | apply below_drew1) | exact HB.out)⟩⟩
                    case round =>
                      clear H'
                      try clear c1
                      try clear p1
                      try clear q1
                      try clear hx1
                      try clear qi1
                      try clear c2
                      try clear p2
                      try clear q2
                      try clear c3
                      try clear p6
                      try clear c9
                      try clear c10
                      try clear p10
                      try clear q10
                      try clear hx10
                      try clear qi10
                      try clear c11
                      try clear c12
                      try clear c12b0
                      try clear c13
                      try clear c13b0
                      try clear c14
                      try clear c14b0
                      try clear c15
                      try clear c15b0
                      try clear c15b1
                      try clear c16
                      try clear c17
                      try clear c17b0
                      try clear c18
                      try clear c18b0
                      try clear c19
                      try clear c19b0
                      try clear c19b1
                      try clear c20
                      try clear c20b0
                      try clear c20b1
                      try clear c21
                      try clear q22
                      try clear c30
                      try clear c30b0
                      try clear c30b1
                      try clear c31
                      try clear c31b0
                      try clear c31b1
                      try clear c32
                      try clear c32b0
                      try clear c32b1
                      try clear c36
                      try clear hx104_0
                      try clear hx105_0
                      try clear p1
                      try clear p10
                      try clear p104
                      try clear p105
                      try clear p2
                      try clear p6
                      try clear q1
                      try clear q10
                      try clear q104
                      try clear q105
                      try clear q2
                      try clear q22
                      obtain ⟨x16_4, rfl, HA, HK4, HO_0, HO_12, HO_14, HB⟩ := hrel
                      cases gk with
                      | zero => exact absurd HA.out (by simp [quartermasterlaw03_RsParts.l1])
                      | succ k4 =>
                        have H := HA.out
                        clear HA
                        simp only [quartermasterlaw03_RsParts.l1] at H
                        by_cases c37 : x16_4 < a1
                        · rw [if_pos c37] at H
                          have c37b0 : decide (x16_4 < a1) = true := decide_eq_true c37
                          clear c37
                          by_cases c38 : 0 ≤ x16_4
                          · rw [if_pos c38] at H
                            have c38b0 : decide (0 ≤ x16_4) = true := decide_eq_true c38
                            clear c38
                            by_cases c39 : x16_4 < (t114.length : Int)
                            · rw [if_pos c39] at H
                              have c39b0 : decide (x16_4 < (t114.length : Int)) = true := decide_eq_true c39
                              clear c39
                              by_cases c40 : 0 < (l0.length : Int)
                              · rw [if_pos c40] at H
                                have c40b0 : decide (0 < (l0.length : Int)) = true := decide_eq_true c40
                                have c40b1 : decide (0 < l0.length) = true := decide_eq_true (by omega)
                                clear c40
                                by_cases c41 : ((rd_L1 t114 x16_4).length : Int) = ((rd_L1 l0 0).length : Int)
                                · rw [if_pos c41] at H
                                  have c41b0 : (((rd_L1 t114 x16_4).length : Int) == ((rd_L1 l0 0).length : Int)) = true := beq_iff_eq.mpr c41
                                  have c41b1 : (((rd_L1 t114 x16_4).length : Int) != ((rd_L1 l0 0).length : Int)) = false := bne_eq_false_iff_eq.mpr c41
                                  have c41b2 : ((rd_L1 t114 x16_4).length == (rd_L1 l0 0).length) = true := by first | simpa using c41 | (simp at c41 ⊢; omega)
                                  clear c41
                                  by_cases c42 : 0 ≤ a2
                                  · rw [if_pos c42] at H
                                    have c42b0 := eq_true c42
                                    have c42b1 : decide (0 ≤ a2) = true := decide_eq_true c42
                                    clear c42
                                    by_cases c43 : a2 ≤ ((rd_L1 t114 x16_4).length : Int)
                                    · rw [if_pos c43] at H
                                      have c43b0 := eq_true c43
                                      have c43b1 : decide (a2 ≤ ((rd_L1 t114 x16_4).length : Int)) = true := decide_eq_true c43
                                      clear c43
                                      obtain ⟨y125, hy125⟩ : ∃ y_ : List Int, y_ = ((rd_L1 t114 x16_4).take (a2 : Int).toNat) := ⟨_, rfl⟩
                                      replace H : (if x16_4 < (t118.length : Int) then (if (strOfNums y125).toList = (strOfNums (rd_L1 t118 x16_4)).toList then (quartermasterlaw03_RsParts.l1 k4 l0 a1 a2 t114 t118 (wrap64 (x16_4 + 1))) else (none)) else (none)) = some r := by first | (rw [hy125]; with_reducible exact H) | (have H2_ := (Option.bind_some _ _).symm.trans H; rw [hy125]; with_reducible exact H2_) | (have H2_ := (Option.bind_some _ _).symm.trans H; with_reducible exact H2_) | with_reducible exact H | (rw [hy125]; exact H) | exact H
                                      have Ny125 := Aside0.mk hy125
                                      clear hy125
                                      by_cases c44 : x16_4 < (t118.length : Int)
                                      · rw [if_pos c44] at H
                                        have c44b0 : decide (x16_4 < (t118.length : Int)) = true := decide_eq_true c44
                                        clear c44
                                        by_cases c45 : (strOfNums y125).toList = (strOfNums (rd_L1 t118 x16_4)).toList
                                        · rw [if_pos c45] at H
                                          have c45b0 : ((strOfNums y125).toList == (strOfNums (rd_L1 t118 x16_4)).toList) = true := beq_iff_eq.mpr c45
                                          have c45b1 : ((strOfNums y125).toList != (strOfNums (rd_L1 t118 x16_4)).toList) = false := bne_eq_false_iff_eq.mpr c45
                                          clear c45
                                          have H' := Aside0.mk H
                                          clear H
                                          obtain ⟨Ao46, co46, eo46⟩ := Kd.N_slice HO_12.out
                                          subst eo46
                                          have p122 : 0 ≤ (x16_4 : Int) := of_decide_eq_true (by first | (with_reducible assumption) | assumption)
                                          have q122 : x16_4 < (t114.length : Int) := of_decide_eq_true (by first | (with_reducible assumption) | assumption)
                                          obtain ⟨ad122, A122_0, c122_0, e122, hx122_0, hl122_0, hi122_0⟩ := at_L1 (Kd.N_reads' HO_12.out).2.2 x16_4 p122 q122
                                          cases e122
                                          obtain ⟨ce122, hce122, hMe122, hcc122⟩ := Kd.N_get HO_12.out [] x16_4 p122 (by first | exact q122 | exact of_decide_eq_true (by first | (with_reducible assumption) | assumption) | (have e_ := (Kd.N_reads' HO_12.out).1; omega))
                                          obtain ⟨ua122_0, uc122_0, rfl, ul122_0, ge122_0⟩ := Kd.FK_slice_open hMe122
                                          have hv122_0 := hcc122 0 _ rfl
                                          rw [Nat.add_zero, show ((Kd.slice 5 (Kd.int .u8))).sz = 1 from rfl, Nat.mul_one] at hv122_0
                                          replace hv122_0 := Option.some.inj (hv122_0.symm.trans hx122_0)
                                          injection hv122_0 with hva_ hvn_ hvc_
                                          rw [hva_] at ge122_0
                                          rw [hvc_] at ul122_0
                                          have HL122_0 := Aside0.mk (show Kd.V (Kd.int .u8) 5 _ w.heap.size _ _ (rd_L1 t114 x16_4) from Kd.V_mk ul122_0 ge122_0)
                                          clear hva_ hvn_ hvc_ ge122_0 ul122_0
                                          clear hcc122 hce122
                                          have HR122_0 := Aside0.mk hi122_0
                                          have HC122_0 := Aside0.mk hl122_0
                                          clear hi122_0 hl122_0
                                          replace p122 := eq_true p122
                                          replace q122 := eq_true q122
                                          have p123 : 0 ≤ (0 : Int) := (by omega)
                                          have q123 : 0 < (l0.length : Int) := of_decide_eq_true (by first | (with_reducible assumption) | assumption)
                                          obtain ⟨ad123, A123_0, c123_0, e123, hx123_0, hl123_0, hi123_0⟩ := at_L1 (Kd.V_reads' HO_0.out).2.2 0 p123 q123
                                          cases e123
                                          obtain ⟨ce123, hce123, hMe123, hcc123⟩ := Kd.V_get HO_0.out [] 0 p123 (by first | exact q123 | exact of_decide_eq_true (by first | (with_reducible assumption) | assumption) | (have e_ := (Kd.V_reads' HO_0.out).1; omega))
                                          obtain ⟨ua123_0, uc123_0, rfl, ul123_0, ge123_0⟩ := Kd.FK_slice_open hMe123
                                          have hv123_0 := hcc123 0 _ rfl
                                          rw [Nat.add_zero, show ((Kd.slice 5 (Kd.int .u8))).sz = 1 from rfl, Nat.mul_one] at hv123_0
                                          replace hv123_0 := Option.some.inj (hv123_0.symm.trans hx123_0)
                                          injection hv123_0 with hva_ hvn_ hvc_
                                          rw [hva_] at ge123_0
                                          rw [hvc_] at ul123_0
                                          have HL123_0 := Aside0.mk (show Kd.V (Kd.int .u8) 5 _ w.heap.size _ _ (rd_L1 l0 0) from Kd.V_mk ul123_0 ge123_0)
                                          clear hva_ hvn_ hvc_ ge123_0 ul123_0
                                          clear hcc123 hce123
                                          have qi123 : (0 < l0.length) = True := eq_true (by omega)
                                          (try rw [show ((0 : Int)).toNat = 0 from rfl] at hx123_0)
                                          (try rw [Addr.add_zero'] at hx123_0)
                                          have HR123_0 := Aside0.mk hi123_0
                                          have HC123_0 := Aside0.mk hl123_0
                                          clear hi123_0 hl123_0
                                          replace p123 := eq_true p123
                                          replace q123 := eq_true q123
                                          have p124 : 0 ≤ (x16_4 : Int) := of_decide_eq_true (by first | (with_reducible assumption) | assumption)
                                          have q124 : x16_4 < (t114.length : Int) := of_decide_eq_true (by first | (with_reducible assumption) | assumption)
                                          obtain ⟨ad124, A124_0, c124_0, e124, hx124_0, hl124_0, hi124_0⟩ := at_L1 (Kd.N_reads' HO_12.out).2.2 x16_4 p124 q124
                                          obtain rfl : ad122 = ad124 := (by injection e124)
                                          obtain ⟨ce124, hce124, hMe124, hcc124⟩ := Kd.N_get HO_12.out [] x16_4 p124 (by first | exact q124 | exact of_decide_eq_true (by first | (with_reducible assumption) | assumption) | (have e_ := (Kd.N_reads' HO_12.out).1; omega))
                                          obtain ⟨ua124_0, uc124_0, rfl, ul124_0, ge124_0⟩ := Kd.FK_slice_open hMe124
                                          have hv124_0 := hcc124 0 _ rfl
                                          rw [Nat.add_zero, show ((Kd.slice 5 (Kd.int .u8))).sz = 1 from rfl, Nat.mul_one] at hv124_0
                                          replace hv124_0 := Option.some.inj (hv124_0.symm.trans hx124_0)
                                          injection hv124_0 with hva_ hvn_ hvc_
                                          rw [hva_] at ge124_0
                                          rw [hvc_] at ul124_0
                                          have HL124_0 := Aside0.mk (show Kd.V (Kd.int .u8) 5 _ w.heap.size _ _ (rd_L1 t114 x16_4) from Kd.V_mk ul124_0 ge124_0)
                                          clear hva_ hvn_ hvc_ ge124_0 ul124_0
                                          clear hcc124 hce124
                                          have HR124_0 := Aside0.mk hi124_0
                                          have HC124_0 := Aside0.mk hl124_0
                                          clear hi124_0 hl124_0
                                          replace p124 := eq_true p124
                                          replace q124 := eq_true q124
                                          have ea_ := Option.some.inj (hx122_0.symm.trans hx124_0)
                                          injection ea_ with ea_ en_ ec_
                                          subst ea_
                                          subst ec_
                                          clear en_
                                          have q47 : (a2 : Int) ≤ (((rd_L1 t114 x16_4).length : Int) : Int) := of_decide_eq_true (by first | (with_reducible assumption) | assumption)
                                          obtain ⟨i047, hi047, _, hsz47, _⟩ := info_parts info5
                                          have hroom47 : (rd_L1 t114 x16_4).length ≤ c122_0 := HC124_0.out
                                          have hC47 : Kd.F (Kd.int .u8) _ _ A122_0 (rd_L1 t114 x16_4).length (rd_L1 t114 x16_4) := (Kd.V_at (base := w.heap.size) HL124_0.out).2.2
                                          have hcut47 := cut_to (P := Try.prog) 43 5 .i64 Try.underlying43 hi047 A122_0 (rd_L1 t114 x16_4).length c122_0 a2 (of_decide_eq_true (by first | (with_reducible assumption) | assumption)) q47 hroom47
                                          have hr47 := Kd.F_take (m := (a2 : Int).toNat) hC47 (by omega)
                                          have hy47 : y125.length = (a2 : Int).toNat := (by rw [Ny125.out, List.length_take]; omega)
                                          rw [← Ny125.out] at hr47
                                          rw [← hy47] at hcut47
                                          have HO129 := Aside0.mk (show Kd.V (Kd.int .u8) 5 _ w.heap.size _ (.slice A122_0 y125.length c122_0) y125 from Kd.V_mk (by omega) hr47)
                                          have HC129 := Aside0.mk (show y125.length ≤ c122_0 from by omega)
                                          clear hr47 hC47 hroom47 hi047 hsz47
                                          have KY47 := Aside0.mk hy47
                                          clear hy47
                                          replace q47 := eq_true q47
                                          have hcv48 := fun n_ : Nat => Kd.C_string (P := Try.prog) (A := A122_0) (c := c122_0) Try.underlying43 Try.underlying5 Try.underlying9 (Kd.C_drewN (Kd.V_reads' HO129.out).2.2 n_)
                                          obtain ⟨Ao49, co49, eo49⟩ := Kd.N_slice HO_14.out
                                          subst eo49
                                          have p130 : 0 ≤ (x16_4 : Int) := of_decide_eq_true (by first | (with_reducible assumption) | assumption)
                                          have q130 : x16_4 < (t118.length : Int) := of_decide_eq_true (by first | (with_reducible assumption) | assumption)
                                          obtain ⟨ad130, A130_0, c130_0, e130, hx130_0, hl130_0, hi130_0⟩ := at_L1 (Kd.N_reads' HO_14.out).2.2 x16_4 p130 q130
                                          cases e130
                                          obtain ⟨ce130, hce130, hMe130, hcc130⟩ := Kd.N_get HO_14.out [] x16_4 p130 (by first | exact q130 | exact of_decide_eq_true (by first | (with_reducible assumption) | assumption) | (have e_ := (Kd.N_reads' HO_14.out).1; omega))
                                          obtain ⟨ua130_0, uc130_0, rfl, ul130_0, ge130_0⟩ := Kd.FK_slice_open hMe130
                                          have hv130_0 := hcc130 0 _ rfl
                                          rw [Nat.add_zero, show ((Kd.slice 5 (Kd.int .u8))).sz = 1 from rfl, Nat.mul_one] at hv130_0
                                          replace hv130_0 := Option.some.inj (hv130_0.symm.trans hx130_0)
                                          injection hv130_0 with hva_ hvn_ hvc_
                                          rw [hva_] at ge130_0
                                          rw [hvc_] at ul130_0
                                          have HL130_0 := Aside0.mk (show Kd.V (Kd.int .u8) 5 _ w.heap.size _ _ (rd_L1 t118 x16_4) from Kd.V_mk ul130_0 ge130_0)
                                          clear hva_ hvn_ hvc_ ge130_0 ul130_0
                                          clear hcc130 hce130
                                          have HR130_0 := Aside0.mk hi130_0
                                          have HC130_0 := Aside0.mk hl130_0
                                          clear hi130_0 hl130_0
                                          replace p130 := eq_true p130
                                          replace q130 := eq_true q130
                                          have hcv50 := fun n_ : Nat => Kd.C_string (P := Try.prog) (A := A130_0) (c := c130_0) Try.underlying43 Try.underlying5 Try.underlying9 (Kd.C_drewN HR130_0.out n_)
                                          go_wp2
                                          go_quiet (fail)
                                          go_wp2
                                          go_roundg k4
                                          case measure => have := HJ6.out; have := HK2.out; have := HJ25.out; have := HK4.out; omega
                                          case rel => exact ⟨(wrap64 (x16_4 + 1)), (by first | rfl | (simp; done) | (simp [*]; done)), H', ⟨by have := HJ6.out; have := HK2.out; have := HJ25.out; have := HK4.out; omega⟩, ⟨by (with_reducible repeat (first | apply Kd.V_alloc | apply Kd.V_drewN | apply Kd.V_drew)); exact HO_0.out⟩, ⟨by (with_reducible repeat (first | apply Kd.N_alloc | apply Kd.N_drewN | apply Kd.N_drew)); exact HO_12.out⟩, ⟨by (with_reducible repeat (first | apply Kd.N_alloc | apply Kd.N_drewN | apply Kd.N_drew)); exact HO_14.out⟩, ⟨by repeat (first | (with_reducible first | exact HB.out | apply below_alloc | apply pw_below_drewN | apply below_drew1) | exact HB.out)⟩⟩
                                        · rw [if_neg c45] at H
                                          exact absurd H (by simp)
                                      · rw [if_neg c44] at H
                                        exact absurd H (by simp)
                                    · rw [if_neg c43] at H
                                      exact absurd H (by simp)
                                  · rw [if_neg c42] at H
                                    exact absurd H (by simp)
                                · rw [if_neg c41] at H
                                  exact absurd H (by simp)
                              · rw [if_neg c40] at H
                                exact absurd H (by simp)
                            · rw [if_neg c39] at H
                              exact absurd H (by simp)
                          · rw [if_neg c38] at H
                            exact absurd H (by simp)
                        · rw [if_neg c37] at H
                          have c37b0 : decide (x16_4 < a1) = false := decide_eq_false c37
                          clear c37
                          obtain rfl := Option.some.inj H
                          go_wp2
                          repeat (go_quiet (fail); try go_wp2)
                          go_ret
                          exact ⟨by first | rfl | (simp [errW_none, errW_some] <;> rfl) | (simp [*, errW_none, errW_some] <;> rfl), by repeat (first | (with_reducible first | exact HB.out | apply below_alloc | apply pw_below_drewN | apply below_drew1) | exact HB.out)⟩

end Go.Proofs.Ythblmkailhdhlaa.XP
