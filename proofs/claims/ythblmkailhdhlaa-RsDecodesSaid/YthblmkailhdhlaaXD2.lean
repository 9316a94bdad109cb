-- PRINTED by print.py (a twelfth state) out of the translation. Not trusted: Lean checks it.
import Derived.Test.YthblmkailhdhlaaXE2
import Derived.Test.YthblmkailhdhlaaSC
import Derived.Test.YthblmkailhdhlaaXD0
namespace Go.Proofs.Ythblmkailhdhlaa.XD
open Go.Proofs.Ythblmkailhdhlaa.G Go.Proofs.Ythblmkailhdhlaa.P Go.Proofs.Ythblmkailhdhlaa.Given Go.Proofs.Ythblmkailhdhlaa.T Go.RowKit Go.Proofs.YthblmkailhdhlaaW.PrintWords Go.Proofs.YthblmkailhdhlaaW.PrintLast Go.Proofs.YthblmkailhdhlaaW.PrintMore
attribute [local go_sem] max2_int min2_int max_two min_two max_three min_three max_four min_four   -- for this text's walks alone
set_option linter.unusedVariables false
set_option linter.unusedSimpArgs false
/-! ### quartermasterref03_Decode: function 56 -/
mutual
def quartermasterref03_Decode.l0 : Nat → List (List Int) → Int → List (List Int) → Int → List (List Int) → List (List Int) → Int → Int → Option ((List (List Int)) × Int)
  | 0, _, _, _, _, _, _, _, _ => none
  | k + 1, x0, x1, x6, x8, x9, x10, x11, x12 => if x12 < (x0.length : Int) then (if 0 ≤ x12 then (if ((rd_L1 x0 x12).length : Int) = 0 then (quartermasterref03_Decode.l0 k x0 x1 x6 x8 x9 x10 x11 (wrap64 (x12 + 1))) else (if ((rd_L1 x0 x12).length : Int) > 4096 then (quartermasterref03_Decode.j1 k x0 x1 x6 x9 x10 x11 x12 ((rd_L1 x0 x12).length : Int) true) else (if x8 > 0 then (quartermasterref03_Decode.j1 k x0 x1 x6 x9 x10 x11 x12 ((rd_L1 x0 x12).length : Int) (((rd_L1 x0 x12).length : Int) != x8)) else (quartermasterref03_Decode.j1 k x0 x1 x6 x9 x10 x11 x12 ((rd_L1 x0 x12).length : Int) false)))) else (none)) else (if x11 < x1 then (some (([] : List (List Int)), 9)) else ((XE.quartermasterref03_Decode.f k x9 x1 x10 x8).bind fun t114 => ((quartermasterref03_Encode.f k t114 (wrap64 ((x0.length : Int) - x1))).bind fun bt117 => (if t114.length + bt117.1.length < 5864062014805 then (some ((t114 ++ bt117.1), 0)) else (none)))))
def quartermasterref03_Decode.j1 : Nat → List (List Int) → Int → List (List Int) → List (List Int) → List (List Int) → Int → Int → Int → Bool → Option ((List (List Int)) × Int)
  | 0, _, _, _, _, _, _, _, _, _ => none
  | k + 1, x0, x1, x6, x9, x10, x11, x12, x13, x56 => if x56 = true then (some (([] : List (List Int)), 1)) else (if (x9.length : Int) < x1 then (if 0 ≤ x12 then (if x12 < (x6.length : Int) then (if x9.length < 5864062014805 then (if x12 < (x0.length : Int) then (if x10.length < 5864062014805 then (quartermasterref03_Decode.l0 k x0 x1 x6 x13 (x9 ++ [rd_L1 x6 x12]) (x10 ++ [rd_L1 x0 x12]) (wrap64 (x11 + 1)) (wrap64 (x12 + 1))) else (none)) else (none)) else (none)) else (none)) else (none)) else (quartermasterref03_Decode.l0 k x0 x1 x6 x13 x9 x10 (wrap64 (x11 + 1)) (wrap64 (x12 + 1))))
end
def quartermasterref03_Decode.f (k : Nat) (l0 : List (List Int)) (a1 : Int) : Option ((List (List Int)) × Int) := (quartermasterref03_Rows.f k a1 (wrap64 ((l0.length : Int) - a1))).bind fun bt101 => (if bt101.2 = 0 then (quartermasterref03_Decode.l0 k l0 a1 bt101.1 0 ([] : List (List Int)) ([] : List (List Int)) 0 0) else (some (([] : List (List Int)), 1)))
set_option maxHeartbeats 8000000 in
set_option maxRecDepth 100000 in
theorem quartermasterref03_Decode.calls (k : Nat) (P0_ : Nat → Prop) (A0 : Option Addr) (c0 : Nat) (l0 : List (List Int)) (a1 : Int) (r1 : List (List Int)) (r2 : Int) (w : World) (hs0 : Kd.V (Kd.slice 5 (Kd.int .u8)) 43 w w.heap.size (fun k_ => P0_ k_) (.slice A0 l0.length c0) l0) (h : quartermasterref03_Decode.f k l0 a1 = some (r1, r2)) :
    Calls Try.prog 56 #[.slice A0 l0.length c0, .int .i64 a1] w fun e w' => ∃ v0_ : Value, e = .returned (.tuple #[v0_, .int .i64 r2]) ∧ Kd.N (Kd.slice 5 (Kd.int .u8)) 43 w' w.heap.size (fun k_ => (P0_ k_ ∨ w.heap.size ≤ k_)) v0_ r1 ∧ Below w.heap.size w w' := by
  have HO0 := Aside0.mk (show Kd.V (Kd.slice 5 (Kd.int .u8)) 43 w w.heap.size (fun k_ => (P0_ k_ ∨ w.heap.size ≤ k_)) (.slice A0 l0.length c0) l0 from Kd.V_mono hs0 (fun k_ hk => .inl hk))
  have HB := Aside0.mk (Below.refl w.heap.size w)
  have H : ((quartermasterref03_Rows.f k a1 (wrap64 ((l0.length : Int) - a1))).bind fun bt101 => (if bt101.2 = 0 then (quartermasterref03_Decode.l0 k l0 a1 bt101.1 0 ([] : List (List Int)) ([] : List (List Int)) 0 0) else (some (([] : List (List Int)), 1)))) = some (r1, r2) := h
  clear h
  replace H := Option.bind_eq_some_iff.mp H
  obtain ⟨⟨t101, t102⟩, A30, H⟩ := H
  replace H : (if t102 = 0 then (quartermasterref03_Decode.l0 k l0 a1 t101 0 ([] : List (List Int)) ([] : List (List Int)) 0 0) else (some (([] : List (List Int)), 1))) = some (r1, r2) := H
  have A3 := Aside0.mk A30
  clear A30
  by_cases c4 : t102 = 0
  · rw [if_pos c4] at H
    have c4b0 : (t102 == 0) = true := beq_iff_eq.mpr c4
    have c4b1 : (t102 != 0) = false := bne_eq_false_iff_eq.mpr c4
    clear c4
    have H' := Aside0.mk H
    clear H
    go_enter Try.func56, Try.ntmps56
    go_wp2_with (first | ((with_reducible refine gate_callee (f := 54) rfl ?_); refine goesL_ (some 28) rfl rfl Try.func54 (by kernel_rfl) rfl #[.int .i64 a1, .int .i64 (wrap64 ((l0.length : Int) - a1))] rfl (by (try simp only [List.map_toArray, List.map_cons, List.map_nil]); first | done | rfl | (simp only [List.length_drop, List.length_take]; rfl)) ?_; (with_reducible refine (quartermasterref03_Rows.calls k a1 (wrap64 ((l0.length : Int) - a1)) t101 t102 _ A3.out).mono ?_); rintro e w5 ⟨v103, rfl, ho0, hb⟩; refine ⟨_, rfl, ?_⟩; have n0_ := Aside0.mk (Kd.V_elder' (by (with_reducible repeat (first | apply Kd.V_alloc | apply Kd.V_drewN | apply Kd.V_drew)); exact HO0.out) (by first | exact Kd.N_base ho0 | exact Kd.N_base (Kd.S_N ho0)) hb); have n1_ := Aside0.mk (Kd.N_lower (Kd.N_mono (ok' := fun k_ => (P0_ k_ ∨ w.heap.size ≤ k_)) (Kd.S_N (Kd.S_bound ho0)) (fun k_ hk_ => (.inr (Nat.le_trans (below_size (by repeat (first | (with_reducible first | exact HB.out | apply below_alloc | apply pw_below_drewN | apply below_drew1) | exact HB.out))) hk_.2.1)))) (below_size (by repeat (first | (with_reducible first | exact HB.out | apply below_alloc | apply pw_below_drewN | apply below_drew1) | exact HB.out)))); have n2_ := Aside0.mk (below_step (by repeat (first | (with_reducible first | exact HB.out | apply below_alloc | apply pw_below_drewN | apply below_drew1) | exact HB.out)) hb); clear HO0; clear HB; have HO0 := n0_; have HO104 := n1_; have HB := n2_; clear n0_ n1_ n2_; (try clear hb); (try clear hb2); (try clear hk); (try clear hi); (try clear ho0)))
    go_loopg [8, 9, 10, 11, 12] k (fun kq v8 v9 v10 v11 v12 w' => ∃ (x8_1 : Int) (x9_1 : List (List Int)) (x10_1 : List (List Int)) (x11_1 : Int) (x12_1 : Int), v8 = .int .i64 x8_1 ∧ v11 = .int .i64 x11_1 ∧ v12 = .int .i64 x12_1 ∧ Aside0 (quartermasterref03_Decode.l0 kq l0 a1 t101 x8_1 x9_1 x10_1 x11_1 x12_1 = some (r1, r2)) ∧ Aside0 (kq ≤ k) ∧ Aside0 (Kd.V (Kd.slice 5 (Kd.int .u8)) 43 w' w.heap.size (fun k_ => (P0_ k_ ∨ w.heap.size ≤ k_) ∧ some k_ ≠ (v103 : Value).ownBlock ∧ some k_ ≠ (v9 : Value).ownBlock ∧ some k_ ≠ (v10 : Value).ownBlock) (.slice A0 l0.length c0) l0) ∧ Aside0 (Kd.N (Kd.slice 5 (Kd.int .u8)) 43 w' w.heap.size (fun k_ => (P0_ k_ ∨ w.heap.size ≤ k_) ∧ some k_ ≠ (v9 : Value).ownBlock ∧ some k_ ≠ (v10 : Value).ownBlock) v103 t101) ∧ Aside0 (Kd.N (Kd.slice 5 (Kd.int .u8)) 43 w' w.heap.size (fun k_ => (P0_ k_ ∨ w.heap.size ≤ k_) ∧ some k_ ≠ (v103 : Value).ownBlock ∧ some k_ ≠ (v10 : Value).ownBlock) v9 x9_1) ∧ Aside0 (Kd.N (Kd.slice 5 (Kd.int .u8)) 43 w' w.heap.size (fun k_ => (P0_ k_ ∨ w.heap.size ≤ k_) ∧ some k_ ≠ (v103 : Value).ownBlock ∧ some k_ ≠ (v9 : Value).ownBlock) v10 x10_1) ∧ Aside0 (Below w.heap.size w w'))
    case atStart => exact ⟨(0), (([] : List (List Int))), (([] : List (List Int))), (0), (0), (by first | rfl | (simp; done) | (simp [*]; done)), (by first | rfl | (simp; done) | (simp [*]; done)), (by first | rfl | (simp; done) | (simp [*]; done)), H', ⟨Nat.le_refl _⟩, ⟨by (with_reducible repeat (first | apply Kd.V_alloc | apply Kd.V_drewN | apply Kd.V_drew)); exact Kd.V_mono HO0.out (fun _ hk => ⟨hk.1, ⟨hk.2, ⟨(by simp [Value.ownBlock]), (by simp [Value.ownBlock])⟩⟩⟩)⟩, ⟨by (with_reducible repeat (first | apply Kd.N_alloc | apply Kd.N_drewN | apply Kd.N_drew)); exact Kd.N_mono HO104.out (fun _ hk => ⟨hk, ⟨(by simp [Value.ownBlock]), (by simp [Value.ownBlock])⟩⟩)⟩, ⟨by first | exact Kd.S_nil _ _ _ _ _ | exact Kd.N_nil _ _ _ _ _ | exact Kd.V_nil _ _ _ _ _ | exact Kd.Q_nil _ _ _ _ _ | exact Kd.R_nil _ _ _ _ _⟩, ⟨by first | exact Kd.S_nil _ _ _ _ _ | exact Kd.N_nil _ _ _ _ _ | exact Kd.V_nil _ _ _ _ _ | exact Kd.Q_nil _ _ _ _ _ | exact Kd.R_nil _ _ _ _ _⟩, ⟨by repeat (first | (with_reducible first | exact HB.out | apply below_alloc | apply pw_below_drewN | apply below_drew1) | exact HB.out)⟩⟩
    case round =>
      clear H'
      try clear p2
      try clear c4
      try clear c4b0
      try clear c4b1
      try clear c5
      obtain ⟨x8_1, x9_1, x10_1, x11_1, x12_1, rfl, rfl, rfl, HA, HK1, HO_0, HO_6, HO_9, HO_10, HB⟩ := hrel
      cases gk with
      | zero => exact absurd HA.out (by simp [quartermasterref03_Decode.l0])
      | succ k1 =>
        have H := HA.out
        clear HA
        simp only [quartermasterref03_Decode.l0] at H
        by_cases c6 : x12_1 < (l0.length : Int)
        · rw [if_pos c6] at H
          have c6b0 : decide (x12_1 < (l0.length : Int)) = true := decide_eq_true c6
          clear c6
          by_cases c7 : 0 ≤ x12_1
          · rw [if_pos c7] at H
            have c7b0 : decide (0 ≤ x12_1) = true := decide_eq_true c7
            clear c7
            by_cases c8 : ((rd_L1 l0 x12_1).length : Int) = 0
            · rw [if_pos c8] at H
              have c8b0 : (((rd_L1 l0 x12_1).length : Int) == 0) = true := beq_iff_eq.mpr c8
              have c8b1 : (((rd_L1 l0 x12_1).length : Int) != 0) = false := bne_eq_false_iff_eq.mpr c8
              clear c8
              have H' := Aside0.mk H
              clear H
              have p105 : 0 ≤ (x12_1 : Int) := of_decide_eq_true (by first | (with_reducible assumption) | assumption)
              have q105 : x12_1 < (l0.length : Int) := of_decide_eq_true (by first | (with_reducible assumption) | assumption)
              obtain ⟨ad105, A105_0, c105_0, e105, hx105_0, hl105_0, hi105_0⟩ := at_L1 (Kd.V_reads' HO_0.out).2.2 x12_1 p105 q105
              cases e105
              obtain ⟨ce105, hce105, hMe105, hcc105⟩ := Kd.V_get HO_0.out [] x12_1 p105 (by first | exact q105 | exact of_decide_eq_true (by first | (with_reducible assumption) | assumption) | (have e_ := (Kd.V_reads' HO_0.out).1; omega))
              obtain ⟨ua105_0, uc105_0, rfl, ul105_0, ge105_0⟩ := Kd.FK_slice_open hMe105
              have hv105_0 := hcc105 0 _ rfl
              rw [Nat.add_zero, show ((Kd.slice 5 (Kd.int .u8))).sz = 1 from rfl, Nat.mul_one] at hv105_0
              replace hv105_0 := Option.some.inj (hv105_0.symm.trans hx105_0)
              injection hv105_0 with hva_ hvn_ hvc_
              rw [hva_] at ge105_0
              rw [hvc_] at ul105_0
              have HL105_0 := Aside0.mk (show Kd.V (Kd.int .u8) 5 _ w.heap.size _ _ (rd_L1 l0 x12_1) from Kd.V_mk ul105_0 ge105_0)
              clear hva_ hvn_ hvc_ ge105_0 ul105_0
              clear hcc105 hce105
              have HR105_0 := Aside0.mk hi105_0
              have HC105_0 := Aside0.mk hl105_0
              clear hi105_0 hl105_0
              replace p105 := eq_true p105
              replace q105 := eq_true q105
              go_wp2
              go_roundg k1
              case measure => have := HK1.out; omega
              case rel => exact ⟨(x8_1), (x9_1), (x10_1), (x11_1), (wrap64 (x12_1 + 1)), (by first | rfl | (simp; done) | (simp [*]; done)), (by first | rfl | (simp; done) | (simp [*]; done)), (by first | rfl | (simp; done) | (simp [*]; done)), H', ⟨by have := HK1.out; omega⟩, ⟨by (with_reducible repeat (first | apply Kd.V_alloc | apply Kd.V_drewN | apply Kd.V_drew)); exact HO_0.out⟩, ⟨by (with_reducible repeat (first | apply Kd.N_alloc | apply Kd.N_drewN | apply Kd.N_drew)); exact HO_6.out⟩, ⟨by (with_reducible repeat (first | apply Kd.N_alloc | apply Kd.N_drewN | apply Kd.N_drew)); exact HO_9.out⟩, ⟨by (with_reducible repeat (first | apply Kd.N_alloc | apply Kd.N_drewN | apply Kd.N_drew)); exact HO_10.out⟩, ⟨by repeat (first | (with_reducible first | exact HB.out | apply below_alloc | apply pw_below_drewN | apply below_drew1) | exact HB.out)⟩⟩
            · rw [if_neg c8] at H
              have c8b0 : (((rd_L1 l0 x12_1).length : Int) == 0) = false := beq_eq_false_iff_ne.mpr c8
              have c8b1 : (((rd_L1 l0 x12_1).length : Int) != 0) = true := bne_iff_ne.mpr c8
              have c8b2 : ¬ ((rd_L1 l0 x12_1) = []) := fun h_ => c8 (by rw [h_]; rfl)
              have HC9 := Aside0.mk H
              clear H
              have p105 : 0 ≤ (x12_1 : Int) := of_decide_eq_true (by first | (with_reducible assumption) | assumption)
              have q105 : x12_1 < (l0.length : Int) := of_decide_eq_true (by first | (with_reducible assumption) | assumption)
              obtain ⟨ad105, A105_0, c105_0, e105, hx105_0, hl105_0, hi105_0⟩ := at_L1 (Kd.V_reads' HO_0.out).2.2 x12_1 p105 q105
              cases e105
              obtain ⟨ce105, hce105, hMe105, hcc105⟩ := Kd.V_get HO_0.out [] x12_1 p105 (by first | exact q105 | exact of_decide_eq_true (by first | (with_reducible assumption) | assumption) | (have e_ := (Kd.V_reads' HO_0.out).1; omega))
              obtain ⟨ua105_0, uc105_0, rfl, ul105_0, ge105_0⟩ := Kd.FK_slice_open hMe105
              have hv105_0 := hcc105 0 _ rfl
              rw [Nat.add_zero, show ((Kd.slice 5 (Kd.int .u8))).sz = 1 from rfl, Nat.mul_one] at hv105_0
              replace hv105_0 := Option.some.inj (hv105_0.symm.trans hx105_0)
              injection hv105_0 with hva_ hvn_ hvc_
              rw [hva_] at ge105_0
              rw [hvc_] at ul105_0
              have HL105_0 := Aside0.mk (show Kd.V (Kd.int .u8) 5 _ w.heap.size _ _ (rd_L1 l0 x12_1) from Kd.V_mk ul105_0 ge105_0)
              clear hva_ hvn_ hvc_ ge105_0 ul105_0
              clear hcc105 hce105
              have HR105_0 := Aside0.mk hi105_0
              have HC105_0 := Aside0.mk hl105_0
              clear hi105_0 hl105_0
              replace p105 := eq_true p105
              replace q105 := eq_true q105
              go_upto_region 13 with (fail)
              go_cut [56] (fun v56 wc => ∃ (kq : Nat) (x56_8 : Bool), v56 = .bool x56_8 ∧ Aside0 (quartermasterref03_Decode.j1 kq l0 a1 t101 x9_1 x10_1 x11_1 x12_1 ((rd_L1 l0 x12_1).length : Int) x56_8 = some (r1, r2)) ∧ Aside0 (kq ≤ k1) ∧ Aside0 (Kd.V (Kd.slice 5 (Kd.int .u8)) 43 wc w.heap.size (fun k_ => (P0_ k_ ∨ w.heap.size ≤ k_) ∧ some k_ ≠ (v103 : Value).ownBlock ∧ some k_ ≠ (u9 : Value).ownBlock ∧ some k_ ≠ (u10 : Value).ownBlock) (.slice (some ad105) l0.length c0) l0) ∧ Aside0 (Kd.N (Kd.slice 5 (Kd.int .u8)) 43 wc w.heap.size (fun k_ => (P0_ k_ ∨ w.heap.size ≤ k_) ∧ some k_ ≠ (u9 : Value).ownBlock ∧ some k_ ≠ (u10 : Value).ownBlock) v103 t101) ∧ Aside0 (Kd.N (Kd.slice 5 (Kd.int .u8)) 43 wc w.heap.size (fun k_ => (P0_ k_ ∨ w.heap.size ≤ k_) ∧ some k_ ≠ (v103 : Value).ownBlock ∧ some k_ ≠ (u10 : Value).ownBlock) u9 x9_1) ∧ Aside0 (Kd.N (Kd.slice 5 (Kd.int .u8)) 43 wc w.heap.size (fun k_ => (P0_ k_ ∨ w.heap.size ≤ k_) ∧ some k_ ≠ (v103 : Value).ownBlock ∧ some k_ ≠ (u9 : Value).ownBlock) u10 x10_1) ∧ Aside0 (Kd.C (Kd.int .u8) wc A105_0 (rd_L1 l0 x12_1).length (rd_L1 l0 x12_1)) ∧ Aside0 (Below w.heap.size w wc))
              case first =>
                have H := HC9.out
                clear HC9
                by_cases c10 : ((rd_L1 l0 x12_1).length : Int) > 4096
                · rw [if_pos c10] at H
                  have c10b0 : decide (4096 < ((rd_L1 l0 x12_1).length : Int)) = true := decide_eq_true c10
                  have c10b1 : decide (4096 < (rd_L1 l0 x12_1).length) = true := decide_eq_true (by omega)
                  clear c10
                  (first | rw [c10b0] | (simp only [i64_w, i32_w]; rw [c10b0]) | skip)
                  have H' := Aside0.mk H
                  clear H
                  go_wp2
                  go_meet
                  case rel => exact ⟨_, (true), (by first | rfl | (simp; done) | (simp [*]; done)), H', ⟨by have := HK1.out; first | omega | exact Nat.le_refl _⟩, ⟨by (with_reducible repeat (first | apply Kd.V_alloc | apply Kd.V_drewN | apply Kd.V_drew)); exact HO_0.out⟩, ⟨by (with_reducible repeat (first | apply Kd.N_alloc | apply Kd.N_drewN | apply Kd.N_drew)); exact HO_6.out⟩, ⟨by (with_reducible repeat (first | apply Kd.N_alloc | apply Kd.N_drewN | apply Kd.N_drew)); exact HO_9.out⟩, ⟨by (with_reducible repeat (first | apply Kd.N_alloc | apply Kd.N_drewN | apply Kd.N_drew)); exact HO_10.out⟩, ⟨by repeat (first | (with_reducible exact HR105_0.out) | (with_reducible refine Kd.C_alloc ?_ _) | (with_reducible refine Kd.C_drewN ?_ _) | (with_reducible refine Kd.C_drew ?_) | exact HR105_0.out)⟩, ⟨by repeat (first | (with_reducible first | exact HB.out | apply below_alloc | apply pw_below_drewN | apply below_drew1) | exact HB.out)⟩⟩
                · rw [if_neg c10] at H
                  have c10b0 : decide (4096 < ((rd_L1 l0 x12_1).length : Int)) = false := decide_eq_false c10
                  have c10b1 : decide (4096 < (rd_L1 l0 x12_1).length) = false := decide_eq_false (by omega)
                  clear c10
                  (first | rw [c10b0] | (simp only [i64_w, i32_w]; rw [c10b0]) | skip)
                  by_cases c11 : x8_1 > 0
                  · rw [if_pos c11] at H
                    have c11b0 : decide (0 < x8_1) = true := decide_eq_true c11
                    clear c11
                    have H' := Aside0.mk H
                    clear H
                    go_wp2
                    go_meet
                    case rel => exact ⟨_, ((((rd_L1 l0 x12_1).length : Int) != x8_1)), (by first | rfl | (simp; done) | (simp [*]; done)), H', ⟨by have := HK1.out; first | omega | exact Nat.le_refl _⟩, ⟨by (with_reducible repeat (first | apply Kd.V_alloc | apply Kd.V_drewN | apply Kd.V_drew)); exact HO_0.out⟩, ⟨by (with_reducible repeat (first | apply Kd.N_alloc | apply Kd.N_drewN | apply Kd.N_drew)); exact HO_6.out⟩, ⟨by (with_reducible repeat (first | apply Kd.N_alloc | apply Kd.N_drewN | apply Kd.N_drew)); exact HO_9.out⟩, ⟨by (with_reducible repeat (first | apply Kd.N_alloc | apply Kd.N_drewN | apply Kd.N_drew)); exact HO_10.out⟩, ⟨by repeat (first | (with_reducible exact HR105_0.out) | (with_reducible refine Kd.C_alloc ?_ _) | (with_reducible refine Kd.C_drewN ?_ _) | (with_reducible refine Kd.C_drew ?_) | exact HR105_0.out)⟩, ⟨by repeat (first | (with_reducible first | exact HB.out | apply below_alloc | apply pw_below_drewN | apply below_drew1) | exact HB.out)⟩⟩
                  · rw [if_neg c11] at H
                    have c11b0 : decide (0 < x8_1) = false := decide_eq_false c11
                    clear c11
                    have H' := Aside0.mk H
                    clear H
                    go_wp2
                    go_meet
                    case rel => exact ⟨_, (false), (by first | rfl | (simp; done) | (simp [*]; done)), H', ⟨by have := HK1.out; first | omega | exact Nat.le_refl _⟩, ⟨by (with_reducible repeat (first | apply Kd.V_alloc | apply Kd.V_drewN | apply Kd.V_drew)); exact HO_0.out⟩, ⟨by (with_reducible repeat (first | apply Kd.N_alloc | apply Kd.N_drewN | apply Kd.N_drew)); exact HO_6.out⟩, ⟨by (with_reducible repeat (first | apply Kd.N_alloc | apply Kd.N_drewN | apply Kd.N_drew)); exact HO_9.out⟩, ⟨by (with_reducible repeat (first | apply Kd.N_alloc | apply Kd.N_drewN | apply Kd.N_drew)); exact HO_10.out⟩, ⟨by repeat (first | (with_reducible exact HR105_0.out) | (with_reducible refine Kd.C_alloc ?_ _) | (with_reducible refine Kd.C_drewN ?_ _) | (with_reducible refine Kd.C_drew ?_) | exact HR105_0.out)⟩, ⟨by repeat (first | (with_reducible first | exact HB.out | apply below_alloc | apply pw_below_drewN | apply below_drew1) | exact HB.out)⟩⟩
              case rest =>
                clear HC9
                try clear c1
                try clear p1
                try clear q1
                try clear hx1
                try clear p2
                try clear c4
                try clear c4b0
                try clear c4b1
                try clear c5
                try clear c6
                try clear c6b0
                try clear p6
                try clear c7
                try clear c7b0
                try clear c8
                try clear c8b0
                try clear c8b1
                try clear c8b2
                try clear c10
                try clear c10b0
                try clear c10b1
                try clear p10
                try clear q10
                try clear hx10
                try clear c11
                try clear c11b0
                try clear hx105_0
                try clear p105
                try clear p2
                try clear q105
                obtain ⟨kq, x56_8, rfl, HA, HJ8, HO_0, HO_6, HO_9, HO_10, HR105_0, HB⟩ := hcut
                cases kq with
                | zero => exact absurd HA.out (by simp [quartermasterref03_Decode.j1])
                | succ kj8 =>
                  have H := HA.out
                  clear HA
                  simp only [quartermasterref03_Decode.j1] at H
                  by_cases c12 : x56_8 = true
                  · subst c12
                    have H1 : (some (([] : List (List Int)), 1)) = some (r1, r2) := by rw [if_pos rfl] at H; exact H
                    clear H
                    have H := H1
                    clear H1
                    simp only [Option.some.injEq, Prod.mk.injEq] at H
                    obtain ⟨rfl, rfl⟩ := H
                    go_wp2
                    go_ret2
                    exact ⟨_, by first | rfl | (simp [errW_none, errW_some] <;> rfl) | (simp [*, errW_none, errW_some] <;> rfl), by first | exact Kd.S_nil _ _ _ _ _ | exact Kd.N_nil _ _ _ _ _ | exact Kd.V_nil _ _ _ _ _ | exact Kd.Q_nil _ _ _ _ _ | exact Kd.R_nil _ _ _ _ _, by repeat (first | (with_reducible first | exact HB.out | apply below_alloc | apply pw_below_drewN | apply below_drew1) | exact HB.out)⟩
                  · replace c12 := Bool.eq_false_iff.mpr c12
                    subst c12
                    have H1 : (if (x9_1.length : Int) < a1 then (if 0 ≤ x12_1 then (if x12_1 < (t101.length : Int) then (if x9_1.length < 5864062014805 then (if x12_1 < (l0.length : Int) then (if x10_1.length < 5864062014805 then (quartermasterref03_Decode.l0 kj8 l0 a1 t101 ((rd_L1 l0 x12_1).length : Int) (x9_1 ++ [rd_L1 t101 x12_1]) (x10_1 ++ [rd_L1 l0 x12_1]) (wrap64 (x11_1 + 1)) (wrap64 (x12_1 + 1))) else (none)) else (none)) else (none)) else (none)) else (none)) else (quartermasterref03_Decode.l0 kj8 l0 a1 t101 ((rd_L1 l0 x12_1).length : Int) x9_1 x10_1 (wrap64 (x11_1 + 1)) (wrap64 (x12_1 + 1)))) = some (r1, r2) := by rw [if_neg (show ¬ (false = true) by decide)] at H; exact H
                    clear H
                    have H := H1
                    clear H1
                    by_cases c13 : (x9_1.length : Int) < a1
                    · rw [if_pos c13] at H
                      have c13b0 : decide ((x9_1.length : Int) < a1) = true := decide_eq_true c13
                      clear c13
                      by_cases c14 : 0 ≤ x12_1
                      · rw [if_pos c14] at H
                        have c14b0 : decide (0 ≤ x12_1) = true := decide_eq_true c14
                        clear c14
                        by_cases c15 : x12_1 < (t101.length : Int)
                        · rw [if_pos c15] at H
                          have c15b0 : decide (x12_1 < (t101.length : Int)) = true := decide_eq_true c15
                          clear c15
                          by_cases c16 : x9_1.length < 5864062014805
                          · rw [if_pos c16] at H
                            have LMc16 := Aside0.mk c16
                            clear c16
                            obtain ⟨y107, hy107⟩ : ∃ y_ : List (List Int), y_ = (x9_1 ++ [rd_L1 t101 x12_1]) := ⟨_, rfl⟩
                            replace H : (if x12_1 < (l0.length : Int) then (if x10_1.length < 5864062014805 then (quartermasterref03_Decode.l0 kj8 l0 a1 t101 ((rd_L1 l0 x12_1).length : Int) y107 (x10_1 ++ [rd_L1 l0 x12_1]) (wrap64 (x11_1 + 1)) (wrap64 (x12_1 + 1))) else (none)) else (none)) = some (r1, r2) := by first | (rw [hy107]; with_reducible exact H) | (have H2_ := (Option.bind_some _ _).symm.trans H; rw [hy107]; with_reducible exact H2_) | (have H2_ := (Option.bind_some _ _).symm.trans H; with_reducible exact H2_) | with_reducible exact H | (rw [hy107]; exact H) | exact H
                            have Ny107 := Aside0.mk hy107
                            clear hy107
                            by_cases c17 : x12_1 < (l0.length : Int)
                            · rw [if_pos c17] at H
                              have c17b0 : decide (x12_1 < (l0.length : Int)) = true := decide_eq_true c17
                              clear c17
                              by_cases c18 : x10_1.length < 5864062014805
                              · rw [if_pos c18] at H
                                have LMc18 := Aside0.mk c18
                                clear c18
                                obtain ⟨y111, hy111⟩ : ∃ y_ : List (List Int), y_ = (x10_1 ++ [rd_L1 l0 x12_1]) := ⟨_, rfl⟩
                                replace H : (quartermasterref03_Decode.l0 kj8 l0 a1 t101 ((rd_L1 l0 x12_1).length : Int) y107 y111 (wrap64 (x11_1 + 1)) (wrap64 (x12_1 + 1))) = some (r1, r2) := by first | (rw [hy111]; with_reducible exact H) | (have H2_ := (Option.bind_some _ _).symm.trans H; rw [hy111]; with_reducible exact H2_) | (have H2_ := (Option.bind_some _ _).symm.trans H; with_reducible exact H2_) | with_reducible exact H | (rw [hy111]; exact H) | exact H
                                have Ny111 := Aside0.mk hy111
                                clear hy111
                                have H' := Aside0.mk H
                                clear H
                                obtain ⟨Ao19, co19, eo19⟩ := Kd.N_slice HO_9.out
                                subst eo19
                                obtain ⟨Ao20, co20, eo20⟩ := Kd.N_slice HO_6.out
                                subst eo20
                                have p106 : 0 ≤ (x12_1 : Int) := of_decide_eq_true (by first | (with_reducible assumption) | assumption)
                                have q106 : x12_1 < (t101.length : Int) := of_decide_eq_true (by first | (with_reducible assumption) | assumption)
                                obtain ⟨ad106, A106_0, c106_0, e106, hx106_0, hl106_0, hi106_0⟩ := at_L1 (Kd.N_reads' HO_6.out).2.2 x12_1 p106 q106
                                cases e106
                                obtain ⟨ce106, hce106, hMe106, hcc106⟩ := Kd.N_get HO_6.out [] x12_1 p106 (by first | exact q106 | exact of_decide_eq_true (by first | (with_reducible assumption) | assumption) | (have e_ := (Kd.N_reads' HO_6.out).1; omega))
                                obtain ⟨ua106_0, uc106_0, rfl, ul106_0, ge106_0⟩ := Kd.FK_slice_open hMe106
                                have hv106_0 := hcc106 0 _ rfl
                                rw [Nat.add_zero, show ((Kd.slice 5 (Kd.int .u8))).sz = 1 from rfl, Nat.mul_one] at hv106_0
                                replace hv106_0 := Option.some.inj (hv106_0.symm.trans hx106_0)
                                injection hv106_0 with hva_ hvn_ hvc_
                                rw [hva_] at ge106_0
                                rw [hvc_] at ul106_0
                                have HL106_0 := Aside0.mk (show Kd.V (Kd.int .u8) 5 _ w.heap.size _ _ (rd_L1 t101 x12_1) from Kd.V_mk ul106_0 ge106_0)
                                clear hva_ hvn_ hvc_ ge106_0 ul106_0
                                clear hcc106 hce106
                                have HR106_0 := Aside0.mk hi106_0
                                have HC106_0 := Aside0.mk hl106_0
                                clear hi106_0 hl106_0
                                replace p106 := eq_true p106
                                replace q106 := eq_true q106
                                go_wp2_with (first | ((with_reducible refine gate_builtin (b := .append) (xs := #[.tmp 64, .tmp 69]) rfl ?_); at_builtin; refine Kd.N_append (Kd.slice 5 (Kd.int .u8)) (w0 := w) w.heap.size rfl (.tmp 64) (.tmp 69) 42 43 (.slice none 0 0) 24 rfl Try.underlying42 info43 rfl (by decide) (by omega) (.slice Ao19 x9_1.length co19) x9_1 (rd_L1 t101 x12_1) [.slice A106_0 (rd_L1 t101 x12_1).length c106_0] (fun k_ => (P0_ k_ ∨ w.heap.size ≤ k_) ∧ some k_ ≠ (.slice (some ad106) t101.length co20 : Value).ownBlock ∧ some k_ ≠ (u10 : Value).ownBlock) (fun k_ => ((fun k_ => (P0_ k_ ∨ w.heap.size ≤ k_) ∧ some k_ ≠ (.slice (some ad106) t101.length co20 : Value).ownBlock ∧ some k_ ≠ (u10 : Value).ownBlock)) k_ ∧ some k_ ≠ (.slice Ao19 x9_1.length co19 : Value).ownBlock) rfl rfl ?aP (fun _ hk => hk) ?aF ?aO ?aB ?aS ?aL ?_; (case aP => exact (Kd.FK_slice_mk (Kd.V_reads' (Kd.V_mono (ok' := (fun k_ => ((fun k_ => (P0_ k_ ∨ w.heap.size ≤ k_) ∧ some k_ ≠ (.slice (some ad106) t101.length co20 : Value).ownBlock ∧ some k_ ≠ (u10 : Value).ownBlock)) k_ ∧ some k_ ≠ (.slice Ao19 x9_1.length co19 : Value).ownBlock)) (HL106_0.out) (fun k_ hk => ⟨⟨hk.1.1, ⟨hk.2, hk.1.2.2⟩⟩, hk.1.2.1⟩))).2.1 (Kd.V_F (Kd.V_mono (ok' := (fun k_ => ((fun k_ => (P0_ k_ ∨ w.heap.size ≤ k_) ∧ some k_ ≠ (.slice (some ad106) t101.length co20 : Value).ownBlock ∧ some k_ ≠ (u10 : Value).ownBlock)) k_ ∧ some k_ ≠ (.slice Ao19 x9_1.length co19 : Value).ownBlock)) (HL106_0.out) (fun k_ hk => ⟨⟨hk.1.1, ⟨hk.2, hk.1.2.2⟩⟩, hk.1.2.1⟩))))); (case aB => exact (by repeat (first | (with_reducible first | exact HB.out | apply below_alloc | apply pw_below_drewN | apply below_drew1) | exact HB.out))); (case aF => exact (fun k_ hk => ⟨(.inr (Nat.le_trans (below_size (by repeat (first | (with_reducible first | exact HB.out | apply below_alloc | apply pw_below_drewN | apply below_drew1) | exact HB.out))) hk)), Kd.fresh' (Kd.N_lt (by (with_reducible repeat (first | apply Kd.N_alloc | apply Kd.N_drewN | apply Kd.N_drew)); exact HO_6.out)) k_ hk, Kd.fresh' (Kd.N_lt (by (with_reducible repeat (first | apply Kd.N_alloc | apply Kd.N_drewN | apply Kd.N_drew)); exact HO_10.out)) k_ hk⟩)); (case aO => exact (by (with_reducible repeat (first | apply Kd.N_alloc | apply Kd.N_drewN | apply Kd.N_drew)); exact HO_9.out)); (case aS => exact (below_size (by repeat (first | (with_reducible first | exact HB.out | apply below_alloc | apply pw_below_drewN | apply below_drew1) | exact HB.out)))); (case aL => have := LMc16.out; omega); intro v108 w21 ho hb hg hat; rw [← Ny107.out] at ho; have n0_ := Aside0.mk (Kd.V_afterv (ok := (fun k_ => (P0_ k_ ∨ w.heap.size ≤ k_) ∧ some k_ ≠ (.slice (some ad106) t101.length co20 : Value).ownBlock ∧ some k_ ≠ (u10 : Value).ownBlock)) (by (with_reducible repeat (first | apply Kd.V_alloc | apply Kd.V_drewN | apply Kd.V_drew)); exact Kd.V_mono HO_0.out (fun _ hk => ⟨⟨hk.1, ⟨hk.2.1, hk.2.2.2⟩⟩, hk.2.2.1⟩)) hg hat); have n1_ := Aside0.mk (Kd.N_afterv (ok := (fun k_ => (P0_ k_ ∨ w.heap.size ≤ k_) ∧ some k_ ≠ (u10 : Value).ownBlock)) (by (with_reducible repeat (first | apply Kd.N_alloc | apply Kd.N_drewN | apply Kd.N_drew)); exact Kd.N_mono HO_6.out (fun _ hk => ⟨⟨hk.1, hk.2.2⟩, hk.2.1⟩)) hg hat); have n2_ := Aside0.mk (Kd.N_afterv (ok := (fun k_ => (P0_ k_ ∨ w.heap.size ≤ k_) ∧ some k_ ≠ (.slice (some ad106) t101.length co20 : Value).ownBlock)) (by (with_reducible repeat (first | apply Kd.N_alloc | apply Kd.N_drewN | apply Kd.N_drew)); exact Kd.N_mono HO_10.out (fun _ hk => ⟨⟨hk.1, hk.2.1⟩, hk.2.2⟩)) hg hat); have n3_ := Aside0.mk (Kd.V_afterv (ok := (fun k_ => (P0_ k_ ∨ w.heap.size ≤ k_) ∧ some k_ ≠ (.slice (some ad106) t101.length co20 : Value).ownBlock ∧ some k_ ≠ (u10 : Value).ownBlock)) (by (with_reducible repeat (first | apply Kd.V_alloc | apply Kd.V_drewN | apply Kd.V_drew)); exact Kd.V_mono HL106_0.out (fun _ hk => ⟨⟨hk.1.1, ⟨hk.2, hk.1.2.2⟩⟩, hk.1.2.1⟩)) hg hat); have n4_ := Aside0.mk (hb); have n5_ := Aside0.mk (ho); clear HO_0; clear HO_6; clear HO_10; clear HL106_0; clear HB; clear HO_9; have HO_0 := n0_; have HO_6 := n1_; have HO_10 := n2_; have HL106_0 := n3_; have HB := n4_; have HO109 := n5_; clear n0_ n1_ n2_ n3_ n4_ n5_; clear ho hb hg hat; have p110 : 0 ≤ (x12_1 : Int) := of_decide_eq_true (by first | (with_reducible assumption) | assumption); have q110 : x12_1 < (l0.length : Int) := of_decide_eq_true (by first | (with_reducible assumption) | assumption); obtain ⟨ad110, A110_0, c110_0, e110, hx110_0, hl110_0, hi110_0⟩ := at_L1 (Kd.V_reads' HO_0.out).2.2 x12_1 p110 q110; obtain rfl : ad105 = ad110 := (by injection e110); obtain ⟨ce110, hce110, hMe110, hcc110⟩ := Kd.V_get HO_0.out [] x12_1 p110 (by first | exact q110 | exact of_decide_eq_true (by first | (with_reducible assumption) | assumption) | (have e_ := (Kd.V_reads' HO_0.out).1; omega)); obtain ⟨ua110_0, uc110_0, rfl, ul110_0, ge110_0⟩ := Kd.FK_slice_open hMe110; have hv110_0 := hcc110 0 _ rfl; rw [Nat.add_zero, show ((Kd.slice 5 (Kd.int .u8))).sz = 1 from rfl, Nat.mul_one] at hv110_0; replace hv110_0 := Option.some.inj (hv110_0.symm.trans hx110_0); injection hv110_0 with hva_ hvn_ hvc_; rw [hva_] at ge110_0; rw [hvc_] at ul110_0; have HL110_0 := Aside0.mk (show Kd.V (Kd.int .u8) 5 _ w.heap.size _ _ (rd_L1 l0 x12_1) from Kd.V_mk ul110_0 ge110_0); clear hva_ hvn_ hvc_ ge110_0 ul110_0; clear hcc110 hce110; have HR110_0 := Aside0.mk hi110_0; have HC110_0 := Aside0.mk hl110_0; clear hi110_0 hl110_0; replace p110 := eq_true p110; replace q110 := eq_true q110) | ((with_reducible refine gate_builtin (b := .append) (xs := #[.tmp 71, .tmp 76]) rfl ?_); at_builtin; refine Kd.N_append (Kd.slice 5 (Kd.int .u8)) (w0 := w) w.heap.size rfl (.tmp 71) (.tmp 76) 42 43 (.slice none 0 0) 24 rfl Try.underlying42 info43 rfl (by decide) (by omega) u10 x10_1 (rd_L1 l0 x12_1) [.slice A110_0 (rd_L1 l0 x12_1).length c110_0] (fun k_ => (P0_ k_ ∨ w.heap.size ≤ k_) ∧ some k_ ≠ (.slice (some ad106) t101.length co20 : Value).ownBlock ∧ some k_ ≠ (v108 : Value).ownBlock) (fun k_ => ((fun k_ => (P0_ k_ ∨ w.heap.size ≤ k_) ∧ some k_ ≠ (.slice (some ad106) t101.length co20 : Value).ownBlock ∧ some k_ ≠ (v108 : Value).ownBlock)) k_ ∧ some k_ ≠ (u10 : Value).ownBlock) rfl rfl ?aP (fun _ hk => hk) ?aF ?aO ?aB ?aS ?aL ?_; (case aP => exact (Kd.FK_slice_mk (Kd.V_reads' (Kd.V_mono (ok' := (fun k_ => ((fun k_ => (P0_ k_ ∨ w.heap.size ≤ k_) ∧ some k_ ≠ (.slice (some ad106) t101.length co20 : Value).ownBlock ∧ some k_ ≠ (v108 : Value).ownBlock)) k_ ∧ some k_ ≠ (u10 : Value).ownBlock)) (HL110_0.out) (fun k_ hk => ⟨⟨hk.1.1, ⟨hk.1.2.1, hk.2⟩⟩, hk.1.2.2⟩))).2.1 (Kd.V_F (Kd.V_mono (ok' := (fun k_ => ((fun k_ => (P0_ k_ ∨ w.heap.size ≤ k_) ∧ some k_ ≠ (.slice (some ad106) t101.length co20 : Value).ownBlock ∧ some k_ ≠ (v108 : Value).ownBlock)) k_ ∧ some k_ ≠ (u10 : Value).ownBlock)) (HL110_0.out) (fun k_ hk => ⟨⟨hk.1.1, ⟨hk.1.2.1, hk.2⟩⟩, hk.1.2.2⟩))))); (case aB => exact (by repeat (first | (with_reducible first | exact HB.out | apply below_alloc | apply pw_below_drewN | apply below_drew1) | exact HB.out))); (case aF => exact (fun k_ hk => ⟨(.inr (Nat.le_trans (below_size (by repeat (first | (with_reducible first | exact HB.out | apply below_alloc | apply pw_below_drewN | apply below_drew1) | exact HB.out))) hk)), Kd.fresh' (Kd.N_lt (by (with_reducible repeat (first | apply Kd.N_alloc | apply Kd.N_drewN | apply Kd.N_drew)); exact HO_6.out)) k_ hk, Kd.fresh' (Kd.N_lt (by (with_reducible repeat (first | apply Kd.N_alloc | apply Kd.N_drewN | apply Kd.N_drew)); exact HO109.out)) k_ hk⟩)); (case aO => exact (by (with_reducible repeat (first | apply Kd.N_alloc | apply Kd.N_drewN | apply Kd.N_drew)); exact Kd.N_mono HO_10.out (fun _ hk => ⟨hk.1.1, ⟨hk.1.2, hk.2⟩⟩))); (case aS => exact (below_size (by repeat (first | (with_reducible first | exact HB.out | apply below_alloc | apply pw_below_drewN | apply below_drew1) | exact HB.out)))); (case aL => have := LMc18.out; omega); intro v112 w22 ho hb hg hat; rw [← Ny111.out] at ho; have n0_ := Aside0.mk (Kd.V_afterv (ok := (fun k_ => (P0_ k_ ∨ w.heap.size ≤ k_) ∧ some k_ ≠ (.slice (some ad106) t101.length co20 : Value).ownBlock ∧ some k_ ≠ (v108 : Value).ownBlock)) (by (with_reducible repeat (first | apply Kd.V_alloc | apply Kd.V_drewN | apply Kd.V_drew)); exact Kd.V_mono HO_0.out (fun _ hk => ⟨⟨hk.1.1, ⟨hk.1.2.1, hk.2⟩⟩, hk.1.2.2⟩)) hg hat); have n1_ := Aside0.mk (Kd.N_afterv (ok := (fun k_ => (P0_ k_ ∨ w.heap.size ≤ k_) ∧ some k_ ≠ (v108 : Value).ownBlock)) (by (with_reducible repeat (first | apply Kd.N_alloc | apply Kd.N_drewN | apply Kd.N_drew)); exact Kd.N_mono HO_6.out (fun _ hk => ⟨⟨hk.1.1, hk.2⟩, hk.1.2⟩)) hg hat); have n2_ := Aside0.mk (Kd.V_afterv (ok := (fun k_ => (P0_ k_ ∨ w.heap.size ≤ k_) ∧ some k_ ≠ (.slice (some ad106) t101.length co20 : Value).ownBlock ∧ some k_ ≠ (v108 : Value).ownBlock)) (by (with_reducible repeat (first | apply Kd.V_alloc | apply Kd.V_drewN | apply Kd.V_drew)); exact Kd.V_mono HL106_0.out (fun _ hk => ⟨⟨hk.1.1, ⟨hk.1.2.1, hk.2⟩⟩, hk.1.2.2⟩)) hg hat); have n3_ := Aside0.mk (Kd.N_afterv (ok := (fun k_ => (P0_ k_ ∨ w.heap.size ≤ k_) ∧ some k_ ≠ (.slice (some ad106) t101.length co20 : Value).ownBlock)) (by (with_reducible repeat (first | apply Kd.N_alloc | apply Kd.N_drewN | apply Kd.N_drew)); exact Kd.N_mono HO109.out (fun _ hk => ⟨⟨hk.1, hk.2.1⟩, hk.2.2⟩)) hg hat); have n4_ := Aside0.mk (Kd.V_afterv (ok := (fun k_ => (P0_ k_ ∨ w.heap.size ≤ k_) ∧ some k_ ≠ (.slice (some ad106) t101.length co20 : Value).ownBlock ∧ some k_ ≠ (v108 : Value).ownBlock)) (by (with_reducible repeat (first | apply Kd.V_alloc | apply Kd.V_drewN | apply Kd.V_drew)); exact Kd.V_mono HL110_0.out (fun _ hk => ⟨⟨hk.1.1, ⟨hk.1.2.1, hk.2⟩⟩, hk.1.2.2⟩)) hg hat); have n5_ := Aside0.mk (hb); have n6_ := Aside0.mk (ho); clear HO_0; clear HO_6; clear HL106_0; clear HO109; clear HL110_0; clear HB; clear HO_10; have HO_0 := n0_; have HO_6 := n1_; have HL106_0 := n2_; have HO109 := n3_; have HL110_0 := n4_; have HB := n5_; have HO113 := n6_; clear n0_ n1_ n2_ n3_ n4_ n5_ n6_; clear ho hb hg hat))
                                go_roundg kj8
                                case measure => have := HK1.out; have := HJ8.out; omega
                                case rel => exact ⟨(((rd_L1 l0 x12_1).length : Int)), (y107), (y111), (wrap64 (x11_1 + 1)), (wrap64 (x12_1 + 1)), (by first | rfl | (simp; done) | (simp [*]; done)), (by first | rfl | (simp; done) | (simp [*]; done)), (by first | rfl | (simp; done) | (simp [*]; done)), H', ⟨by have := HK1.out; have := HJ8.out; omega⟩, ⟨by (with_reducible repeat (first | apply Kd.V_alloc | apply Kd.V_drewN | apply Kd.V_drew)); exact Kd.V_mono HO_0.out (fun _ hk => ⟨hk.1.1, ⟨hk.1.2.1, ⟨hk.1.2.2, hk.2⟩⟩⟩)⟩, ⟨by (with_reducible repeat (first | apply Kd.N_alloc | apply Kd.N_drewN | apply Kd.N_drew)); exact Kd.N_mono HO_6.out (fun _ hk => ⟨hk.1.1, ⟨hk.1.2, hk.2⟩⟩)⟩, ⟨by (with_reducible repeat (first | apply Kd.N_alloc | apply Kd.N_drewN | apply Kd.N_drew)); exact Kd.N_mono HO109.out (fun _ hk => ⟨hk.1.1, ⟨hk.1.2, hk.2⟩⟩)⟩, ⟨by (with_reducible repeat (first | apply Kd.N_alloc | apply Kd.N_drewN | apply Kd.N_drew)); exact HO113.out⟩, ⟨by repeat (first | (with_reducible first | exact HB.out | apply below_alloc | apply pw_below_drewN | apply below_drew1) | exact HB.out)⟩⟩
                              · rw [if_neg c18] at H
                                exact absurd H (by simp)
                            · rw [if_neg c17] at H
                              exact absurd H (by simp)
                          · rw [if_neg c16] at H
                            exact absurd H (by simp)
                        · rw [if_neg c15] at H
                          exact absurd H (by simp)
                      · rw [if_neg c14] at H
                        exact absurd H (by simp)
                    · rw [if_neg c13] at H
                      have c13b0 : decide ((x9_1.length : Int) < a1) = false := decide_eq_false c13
                      clear c13
                      have H' := Aside0.mk H
                      clear H
                      obtain ⟨Ao23, co23, eo23⟩ := Kd.N_slice HO_9.out
                      subst eo23
                      go_wp2
                      go_roundg kj8
                      case measure => have := HK1.out; have := HJ8.out; omega
                      case rel => exact ⟨(((rd_L1 l0 x12_1).length : Int)), (x9_1), (x10_1), (wrap64 (x11_1 + 1)), (wrap64 (x12_1 + 1)), (by first | rfl | (simp; done) | (simp [*]; done)), (by first | rfl | (simp; done) | (simp [*]; done)), (by first | rfl | (simp; done) | (simp [*]; done)), H', ⟨by have := HK1.out; have := HJ8.out; omega⟩, ⟨by (with_reducible repeat (first | apply Kd.V_alloc | apply Kd.V_drewN | apply Kd.V_drew)); exact HO_0.out⟩, ⟨by (with_reducible repeat (first | apply Kd.N_alloc | apply Kd.N_drewN | apply Kd.N_drew)); exact HO_6.out⟩, ⟨by (with_reducible repeat (first | apply Kd.N_alloc | apply Kd.N_drewN | apply Kd.N_drew)); exact HO_9.out⟩, ⟨by (with_reducible repeat (first | apply Kd.N_alloc | apply Kd.N_drewN | apply Kd.N_drew)); exact HO_10.out⟩, ⟨by repeat (first | (with_reducible first | exact HB.out | apply below_alloc | apply pw_below_drewN | apply below_drew1) | exact HB.out)⟩⟩
          · rw [if_neg c7] at H
            exact absurd H (by simp)
        · rw [if_neg c6] at H
          have c6b0 : decide (x12_1 < (l0.length : Int)) = false := decide_eq_false c6
          clear c6
          by_cases c24 : x11_1 < a1
          · rw [if_pos c24] at H
            have c24b0 : decide (x11_1 < a1) = true := decide_eq_true c24
            clear c24
            simp only [Option.some.injEq, Prod.mk.injEq] at H
            obtain ⟨rfl, rfl⟩ := H
            go_wp2
            go_ret2
            exact ⟨_, by first | rfl | (simp [errW_none, errW_some] <;> rfl) | (simp [*, errW_none, errW_some] <;> rfl), by first | exact Kd.S_nil _ _ _ _ _ | exact Kd.N_nil _ _ _ _ _ | exact Kd.V_nil _ _ _ _ _ | exact Kd.Q_nil _ _ _ _ _ | exact Kd.R_nil _ _ _ _ _, by repeat (first | (with_reducible first | exact HB.out | apply below_alloc | apply pw_below_drewN | apply below_drew1) | exact HB.out)⟩
          · rw [if_neg c24] at H
            have c24b0 : decide (x11_1 < a1) = false := decide_eq_false c24
            clear c24
            replace H := Option.bind_eq_some_iff.mp H
            obtain ⟨t114, A250, H⟩ := H
            replace H : ((quartermasterref03_Encode.f k1 t114 (wrap64 ((l0.length : Int) - a1))).bind fun bt117 => (if t114.length + bt117.1.length < 5864062014805 then (some ((t114 ++ bt117.1), 0)) else (none))) = some (r1, r2) := H
            have A25 := Aside0.mk A250
            clear A250
            replace H := Option.bind_eq_some_iff.mp H
            obtain ⟨⟨t117, t118⟩, A260, H⟩ := H
            replace H : (if t114.length + t117.length < 5864062014805 then (some ((t114 ++ t117), 0)) else (none)) = some (r1, r2) := H
            have A26 := Aside0.mk A260
            clear A260
            by_cases c27 : t114.length + t117.length < 5864062014805
            · rw [if_pos c27] at H
              have LMc27 := Aside0.mk c27
              clear c27
              obtain ⟨y121, hy121⟩ : ∃ y_ : List (List Int), y_ = (t114 ++ t117) := ⟨_, rfl⟩
              replace H : (some (y121, 0)) = some (r1, r2) := by first | (rw [hy121]; with_reducible exact H) | (have H2_ := (Option.bind_some _ _).symm.trans H; rw [hy121]; with_reducible exact H2_) | (have H2_ := (Option.bind_some _ _).symm.trans H; with_reducible exact H2_) | with_reducible exact H | (rw [hy121]; exact H) | exact H
              have Ny121 := Aside0.mk hy121
              clear hy121
              simp only [Option.some.injEq, Prod.mk.injEq] at H
              obtain ⟨rfl, rfl⟩ := H
              obtain ⟨Ao28, co28, eo28⟩ := Kd.N_slice HO_9.out
              subst eo28
              obtain ⟨Ao29, co29, eo29⟩ := Kd.N_slice HO_10.out
              subst eo29
              obtain ⟨wB, hwB⟩ : ∃ x, x = wr := ⟨_, rfl⟩
              subst hwB
              obtain ⟨kA, hkA⟩ : ∃ x, x = k1 := ⟨_, rfl⟩
              subst hkA
              have HBA := Aside0.mk HB.out
              have HR0 := Aside0.mk (Kd.N_reads' HO_9.out).2.2
              have HC0 := Aside0.mk (Kd.N_reads' HO_9.out).2.1
              have HR2 := Aside0.mk (Kd.N_reads' HO_10.out).2.2
              have HC2 := Aside0.mk (Kd.N_reads' HO_10.out).2.1
              clear HB HO_9 HO_10 HO_0 HO_6
              have HB := Aside0.mk (Below.refl wB.heap.size wB)
              have H : (if 0 ≤ a1 then (if (a1 : Int).toNat ≤ 11728124029610 then (XE.quartermasterref03_Decode.l0 kA a1 x8_1 x9_1 x10_1 (List.replicate (a1 : Int).toNat []) 0) else (none)) else (none)) = some t114 := A25.out
              by_cases c5 : 0 ≤ a1
              · rw [if_pos c5] at H
                have c5b0 := eq_true c5
                have c5b1 : decide (0 ≤ a1) = true := decide_eq_true c5
                clear c5
                by_cases c6 : (a1 : Int).toNat ≤ 11728124029610
                · rw [if_pos c6] at H
                  have c6b0 := eq_true c6
                  have c6b1 : decide ((a1 : Int).toNat ≤ 11728124029610) = true := decide_eq_true c6
                  clear c6
                  obtain ⟨y101, hy101⟩ : ∃ y_ : List (List Int), y_ = (List.replicate (a1 : Int).toNat []) := ⟨_, rfl⟩
                  replace H : (XE.quartermasterref03_Decode.l0 kA a1 x8_1 x9_1 x10_1 y101 0) = some t114 := by first | (rw [hy101]; with_reducible exact H) | (have H2_ := (Option.bind_some _ _).symm.trans H; rw [hy101]; with_reducible exact H2_) | (have H2_ := (Option.bind_some _ _).symm.trans H; with_reducible exact H2_) | with_reducible exact H | (rw [hy101]; exact H) | exact H
                  have Ny101 := Aside0.mk hy101
                  clear hy101
                  have H' := Aside0.mk H
                  clear H
                  go_wp2_with (first | ((with_reducible refine gate_dst (N := 82) rfl ?_); refine Kd.S_make (Kd.slice 5 (Kd.int .u8)) _ 43 rfl (N := 82) rfl 42 _ _ rfl a1 rfl rfl Try.underlying42 (.slice none 0 0) 24 XE.info43 rfl (by decide) (by omega) [] (ok := fun _ => True) (okp := fun _ => True) ⟨_, rfl, Kd.R_nil _ _ _ _ _⟩ (fun _ hk => hk) trivial (of_decide_eq_true (by first | (with_reducible assumption) | assumption)) (Nat.le_trans (Nat.mul_le_mul_right _ (of_decide_eq_true (by first | (with_reducible assumption) | assumption) : a1.toNat ≤ 11728124029610)) (by omega)) (Below.refl _ _) (Nat.le_refl _) ?_; intro v102 w7 ho8 hb hg_ hnew_; clear hg_ hnew_; (first | rw [← Ny101.out] at ho8 | (simp only [Int.reduceToNat] at ho8; rw [← Ny101.out] at ho8)); have n0_ := Aside0.mk (Kd.S_lower ho8 (below_size (by repeat (first | (with_reducible first | exact HB.out | apply below_alloc | apply pw_below_drewN | apply below_drew1) | exact HB.out)))); have n1_ := Aside0.mk (below_step (by repeat (first | (with_reducible first | exact HB.out | apply below_alloc | apply pw_below_drewN | apply below_drew1) | exact HB.out)) hb); clear HB; have HO103 := n0_; have HB := n1_; clear n0_ n1_; clear hb ho8))
                  go_loopg [15] kA (fun kq v15 w' => ∃ (x14_1 : List (List Int)) (x15_1 : Int), v15 = .int .i64 x15_1 ∧ Aside0 (XE.quartermasterref03_Decode.l0 kq a1 x8_1 x9_1 x10_1 x14_1 x15_1 = some t114) ∧ Aside0 (kq ≤ kA) ∧ Aside0 (Kd.S (Kd.slice 5 (Kd.int .u8)) 43 w' wB.heap.size (fun _ => True) v102 x14_1) ∧ Aside0 (Below wB.heap.size wB w'))
                  case atStart => exact ⟨(y101), (0), (by first | rfl | (simp; done) | (simp [*]; done)), H', ⟨Nat.le_refl _⟩, ⟨by (with_reducible repeat (first | apply Kd.S_alloc | apply Kd.S_drewN | apply Kd.S_drew)); exact HO103.out⟩, ⟨by repeat (first | (with_reducible first | exact HB.out | apply below_alloc | apply pw_below_drewN | apply below_drew1) | exact HB.out)⟩⟩
                  case round =>
                    clear H'
                    try clear co29
                    try clear p2
                    try clear c5
                    try clear c5b0
                    try clear c5b1
                    try clear c6
                    try clear c6b0
                    try clear c6b1
                    obtain ⟨x14_1, x15_1, rfl, HA, HK1, HO_14, HB⟩ := hrel
                    cases gk with
                    | zero => exact absurd HA.out (by simp [XE.quartermasterref03_Decode.l0])
                    | succ k1 =>
                      have H := HA.out
                      clear HA
                      simp only [XE.quartermasterref03_Decode.l0] at H
                      by_cases c9 : x15_1 < x8_1
                      · rw [if_pos c9] at H
                        have c9b0 : decide (x15_1 < x8_1) = true := decide_eq_true c9
                        clear c9
                        have H' := Aside0.mk H
                        clear H
                        go_wp2
                        go_loopg [16, 17] k1 (fun kq v16 v17 w' => ∃ (x16_2 : List Int) (x17_2 : Int), v17 = .int .i64 x17_2 ∧ Aside0 (XE.quartermasterref03_Decode.l1 kq a1 x8_1 x9_1 x10_1 x14_1 x15_1 x16_2 x17_2 = some t114) ∧ Aside0 (kq ≤ k1) ∧ Aside0 (Kd.S (Kd.slice 5 (Kd.int .u8)) 43 w' wB.heap.size (fun k_ => some k_ ≠ (v16 : Value).ownBlock) v102 x14_1) ∧ Aside0 (Kd.R (Kd.int .u8) 5 w' wB.heap.size (fun _ => True) v16 x16_2) ∧ Aside0 (Below wB.heap.size wB w'))
                        case atStart => exact ⟨(([] : List Int)), (0), (by first | rfl | (simp; done) | (simp [*]; done)), H', ⟨Nat.le_refl _⟩, ⟨by (with_reducible repeat (first | apply Kd.S_alloc | apply Kd.S_drewN | apply Kd.S_drew)); exact Kd.S_mono HO_14.out (fun _ hk => (by simp [Value.ownBlock]))⟩, ⟨by first | exact Kd.R_nil _ _ _ _ _ | exact Kd.N_nil _ _ _ _ _ | exact Kd.V_nil _ _ _ _ _ | exact Kd.Q_nil _ _ _ _ _ | exact Kd.S_nil _ _ _ _ _⟩, ⟨by repeat (first | (with_reducible first | exact HB.out | apply below_alloc | apply pw_below_drewN | apply below_drew1) | exact HB.out)⟩⟩
                        case round =>
                          clear H'
                          try clear co29
                          try clear p2
                          try clear c5
                          try clear c5b0
                          try clear c5b1
                          try clear c6
                          try clear c6b0
                          try clear c6b1
                          try clear c9
                          try clear c9b0
                          try clear p2
                          obtain ⟨x16_2, x17_2, rfl, HA, HK2, HO_14, HO_16, HB⟩ := hrel
                          cases gk with
                          | zero => exact absurd HA.out (by simp [XE.quartermasterref03_Decode.l1])
                          | succ k2 =>
                            have H := HA.out
                            clear HA
                            simp only [XE.quartermasterref03_Decode.l1] at H
                            by_cases c10 : x17_2 < a1
                            · rw [if_pos c10] at H
                              have c10b0 : decide (x17_2 < a1) = true := decide_eq_true c10
                              clear c10
                              by_cases c11 : 0 ≤ x17_2
                              · rw [if_pos c11] at H
                                have c11b0 : decide (0 ≤ x17_2) = true := decide_eq_true c11
                                clear c11
                                by_cases c12 : x17_2 < (x10_1.length : Int)
                                · rw [if_pos c12] at H
                                  have c12b0 : decide (x17_2 < (x10_1.length : Int)) = true := decide_eq_true c12
                                  clear c12
                                  by_cases c13 : 0 ≤ x15_1
                                  · rw [if_pos c13] at H
                                    have c13b0 : decide (0 ≤ x15_1) = true := decide_eq_true c13
                                    clear c13
                                    by_cases c14 : x15_1 < ((XE.rd_L1 x10_1 x17_2).length : Int)
                                    · rw [if_pos c14] at H
                                      have c14b0 : decide (x15_1 < ((XE.rd_L1 x10_1 x17_2).length : Int)) = true := decide_eq_true c14
                                      clear c14
                                      by_cases c15 : x16_2.length < 140737488355328
                                      · rw [if_pos c15] at H
                                        have LMc15 := Aside0.mk c15
                                        clear c15
                                        obtain ⟨y106, hy106⟩ : ∃ y_ : List Int, y_ = (x16_2 ++ [rd (XE.rd_L1 x10_1 x17_2) x15_1]) := ⟨_, rfl⟩
                                        replace H : (XE.quartermasterref03_Decode.l1 k2 a1 x8_1 x9_1 x10_1 x14_1 x15_1 y106 (wrap64 (x17_2 + 1))) = some t114 := by first | (rw [hy106]; with_reducible exact H) | (have H2_ := (Option.bind_some _ _).symm.trans H; rw [hy106]; with_reducible exact H2_) | (have H2_ := (Option.bind_some _ _).symm.trans H; with_reducible exact H2_) | with_reducible exact H | (rw [hy106]; exact H) | exact H
                                        have Ny106 := Aside0.mk hy106
                                        clear hy106
                                        have H' := Aside0.mk H
                                        clear H
                                        have p104 : 0 ≤ (x17_2 : Int) := of_decide_eq_true (by first | (with_reducible assumption) | assumption)
                                        have q104 : x17_2 < (x10_1.length : Int) := of_decide_eq_true (by first | (with_reducible assumption) | assumption)
                                        obtain ⟨ad104, A104_0, c104_0, e104, hx104_0, hl104_0, hi104_0⟩ := XE.at_L1 HR2.out x17_2 p104 q104
                                        cases e104
                                        replace hx104_0 := (HB.out.cell (World.block_lt_of_cell? wB _ hx104_0)).trans hx104_0
                                        have HR104_0 := Aside0.mk hi104_0
                                        have HC104_0 := Aside0.mk hl104_0
                                        clear hi104_0 hl104_0
                                        replace p104 := eq_true p104
                                        replace q104 := eq_true q104
                                        have p105 : 0 ≤ (x15_1 : Int) := of_decide_eq_true (by first | (with_reducible assumption) | assumption)
                                        have q105 : x15_1 < ((XE.rd_L1 x10_1 x17_2).length : Int) := of_decide_eq_true (by first | (with_reducible assumption) | assumption)
                                        obtain ⟨ad105, e105, hx105_0⟩ := Kd.at_int HR104_0.out x15_1 p105 q105
                                        cases e105
                                        replace hx105_0 := (HB.out.cell (World.block_lt_of_cell? wB _ hx105_0)).trans hx105_0
                                        replace p105 := eq_true p105
                                        replace q105 := eq_true q105
                                        go_wp2_with (first | ((with_reducible refine gate_builtin (b := .append) (xs := #[.tmp 93, .tmp 101]) rfl ?_); at_builtin; refine Kd.R_append (Kd.int .u8) (w0 := wB) wB.heap.size rfl (.tmp 93) (.tmp 101) 43 5 (.int .u8 0) 1 rfl Try.underlying43 XE.info5 rfl (by decide) (by omega) u16 x16_2 (rd (XE.rd_L1 x10_1 x17_2) x15_1) [.int .u8 (rd (XE.rd_L1 x10_1 x17_2) x15_1)] (fun _ => True) (fun _ => False) rfl rfl ?aP (fun _ hk => hk.elim) ?aF ?aO ?aB ?aS ?aL ?_; (case aP => exact rfl); (case aB => exact (by repeat (first | (with_reducible first | exact HB.out | apply below_alloc | apply pw_below_drewN | apply below_drew1) | exact HB.out))); (case aF => exact (fun _ _ => trivial)); (case aO => exact (by (with_reducible repeat (first | apply Kd.R_alloc | apply Kd.R_drewN | apply Kd.R_drew)); exact HO_16.out)); (case aS => exact (below_size (by repeat (first | (with_reducible first | exact HB.out | apply below_alloc | apply pw_below_drewN | apply below_drew1) | exact HB.out)))); (case aL => have := LMc15.out; omega); intro v107 w16 ho hb hg hat; rw [← Ny106.out] at ho; have n0_ := Aside0.mk (Kd.S_after (ok := (fun _ => True)) (by (with_reducible repeat (first | apply Kd.S_alloc | apply Kd.S_drewN | apply Kd.S_drew)); exact Kd.S_mono HO_14.out (fun _ hk => ⟨trivial, hk⟩)) hg hat); have n1_ := Aside0.mk (hb); have n2_ := Aside0.mk (ho); clear HO_14; clear HB; clear HO_16; have HO_14 := n0_; have HB := n1_; have HO108 := n2_; clear n0_ n1_ n2_; clear ho hb hg hat))
                                        go_roundg k2
                                        case measure => have := HK1.out; have := HK2.out; omega
                                        case rel => exact ⟨(y106), (wrap64 (x17_2 + 1)), (by first | rfl | (simp; done) | (simp [*]; done)), H', ⟨by have := HK1.out; have := HK2.out; omega⟩, ⟨by (with_reducible repeat (first | apply Kd.S_alloc | apply Kd.S_drewN | apply Kd.S_drew)); exact Kd.S_mono HO_14.out (fun _ hk => hk.2)⟩, ⟨by (with_reducible repeat (first | apply Kd.R_alloc | apply Kd.R_drewN | apply Kd.R_drew)); exact HO108.out⟩, ⟨by repeat (first | (with_reducible first | exact HB.out | apply below_alloc | apply pw_below_drewN | apply below_drew1) | exact HB.out)⟩⟩
                                      · rw [if_neg c15] at H
                                        exact absurd H (by simp)
                                    · rw [if_neg c14] at H
                                      exact absurd H (by simp)
                                  · rw [if_neg c13] at H
                                    exact absurd H (by simp)
                                · rw [if_neg c12] at H
                                  exact absurd H (by simp)
                              · rw [if_neg c11] at H
                                exact absurd H (by simp)
                            · rw [if_neg c10] at H
                              have c10b0 : decide (x17_2 < a1) = false := decide_eq_false c10
                              clear c10
                              replace H := Option.bind_eq_some_iff.mp H
                              obtain ⟨t109, A170, H⟩ := H
                              replace H : (XE.quartermasterref03_Decode.l2 k2 a1 x8_1 x9_1 x10_1 x14_1 x15_1 t109 0) = some t114 := H
                              have A17 := Aside0.mk A170
                              clear A170
                              have H' := Aside0.mk H
                              clear H
                              obtain ⟨Ao18, co18, eo18⟩ := Kd.R_slice HO_16.out
                              subst eo18
                              go_wp2_with (first | ((with_reducible refine gate_callee (f := 76) rfl ?_); refine goesL_ (some 105) rfl rfl Try.func76 (by kernel_rfl) rfl #[.slice Ao28 x9_1.length co28, .slice Ao18 x16_2.length co18] rfl (by (try simp only [List.map_toArray, List.map_cons, List.map_nil]); first | done | rfl | (simp only [List.length_drop, List.length_take]; rfl)) ?_; (with_reducible refine (quartermasterref03_solved.calls _ _ x9_1 _ _ x16_2 t109 _ ?side1 ?side2 ?side3 ?side4 A17.out).mono ?_); (case side1 => repeat (first | exact (Kd.C_below HR0.out HB.out) | (with_reducible refine Kd.C_alloc ?_ _) | (with_reducible refine Kd.C_drewN ?_ _) | (with_reducible refine Kd.C_drew ?_))); (case side2 => exact HC0.out); (case side3 => repeat (first | exact (Kd.R_reads' HO_16.out).2.2 | (with_reducible refine Kd.C_alloc ?_ _) | (with_reducible refine Kd.C_drewN ?_ _) | (with_reducible refine Kd.C_drew ?_))); (case side4 => exact (Kd.R_reads' HO_16.out).2.1); rintro e w19 ⟨v110, rfl, ho0, hb⟩; refine ⟨_, rfl, ?_⟩; have n0_ := Aside0.mk (Kd.S_elder' (by (with_reducible repeat (first | apply Kd.S_alloc | apply Kd.S_drewN | apply Kd.S_drew)); exact HO_14.out) (Kd.R_base ho0) hb); have n1_ := Aside0.mk (Kd.R_elder' (by (with_reducible repeat (first | apply Kd.R_alloc | apply Kd.R_drewN | apply Kd.R_drew)); exact HO_16.out) (Kd.R_base ho0) hb); have n2_ := Aside0.mk (Kd.R_lower (Kd.R_new' ho0 (Kd.R_lt (by (with_reducible repeat (first | apply Kd.R_alloc | apply Kd.R_drewN | apply Kd.R_drew)); exact HO_16.out))) (below_size (by repeat (first | (with_reducible first | exact HB.out | apply below_alloc | apply pw_below_drewN | apply below_drew1) | exact HB.out)))); have n3_ := Aside0.mk (below_step (by repeat (first | (with_reducible first | exact HB.out | apply below_alloc | apply pw_below_drewN | apply below_drew1) | exact HB.out)) hb); clear HO_14; clear HO_16; clear HB; have HO_14 := n0_; have HO_16 := n1_; have HO111 := n2_; have HB := n3_; clear n0_ n1_ n2_ n3_; (try clear hb); (try clear hb2); (try clear hk); (try clear hi); (try clear ho0)))
                              go_loopg [19] k2 (fun kq v19 w' => ∃ (x14_3 : List (List Int)) (x19_3 : Int), v19 = .int .i64 x19_3 ∧ Aside0 (XE.quartermasterref03_Decode.l2 kq a1 x8_1 x9_1 x10_1 x14_3 x15_1 t109 x19_3 = some t114) ∧ Aside0 (kq ≤ k2) ∧ Aside0 (Kd.S (Kd.slice 5 (Kd.int .u8)) 43 w' wB.heap.size (fun k_ => some k_ ≠ (v110 : Value).ownBlock) v102 x14_3) ∧ Aside0 (Kd.R (Kd.int .u8) 5 w' wB.heap.size (fun _ => True) v110 t109) ∧ Aside0 (Below wB.heap.size wB w'))
                              case atStart => exact ⟨(x14_1), (0), (by first | rfl | (simp; done) | (simp [*]; done)), H', ⟨Nat.le_refl _⟩, ⟨by (with_reducible repeat (first | apply Kd.S_alloc | apply Kd.S_drewN | apply Kd.S_drew)); exact Kd.S_mono HO_14.out (fun _ hk => hk.2)⟩, ⟨by (with_reducible repeat (first | apply Kd.R_alloc | apply Kd.R_drewN | apply Kd.R_drew)); exact Kd.R_mono HO111.out (fun _ hk => trivial)⟩, ⟨by repeat (first | (with_reducible first | exact HB.out | apply below_alloc | apply pw_below_drewN | apply below_drew1) | exact HB.out)⟩⟩
                              case round =>
                                clear H'
                                try clear c1
                                try clear p1
                                try clear q1
                                try clear hx1
                                try clear co29
                                try clear p2
                                try clear c5
                                try clear c5b0
                                try clear c5b1
                                try clear c6
                                try clear c6b0
                                try clear c6b1
                                try clear p6
                                try clear c7
                                try clear c9
                                try clear c9b0
                                try clear c10
                                try clear c10b0
                                try clear p10
                                try clear q10
                                try clear hx10
                                try clear c11
                                try clear c11b0
                                try clear c12
                                try clear c12b0
                                try clear c13
                                try clear c13b0
                                try clear c14
                                try clear c14b0
                                try clear c15
                                try clear hx104_0
                                try clear hx105_0
                                try clear p104
                                try clear p105
                                try clear p2
                                try clear q104
                                try clear q105
                                obtain ⟨x14_3, x19_3, rfl, HA, HK3, HO_14, HO_18, HB⟩ := hrel
                                cases gk with
                                | zero => exact absurd HA.out (by simp [XE.quartermasterref03_Decode.l2])
                                | succ k3 =>
                                  have H := HA.out
                                  clear HA
                                  simp only [XE.quartermasterref03_Decode.l2] at H
                                  by_cases c20 : x19_3 < a1
                                  · rw [if_pos c20] at H
                                    have c20b0 : decide (x19_3 < a1) = true := decide_eq_true c20
                                    clear c20
                                    by_cases c21 : 0 ≤ x19_3
                                    · rw [if_pos c21] at H
                                      have c21b0 : decide (0 ≤ x19_3) = true := decide_eq_true c21
                                      clear c21
                                      by_cases c22 : x19_3 < (x14_3.length : Int)
                                      · rw [if_pos c22] at H
                                        have c22b0 : decide (x19_3 < (x14_3.length : Int)) = true := decide_eq_true c22
                                        clear c22
                                        by_cases c23 : x19_3 < (t109.length : Int)
                                        · rw [if_pos c23] at H
                                          have c23b0 : decide (x19_3 < (t109.length : Int)) = true := decide_eq_true c23
                                          clear c23
                                          by_cases c24 : (XE.rd_L1 x14_3 x19_3).length < 140737488355328
                                          · rw [if_pos c24] at H
                                            have LMc24 := Aside0.mk c24
                                            clear c24
                                            obtain ⟨y114, hy114⟩ : ∃ y_ : List Int, y_ = ((XE.rd_L1 x14_3 x19_3) ++ [rd t109 x19_3]) := ⟨_, rfl⟩
                                            replace H : (XE.quartermasterref03_Decode.l2 k3 a1 x8_1 x9_1 x10_1 (x14_3.set (x19_3 : Int).toNat y114) x15_1 t109 (wrap64 (x19_3 + 1))) = some t114 := by first | (rw [hy114]; with_reducible exact H) | (have H2_ := (Option.bind_some _ _).symm.trans H; rw [hy114]; with_reducible exact H2_) | (have H2_ := (Option.bind_some _ _).symm.trans H; with_reducible exact H2_) | with_reducible exact H | (rw [hy114]; exact H) | exact H
                                            have Ny114 := Aside0.mk hy114
                                            clear hy114
                                            obtain ⟨y117, hy117⟩ : ∃ y_ : List (List Int), y_ = (x14_3.set (x19_3 : Int).toNat y114) := ⟨_, rfl⟩
                                            replace H : (XE.quartermasterref03_Decode.l2 k3 a1 x8_1 x9_1 x10_1 y117 x15_1 t109 (wrap64 (x19_3 + 1))) = some t114 := by first | (rw [hy117]; with_reducible exact H) | (have H2_ := (Option.bind_some _ _).symm.trans H; rw [hy117]; with_reducible exact H2_) | (have H2_ := (Option.bind_some _ _).symm.trans H; with_reducible exact H2_) | with_reducible exact H | (rw [hy117]; exact H) | exact H
                                            have Ny117 := Aside0.mk hy117
                                            clear hy117
                                            have H' := Aside0.mk H
                                            clear H
                                            try go_wp2
                                            have n0_ := Aside0.mk (Kd.S_drew HO_14.out)
                                            have n1_ := Aside0.mk (Kd.R_drew HO_18.out)
                                            have n2_ := Aside0.mk (below_drew1 HB.out)
                                            clear HO_14
                                            clear HO_18
                                            clear HB
                                            have HO_14 := n0_
                                            have HO_18 := n1_
                                            have HB := n2_
                                            clear n0_ n1_ n2_
                                            obtain ⟨Ao27, co27, eo27⟩ := Kd.S_slice HO_14.out
                                            (first | subst eo27 | (injection eo27 with f1_ f2_ f3_; have f4_ := f1_.symm; have f5_ := f3_.symm; clear f1_ f2_ f3_; subst f4_; subst f5_))
                                            have p112 : 0 ≤ (x19_3 : Int) := of_decide_eq_true (by first | (with_reducible assumption) | assumption)
                                            have q112 : x19_3 < (x14_3.length : Int) := of_decide_eq_true (by first | (with_reducible assumption) | assumption)
                                            obtain ⟨ad112, A112_0, c112_0, e112, hx112_0, hl112_0, hi112_0⟩ := XE.at_L1 (Kd.S_reads' HO_14.out).2.2 x19_3 p112 q112
                                            cases e112
                                            obtain ⟨ce112, hce112, hMe112, hcc112⟩ := Kd.S_get HO_14.out [] x19_3 p112 (by first | exact q112 | exact of_decide_eq_true (by first | (with_reducible assumption) | assumption) | (have e_ := (Kd.S_reads' HO_14.out).1; omega))
                                            obtain ⟨ve112_0, rfl, ge112_0⟩ := hMe112
                                            have hv112_0 := hcc112 0 _ rfl
                                            rw [Nat.add_zero, show ((Kd.slice 5 (Kd.int .u8))).sz = 1 from rfl, Nat.mul_one] at hv112_0
                                            replace hv112_0 := Option.some.inj (hv112_0.symm.trans hx112_0)
                                            rw [hv112_0] at ge112_0
                                            have HL112_0 := Aside0.mk (show Kd.R (Kd.int .u8) 5 _ _ _ _ (XE.rd_L1 x14_3 x19_3) from ge112_0)
                                            clear hv112_0 ge112_0
                                            have HX112_0 := Aside0.mk hx112_0
                                            clear hcc112 hce112
                                            have HR112_0 := Aside0.mk hi112_0
                                            have HC112_0 := Aside0.mk hl112_0
                                            clear hi112_0 hl112_0
                                            replace p112 := eq_true p112
                                            replace q112 := eq_true q112
                                            obtain ⟨Ao28, co28, eo28⟩ := Kd.R_slice HO_18.out
                                            (first | subst eo28 | (injection eo28 with f1_ f2_ f3_; have f4_ := f1_.symm; have f5_ := f3_.symm; clear f1_ f2_ f3_; subst f4_; subst f5_))
                                            have p113 : 0 ≤ (x19_3 : Int) := of_decide_eq_true (by first | (with_reducible assumption) | assumption)
                                            have q113 : x19_3 < (t109.length : Int) := of_decide_eq_true (by first | (with_reducible assumption) | assumption)
                                            obtain ⟨ad113, e113, hx113_0⟩ := Kd.at_int (Kd.R_reads' HO_18.out).2.2 x19_3 p113 q113
                                            cases e113
                                            replace p113 := eq_true p113
                                            replace q113 := eq_true q113
                                            obtain ⟨go29, co29, eo29, gb29, gl29, cl29, HG29⟩ := Kd.S_form HO_14.out (by have h_ : (x19_3 : Int) < ((x14_3.length : Int) : Int) := of_decide_eq_true (by first | (with_reducible assumption) | assumption); have h2_ : 0 ≤ (x19_3 : Int) := (of_decide_eq_true (by first | (with_reducible assumption) | assumption)); omega)
                                            (first | cases eo29 | (injection eo29 with ea_ en_ ec_; (first | subst ea_ | (injection ea_ with ea_; subst ea_)); subst ec_; clear en_))
                                            have GB29 := Aside0.mk gb29
                                            have GG29 := Aside0.mk HG29
                                            clear gb29 gl29 HG29
                                            (first | simp only [add_plain] at hx112_0 | skip)
                                            obtain ⟨oki29, ce29, hcl29, hM29, hcc29, _, _, hH29⟩ := Kd.S_elem HO_14.out [] (x19_3 : Int) (of_decide_eq_true (by first | (with_reducible assumption) | assumption)) (by have h_ : (x19_3 : Int) < ((x14_3.length : Int) : Int) := of_decide_eq_true (by first | (with_reducible assumption) | assumption); first | exact h_ | (have e_ := (Kd.S_reads' HO_14.out).1; omega) | simpa using h_)
                                            obtain ⟨ve29_0, rfl, ge29_0⟩ := hM29
                                            have hv29 := hcc29 0 _ rfl
                                            have hX29 := HX112_0.out
                                            (try simp only [add_plain] at hX29)
                                            (try simp only [Nat.add_zero] at hv29)
                                            (try rw [show ((Kd.slice 5 (Kd.int .u8))).sz = 1 from rfl, Nat.mul_one] at hv29)
                                            replace hv29 := Option.some.inj (hv29.symm.trans hX29)
                                            subst hv29
                                            clear hX29 hcc29 hcl29
                                            have UU29 := Aside0.mk (show Kd.R (Kd.int .u8) 5 _ wB.heap.size oki29 (.slice A112_0 (XE.rd_L1 x14_3 x19_3).length c112_0) (XE.rd_L1 x14_3 x19_3) from ge29_0)
                                            have HH29 := Aside0.mk hH29
                                            have HN29 := Aside0.mk (Kd.S_reads' HO_14.out).1
                                            clear hH29 ge29_0
                                            refine start_ (n := 14) (S := fun w' => w'.cell? ⟨go29, (x19_3).toNat, none⟩ = some (.slice A112_0 (XE.rd_L1 x14_3 x19_3).length c112_0) ∧ w'.cell? (ad113.add (x19_3).toNat) = some (.int .u8 (rd t109 x19_3))) (ds := [11, 13]) #[false, false, false, false, false, false, false, false, false, false, false, false, false, false] (by kernel_rfl) rfl rfl ⟨hx112_0, hx113_0⟩ (fun hHeld => ?_); refine with_tabW XE.quartermasterref03_Decode.tab35 XE.quartermasterref03_Decode.bits35 (fun HT_ HW_ => ?_)
                                            generalize wr.drew = w26 at HO_14 HO_18 HB GG29 HH29 HL112_0 HR112_0 HX112_0 UU29 hx112_0 hx113_0 hHeld ⊢
                                            refine pure_ (i := 0) (N := some 111) (v := ?_) (a' := ?_) #[true, false, false, false, false, false, false, false, false, false, false, false, false, false] rfl rfl (any_of HT_.out (by kernel_rfl)) (fun _ _ _ h => h) (Or.inl ⟨by rfl, ?_⟩) ?_ ?_
                                            rotate_left
                                            · intro w'
                                              go_simp
                                              with_reducible rfl
                                            rotate_left
                                            · simp only [Act.put, List.setIfInBounds_toArray, List.set_cons_zero, List.set_cons_succ, i64_w, i32_w]
                                              rfl
                                            refine pure_ (i := 1) (N := some 112) (v := ?_) (a' := ?_) #[true, true, false, false, false, false, false, false, false, false, false, false, false, false] rfl rfl (any_of HT_.out (by kernel_rfl)) (fun _ _ _ h => h) (Or.inl ⟨by rfl, ?_⟩) ?_ ?_
                                            rotate_left
                                            · intro w'
                                              go_simp
                                              with_reducible rfl
                                            rotate_left
                                            · simp only [Act.put, List.setIfInBounds_toArray, List.set_cons_zero, List.set_cons_succ, i64_w, i32_w]
                                              rfl
                                            refine pure_ (i := 2) (N := some 113) (v := ?_) (a' := ?_) #[true, true, true, false, false, false, false, false, false, false, false, false, false, false] rfl rfl (any_of HT_.out (by kernel_rfl)) (fun _ _ _ h => h) (Or.inl ⟨by rfl, ?_⟩) ?_ ?_
                                            rotate_left
                                            · intro w'
                                              go_simp
                                              with_reducible rfl
                                            rotate_left
                                            · simp only [Act.put, List.setIfInBounds_toArray, List.set_cons_zero, List.set_cons_succ, i64_w, i32_w]
                                              rfl
                                            refine pure_ (i := 3) (N := some 114) (v := ?_) (a' := ?_) #[true, true, true, true, false, false, false, false, false, false, false, false, false, false] rfl rfl (any_of HT_.out (by kernel_rfl)) (fun _ _ _ h => h) (Or.inl ⟨by rfl, ?_⟩) ?_ ?_
                                            rotate_left
                                            · intro w'
                                              go_simp
                                              with_reducible rfl
                                            rotate_left
                                            · simp only [Act.put, List.setIfInBounds_toArray, List.set_cons_zero, List.set_cons_succ, i64_w, i32_w]
                                              rfl
                                            refine pure_ (i := 4) (N := some 115) (v := ?_) (a' := ?_) #[true, true, true, true, true, false, false, false, false, false, false, false, false, false] rfl rfl (any_of HT_.out (by kernel_rfl)) (fun _ _ _ h => h) (Or.inl ⟨by rfl, ?_⟩) ?_ ?_
                                            rotate_left
                                            · intro w'
                                              go_simp
                                              with_reducible rfl
                                            rotate_left
                                            · simp only [Act.put, List.setIfInBounds_toArray, List.set_cons_zero, List.set_cons_succ, i64_w, i32_w]
                                              rfl
                                            refine pure_ (i := 6) (N := some 117) (v := ?_) (a' := ?_) #[true, true, true, true, true, false, true, false, false, false, false, false, false, false] rfl rfl (any_of HT_.out (by kernel_rfl)) (fun _ _ _ h => h) (Or.inl ⟨by rfl, ?_⟩) ?_ ?_
                                            rotate_left
                                            · intro w'
                                              go_simp
                                              with_reducible rfl
                                            rotate_left
                                            · simp only [Act.put, List.setIfInBounds_toArray, List.set_cons_zero, List.set_cons_succ, i64_w, i32_w]
                                              rfl
                                            refine pure_ (i := 7) (N := some 118) (v := ?_) (a' := ?_) #[true, true, true, true, true, false, true, true, false, false, false, false, false, false] rfl rfl (any_of HT_.out (by kernel_rfl)) (fun _ _ _ h => h) (Or.inl ⟨by rfl, ?_⟩) ?_ ?_
                                            rotate_left
                                            · intro w'
                                              go_simp
                                              with_reducible rfl
                                            rotate_left
                                            · simp only [Act.put, List.setIfInBounds_toArray, List.set_cons_zero, List.set_cons_succ, i64_w, i32_w]
                                              rfl
                                            refine pure_ (i := 8) (N := some 119) (v := ?_) (a' := ?_) #[true, true, true, true, true, false, true, true, true, false, false, false, false, false] rfl rfl (any_of HT_.out (by kernel_rfl)) (fun _ _ _ h => h) (Or.inl ⟨by rfl, ?_⟩) ?_ ?_
                                            rotate_left
                                            · intro w'
                                              go_simp
                                              with_reducible rfl
                                            rotate_left
                                            · simp only [Act.put, List.setIfInBounds_toArray, List.set_cons_zero, List.set_cons_succ, i64_w, i32_w]
                                              rfl
                                            refine take_ (i := 5) (N := some 116) (v := ?_) (a' := ?_) #[true, true, true, true, true, true, true, true, true, false, false, false, false, false] rfl rfl (take_ofW HT_.out HW_.out (by kernel_rfl)) (fun _ _ _ h => h) (Or.inl ⟨by rfl, ?_⟩) hHeld ?_ ?_
                                            rotate_left
                                            · rintro w' ⟨s0, s1⟩
                                              go_simp
                                              with_reducible rfl
                                            rotate_left
                                            · simp only [Act.put, List.setIfInBounds_toArray, List.set_cons_zero, List.set_cons_succ, i64_w, i32_w]
                                              rfl
                                            refine take_ (i := 9) (N := some 120) (v := ?_) (a' := ?_) #[true, true, true, true, true, true, true, true, true, true, false, false, false, false] rfl rfl (take_ofW HT_.out HW_.out (by kernel_rfl)) (fun _ _ _ h => h) (Or.inl ⟨by rfl, ?_⟩) hHeld ?_ ?_
                                            rotate_left
                                            · rintro w' ⟨s0, s1⟩
                                              go_simp
                                              with_reducible rfl
                                            rotate_left
                                            · simp only [Act.put, List.setIfInBounds_toArray, List.set_cons_zero, List.set_cons_succ, i64_w, i32_w]
                                              rfl
                                            refine one_ (i := 10) (N := some 121) #[true, true, true, true, true, true, true, true, true, true, true, false, false, false] rfl rfl (one_of HT_.out (by kernel_rfl)) (by decide) (fun K hK => ?_)
                                            refine value_ (w1 := ?_) (v := ?_) (by rfl) rfl ?_ ?_
                                            rotate_left 2
                                            · go_simp
                                              constructor
                                              · rfl
                                              · rfl
                                            refine hK.out _ _ ⟨(World.cell?_alloc_lt _ _ _ (World.block_lt_of_cell? _ _ (hHeld.1))).trans (hHeld.1), (World.cell?_alloc_lt _ _ _ (World.block_lt_of_cell? _ _ (hHeld.2))).trans (hHeld.2)⟩ (fun hHeld => ?_)
                                            clear hK K
                                            refine norm_ (a' := ?_) ?_ ?_
                                            rotate_left
                                            · show Act.put _ (some 121) _ = _
                                              simp only [Act.put, List.setIfInBounds_toArray, List.set_cons_zero, List.set_cons_succ, i64_w, i32_w]
                                              rfl
                                            refine last_ (i := 11) (N := some 122) #[true, true, true, true, true, true, true, true, true, true, true, true, false, false] rfl rfl (one_of HT_.out (by kernel_rfl)) (by decide) (fun K hK => ?_)
                                            refine Kd.R_append_step (Kd.int .u8) (w0 := wB) wB.heap.size (by rfl) (.tmp 116) (.tmp 121) 43 5 (.int .u8 0) 1 rfl Try.underlying43 XE.info5 rfl (by decide) (by omega) (.slice A112_0 (XE.rd_L1 x14_3 x19_3).length c112_0) (XE.rd_L1 x14_3 x19_3) (rd t109 x19_3) [.int .u8 (rd t109 x19_3)] (fun k_ => oki29 k_ ∨ ((fun k_ => some k_ ≠ (.slice (some ad113) t109.length co28 : Value).ownBlock)) k_ ∧ w26.heap.size ≤ k_) (fun _ => False) rfl rfl ?aP (fun _ hk => hk.elim) ?aF ?aO ?aB ?aS ?aL ?_
                                            (case aP => exact rfl)
                                            (case aB => exact (by repeat (first | (with_reducible first | exact HB.out | apply below_alloc | apply pw_below_drewN | apply below_drew1) | exact HB.out)))
                                            (case aF => exact (fun k_ hk => .inr ⟨Kd.fresh' (Kd.R_lt (by (with_reducible repeat (first | apply Kd.R_alloc | apply Kd.R_drewN | apply Kd.R_drew)); exact HO_18.out)) k_ hk, hk⟩))
                                            (case aO => exact (by (with_reducible repeat (first | apply Kd.R_alloc | apply Kd.R_drewN | apply Kd.R_drew)); exact Kd.R_mono UU29.out (fun _ hk => .inl hk)))
                                            (case aS => exact (below_size (by repeat (first | (with_reducible first | exact HB.out | apply below_alloc | apply pw_below_drewN | apply below_drew1) | exact HB.out))))
                                            (case aL => have := LMc24.out; omega)
                                            intro v115 w30 ho hb hg hat
                                            rw [← Ny114.out] at ho
                                            have n0_ := Aside0.mk (Kd.R_grown2 (by (with_reducible repeat (first | apply Kd.R_alloc | apply Kd.R_drewN | apply Kd.R_drew)); exact HO_18.out) rfl hg (fun k_ e_ => (HL112_0.out.1 k_ e_).1))
                                            have n1_ := Aside0.mk (hb)
                                            have n2_ := Aside0.mk (Kd.H_grown (Kd.H_widen (by repeat (first | exact HH29.out | refine Kd.H_alloc ?_ _ | refine Kd.H_drewN ?_ _ | refine Kd.H_drew ?_))) hg (fun k_ e_ => .inl (UU29.out.1 k_ e_)))
                                            have n3_ := Aside0.mk (ho)
                                            clear HO_18
                                            clear HB
                                            clear HH29
                                            clear HO_14
                                            clear UU29
                                            clear HL112_0
                                            have HO_18 := n0_
                                            have HB := n1_
                                            have HH29 := n2_
                                            have HO116 := n3_
                                            clear n0_ n1_ n2_ n3_
                                            clear ho hb hg hat
                                            have p25 : 0 ≤ (x19_3 : Int) := of_decide_eq_true (by first | (with_reducible assumption) | assumption)
                                            have q25 : (x19_3 : Int) < ((x14_3.length : Int) : Int) := of_decide_eq_true (by first | (with_reducible assumption) | assumption)
                                            replace p25 := eq_true p25
                                            replace q25 := eq_true q25
                                            obtain ⟨Ao33, co33, eo33⟩ := Kd.R_slice HO116.out
                                            (first | subst eo33 | (injection eo33 with f1_ f2_ f3_; have f4_ := f1_.symm; have f5_ := f3_.symm; clear f1_ f2_ f3_; subst f4_; subst f5_))
                                            obtain ⟨_, _, hraw31, _, _, hcc31, _⟩ := Kd.H_raw HH29.out (of_decide_eq_true (by first | (with_reducible assumption) | assumption)) (by have h_ : (x19_3 : Int) < ((x14_3.length : Int) : Int) := of_decide_eq_true (by first | (with_reducible assumption) | assumption); first | exact h_ | (have e_ := (HN29.out); omega) | simpa using h_)
                                            obtain ⟨_, hfr31⟩ := Kd.H_at HH29.out (of_decide_eq_true (by first | (with_reducible assumption) | assumption)) (by have h_ : (x19_3 : Int) < ((x14_3.length : Int) : Int) := of_decide_eq_true (by first | (with_reducible assumption) | assumption); first | exact h_ | (have e_ := (HN29.out); omega) | simpa using h_)
                                            have hx31_0 := hcc31 0 _ rfl
                                            have hf31_0 := hfr31 0
                                            (try simp only [Nat.add_zero] at hx31_0 hf31_0)
                                            (try rw [show ((Kd.slice 5 (Kd.int .u8))).sz = 1 from rfl, Nat.mul_one] at hx31_0)
                                            (try rw [show ((Kd.slice 5 (Kd.int .u8))).sz = 1 from rfl, Nat.mul_one] at hf31_0)
                                            have HP31 := Kd.S_seg0 HH29.out (of_decide_eq_true (by first | (with_reducible assumption) | assumption)) (by have h_ : (x19_3 : Int) < ((x14_3.length : Int) : Int) := of_decide_eq_true (by first | (with_reducible assumption) | assumption); first | exact h_ | (have e_ := (HN29.out); omega) | simpa using h_) (seg := [.slice Ao33 y114.length co33]) (j := 0) (show 1 ≤ 1 from by decide) (x' := y114) (Kd.M_row HO116.out) (fun _ hk => hk)
                                            (try simp only [show ((Kd.slice 5 (Kd.int .u8))).sz = 1 from rfl, Nat.mul_one, Nat.add_zero] at HP31)
                                            clear hcc31 hfr31
                                            have HS31 := HP31.1
                                            rw [← Ny117.out] at HS31
                                            have HQ31 := Aside0.mk HS31
                                            obtain ⟨_, hgg31⟩ := Kd.R_typed hraw31 go29 rfl
                                            have GG31_ := Aside0.mk hgg31
                                            clear HP31 HS31 hgg31
                                            refine hK.out _ _ ?_
                                            clear hK K
                                            refine norm_ (a' := ?_) ?_ ?_
                                            rotate_left
                                            · show Act.put _ (some 122) _ = _
                                              simp only [Act.put, List.setIfInBounds_toArray, List.set_cons_zero, List.set_cons_succ, i64_w, i32_w]
                                              rfl
                                            refine pure_ (i := 12) (N := some 123) (v := ?_) (a' := ?_) #[true, true, true, true, true, true, true, true, true, true, true, true, true, false] rfl rfl (any_of HT_.out (by kernel_rfl)) (fun _ _ _ h => h) (Or.inl ⟨by rfl, ?_⟩) ?_ ?_
                                            rotate_left
                                            · intro w'
                                              go_simp
                                              with_reducible rfl
                                            rotate_left
                                            · simp only [Act.put, List.setIfInBounds_toArray, List.set_cons_zero, List.set_cons_succ, i64_w, i32_w]
                                              rfl
                                            refine last_ (i := 13) (N := none) #[true, true, true, true, true, true, true, true, true, true, true, true, true, true] rfl rfl (one_of HT_.out (by kernel_rfl)) (by decide) (fun K hK => ?_)
                                            refine skip_ (w1 := ?_) (by rfl) rfl ?_ ?_
                                            rotate_left
                                            · go_simp
                                              rfl
                                            refine hK.out _ _ ?_
                                            clear hK K
                                            refine done_ (done_of HT_.out (by kernel_rfl)) ?_
                                            try go_wp2
                                            go_roundg k3
                                            case measure => have := HK1.out; have := HK2.out; have := HK3.out; omega
                                            case rel => exact ⟨(y117), (wrap64 (x19_3 + 1)), (by first | rfl | (simp; done) | (simp [*]; done)), H', ⟨by have := HK1.out; have := HK2.out; have := HK3.out; omega⟩, ⟨by (with_reducible repeat (first | apply Kd.S_alloc | apply Kd.S_drewN | apply Kd.S_drew)); exact HQ31.out⟩, ⟨by (with_reducible repeat (first | apply Kd.R_alloc | apply Kd.R_drewN | apply Kd.R_drew)); exact Kd.R_mono (Kd.R_far (p := ⟨go29, (x19_3 : Int).toNat, none⟩) (Kd.R_types HO_18.out GG31_.out (by decide)) (fun _ hk => hk.2) (.slice Ao33 y114.length co33)) (fun _ hk => trivial)⟩, ⟨by repeat (first | (with_reducible first | exact HB.out | apply below_alloc | apply pw_below_drewN | apply below_drew1 | refine below_set ?_ GB29.out) | exact HB.out)⟩⟩
                                          · rw [if_neg c24] at H
                                            exact absurd H (by simp)
                                        · rw [if_neg c23] at H
                                          exact absurd H (by simp)
                                      · rw [if_neg c22] at H
                                        exact absurd H (by simp)
                                    · rw [if_neg c21] at H
                                      exact absurd H (by simp)
                                  · rw [if_neg c20] at H
                                    have c20b0 : decide (x19_3 < a1) = false := decide_eq_false c20
                                    clear c20
                                    have H' := Aside0.mk H
                                    clear H
                                    go_wp2
                                    go_roundg k3
                                    case measure => have := HK1.out; have := HK2.out; have := HK3.out; omega
                                    case rel => exact ⟨(x14_3), (wrap64 (x15_1 + 1)), (by first | rfl | (simp; done) | (simp [*]; done)), H', ⟨by have := HK1.out; have := HK2.out; have := HK3.out; omega⟩, ⟨by (with_reducible repeat (first | apply Kd.S_alloc | apply Kd.S_drewN | apply Kd.S_drew)); exact Kd.S_mono HO_14.out (fun _ hk => trivial)⟩, ⟨by repeat (first | (with_reducible first | exact HB.out | apply below_alloc | apply pw_below_drewN | apply below_drew1) | exact HB.out)⟩⟩
                      · rw [if_neg c9] at H
                        have c9b0 : decide (x15_1 < x8_1) = false := decide_eq_false c9
                        clear c9
                        have ht : x14_1 = t114 := Option.some.inj H
                        have hs14 := HO_14.out
                        rw [ht] at hs14
                        obtain ⟨Ad, cd, ed⟩ := Kd.S_slice hs14
                        subst ed
                        have HBd := Aside0.mk (HBA.out.trans (HB.out.mono HBA.out.size))
                        have HSd := Aside0.mk (Kd.S_lower hs14 HBA.out.size)
                        clear hs14 HB H
                        go_wp2_with fail
                        refine (quartermasterref03_Encode.calls _ Ad cd t114 (wrap64 ((l0.length : Int) - a1)) t117 t118 _ (Kd.S_reads' HSd.out).2.2 (Kd.S_reads' HSd.out).2.1 A26.out).mono ?_
                        rintro e w71 ⟨ve, rfl, hS7, hb7⟩
                        obtain ⟨Ae, ce, ee⟩ := Kd.S_slice hS7
                        subst ee
                        have HB7 := Aside0.mk (HBd.out.trans (hb7.mono HBd.out.size))
                        have hso := Kd.S_old HSd.out hb7
                        have hsz := HBd.out.size
                        obtain ⟨B7, S1, S2, S3⟩ : ∃ B7, Kd.S (Kd.slice 5 (Kd.int .u8)) 43 w71 w.heap.size (fun k => True ∧ ¬ B7 ≤ k) (.slice Ad t114.length cd) t114 ∧ Kd.S (Kd.slice 5 (Kd.int .u8)) 43 w71 w.heap.size (fun k => B7 ≤ k) (.slice Ae t117.length ce) t117 ∧ True := ⟨_, Kd.S_mono hso (fun k hk => ⟨trivial, by have := hk.2; omega⟩), Kd.S_lower (Kd.S_mono (Kd.S_bound hS7) (fun k hk => hk.2.1)) hsz, trivial⟩
                        have HS1 := Aside0.mk S1
                        have HS2 := Aside0.mk S2
                        clear hS7 hb7 hso hsz S1 S2 S3 HSd HBd
                        go_wp2_with (at_builtin; refine T.S_append_rows (Kd.slice 5 (Kd.int .u8)) (w0 := w) w.heap.size rfl (.tmp 133) (.tmp 134) 42 43 (.slice none 0 0) 24 rfl Try.underlying42 XE.info43 rfl (by decide) (by omega) (.slice Ad t114.length cd) t114 t117 Ae ce (fun _ => True) (fun k => B7 ≤ k) rfl rfl ?aO ?aR ?aP (fun _ _ => trivial) ?aB ?aS ?aL ?_)
                        case aO => exact HS1.out
                        case aR => exact HS2.out
                        case aP => exact fun k hk => ⟨trivial, fun e => by have := (Kd.S_R HS1.out).1 k e.symm; omega⟩
                        case aB => exact HB7.out
                        case aS => exact HB7.out.size
                        case aL => have := LMc27.out; omega
                        intro v81 w81 ho hb hg hat
                        rw [← Ny121.out] at ho
                        have HO8 := Aside0.mk ho
                        have HB8 := Aside0.mk hb
                        clear ho hb hg hat
                        go_wp2_with fail
                        go_ret2
                        exact ⟨_, rfl, Kd.N_mono (Kd.S_N (Kd.S_bound HO8.out)) (fun k hk => .inr hk.2.1), HB8.out⟩
                · rw [if_neg c6] at H
                  exact absurd H (by simp)
              · rw [if_neg c5] at H
                exact absurd H (by simp)
            · rw [if_neg c27] at H
              exact absurd H (by simp)
  · rw [if_neg c4] at H
    have c4b0 : (t102 == 0) = false := beq_eq_false_iff_ne.mpr c4
    have c4b1 : (t102 != 0) = true := bne_iff_ne.mpr c4
    simp only [Option.some.injEq, Prod.mk.injEq] at H
    obtain ⟨rfl, rfl⟩ := H
    go_enter Try.func56, Try.ntmps56
    go_wp2_with (first | ((with_reducible refine gate_callee (f := 54) rfl ?_); refine goesL_ (some 28) rfl rfl Try.func54 (by kernel_rfl) rfl #[.int .i64 a1, .int .i64 (wrap64 ((l0.length : Int) - a1))] rfl (by (try simp only [List.map_toArray, List.map_cons, List.map_nil]); first | done | rfl | (simp only [List.length_drop, List.length_take]; rfl)) ?_; (with_reducible refine (quartermasterref03_Rows.calls k a1 (wrap64 ((l0.length : Int) - a1)) t101 t102 _ A3.out).mono ?_); rintro e w35 ⟨v103, rfl, ho0, hb⟩; refine ⟨_, rfl, ?_⟩; have n0_ := Aside0.mk (Kd.V_elder' (by (with_reducible repeat (first | apply Kd.V_alloc | apply Kd.V_drewN | apply Kd.V_drew)); exact HO0.out) (by first | exact Kd.N_base ho0 | exact Kd.N_base (Kd.S_N ho0)) hb); have n1_ := Aside0.mk (Kd.N_lower (Kd.N_mono (ok' := fun k_ => (P0_ k_ ∨ w.heap.size ≤ k_)) (Kd.S_N (Kd.S_bound ho0)) (fun k_ hk_ => (.inr (Nat.le_trans (below_size (by repeat (first | (with_reducible first | exact HB.out | apply below_alloc | apply pw_below_drewN | apply below_drew1) | exact HB.out))) hk_.2.1)))) (below_size (by repeat (first | (with_reducible first | exact HB.out | apply below_alloc | apply pw_below_drewN | apply below_drew1) | exact HB.out)))); have n2_ := Aside0.mk (below_step (by repeat (first | (with_reducible first | exact HB.out | apply below_alloc | apply pw_below_drewN | apply below_drew1) | exact HB.out)) hb); clear HO0; clear HB; have HO0 := n0_; have HO104 := n1_; have HB := n2_; clear n0_ n1_ n2_; (try clear hb); (try clear hb2); (try clear hk); (try clear hi); (try clear ho0)))
    go_ret2
    exact ⟨_, by first | rfl | (simp [errW_none, errW_some] <;> rfl) | (simp [*, errW_none, errW_some] <;> rfl), by first | exact Kd.S_nil _ _ _ _ _ | exact Kd.N_nil _ _ _ _ _ | exact Kd.V_nil _ _ _ _ _ | exact Kd.Q_nil _ _ _ _ _ | exact Kd.R_nil _ _ _ _ _, by repeat (first | (with_reducible first | exact HB.out | apply below_alloc | apply pw_below_drewN | apply below_drew1) | exact HB.out)⟩
end Go.Proofs.Ythblmkailhdhlaa.XD
