-- PRINTED by print.py (a twelfth state) out of the translation. Not trusted: Lean checks it.
import Derived.Test.YthblmkailhdhlaaXO0
namespace Go.Proofs.Ythblmkailhdhlaa.XO
open Go.Proofs.Ythblmkailhdhlaa.G Go.Proofs.Ythblmkailhdhlaa.P Go.Proofs.Ythblmkailhdhlaa.Given Go.Proofs.Ythblmkailhdhlaa.T Go.RowKit Go.Proofs.YthblmkailhdhlaaW.PrintWords Go.Proofs.YthblmkailhdhlaaW.PrintLast Go.Proofs.YthblmkailhdhlaaW.PrintMore
attribute [local go_sem] max2_int min2_int max_two min_two max_three min_three max_four min_four   -- for this text's walks alone
set_option linter.unusedVariables false
set_option linter.unusedSimpArgs false

def cat_Decode.f (a b : List (List Int)) (k : Int) : Option (List (List Int) × Int) := if a.length + b.length < 1000000 then rs_Decode.f (a ++ b) k else none
/-- What is at hand of the rows that are written: where they lie, and that numbers lie in them. -/
def Shape (w : World) (B ob n : Nat) (L : Nat → Nat) : Prop := ∀ i, i < n → ∃ A c, w.cell? ⟨ob, i, none⟩ = some (.slice A (L i) c) ∧ L i ≤ 9223372036854775807 ∧ (0 < L i → ∃ g cells, A = some ⟨g, 0, none⟩ ∧ B ≤ g ∧ g ≠ ob ∧ w.heap[g]? = some (.cells cells 5 (0, 0)) ∧ ∀ j, j < L i → ∃ x, cells[j]? = some (.int .u8 x))
theorem shape_of_S {W : World} {base ob n cap : Nat} {xs : List (List Int)} (h : Kd.S (Kd.slice 5 (Kd.int .u8)) 43 W base (fun _ => True) (.slice (some ⟨ob, 0, none⟩) n cap) xs) : Shape W base ob n (fun i => (xs.getD i []).length) := by
  intro i hi
  obtain ⟨c, hcl, hM, hcc, _⟩ := Kd.R_elem (Kd.S_R h) [] (i : Int) (by omega) (by omega)
  rw [Int.toNat_natCast] at hM hcc
  obtain ⟨v, rfl, hR⟩ := hM
  obtain ⟨A, c', hv, _, hC⟩ := Kd.R_reads hR
  subst hv
  refine ⟨A, c', by have := hcc 0 _ rfl; rw [show (Kd.slice 5 (Kd.int .u8)).sz = 1 from rfl, Nat.mul_one, Nat.add_zero] at this; exact this, hC.2.1, fun hp => ?_⟩
  obtain ⟨g, cap', e, hb, hlt, cells, hcells⟩ := Kd.R_form hR hp
  injection e with e1 e2 e3
  subst e1
  refine ⟨g, cells, rfl, hb, (hR.1 g (by simp [Value.ownBlock])).2, hcells, fun j hj => ?_⟩
  have hj' : j < (xs.getD i []).length := hj
  have h1 := (Kd.R_celln (0 : Int) hR (j : Int) (by omega) (by omega)).1
  rw [Int.toNat_natCast, blk_cell hcells] at h1
  exact ⟨_, h1⟩
theorem shape_store {W : World} {B ob n : Nat} {L : Nat → Nat} (h : Shape W B ob n L) {g j : Nat} (hg : g ≠ ob) (y : Int) : Shape (W.setCell ⟨g, j, none⟩ (.int .u8 y)) B ob n L := by
  intro i hi
  obtain ⟨A, c, h1, h2, h3⟩ := h i hi
  refine ⟨A, c, by rw [cell_far (p := ⟨g, j, none⟩) (a := ⟨ob, i, none⟩) (fun e => hg e.symm)]; exact h1, h2, fun hp => ?_⟩
  obtain ⟨g', cells, e, hb, hne, hc, hx⟩ := h3 hp
  by_cases eg : g' = g
  · subst eg
    refine ⟨g', _, e, hb, hne, blk_set hc j _, fun q hq => ?_⟩
    rw [Array.getElem?_setIfInBounds]
    by_cases ej : j = q
    · subst ej
      rw [if_pos rfl]
      obtain ⟨x, hx⟩ := hx j hq
      have := (Array.getElem?_eq_some_iff.1 hx).1
      rw [if_pos this]
      exact ⟨_, rfl⟩
    · rw [if_neg ej]; exact hx q hq
  · exact ⟨g', cells, e, hb, hne, blk_far hc (p := ⟨g, j, none⟩) eg _, hx⟩
theorem shape_lower {W : World} {B B' ob n : Nat} {L : Nat → Nat} (hB : B' ≤ B) (h : Shape W B ob n L) : Shape W B' ob n L := fun i hi => by
  obtain ⟨A, c, h1, h2, h3⟩ := h i hi
  exact ⟨A, c, h1, h2, fun hp => by obtain ⟨g', cells, q1, q2, q3⟩ := h3 hp; exact ⟨g', cells, q1, Nat.le_trans hB q2, q3⟩⟩
theorem Shape.drewN {W : World} {B ob n m : Nat} {L : Nat → Nat} (h : Shape W B ob n L) : Shape (W.drewN m) B ob n L := h
theorem Shape.drew {W : World} {B ob n : Nat} {L : Nat → Nat} (h : Shape W B ob n L) : Shape W.drew B ob n L := h
theorem intOf_i (k : IntKind) (q : Int) : intOf (.int k q) = q := rfl
theorem meas_i {n i : Nat} (hn : n ≤ 9223372036854775807) (hi : i < n) : n - (intOf (.int .i64 (wrap64 ((i : Int) + 1)))).toNat < n - (intOf (.int .i64 (i : Int))).toNat := by
  have e : wrap64 ((i : Int) + 1) = ((i + 1 : Nat) : Int) := by
    have : wrap64 ((i : Int) + 1) = (i : Int) + 1 := by unfold wrap64; omega
    rw [this]; rfl
  rw [intOf_i, intOf_i, e, Int.toNat_natCast, Int.toNat_natCast]
  exact Nat.sub_lt_sub_left hi (Nat.lt_succ_self i)
theorem next_i {i : Nat} (hi : i < 9223372036854775807) : Value.int .i64 (wrap64 ((i : Int) + 1)) = Value.int .i64 ((i + 1 : Nat) : Int) := by
  have : wrap64 ((i : Int) + 1) = (i : Int) + 1 := by unfold wrap64; omega
  rw [this]; rfl
/-! ### quartermasterlaw03_RsOwn: function 20 -/
mutual
def quartermasterlaw03_RsOwn.j0 : Nat → List (List Int) → Bool → Bool → Option (Bool)
  | 0, _, _, _ => none
  | k + 1, x0, x3, x28 => if x28 = true then (some x3) else (quartermasterlaw03_RsOwn.l0 k x0 ([] : List (List Int)) 0)
def quartermasterlaw03_RsOwn.l0 : Nat → List (List Int) → List (List Int) → Int → Option (Bool)
  | 0, _, _, _ => none
  | k + 1, x0, x6, x7 => if x7 < (x0.length : Int) then (if 0 ≤ x7 then (if ([] : List Int).length + (rd_L1 x0 x7).length < 140737488355328 then (if x6.length < 5864062014805 then (quartermasterlaw03_RsOwn.l0 k x0 (x6 ++ [(([] : List Int) ++ (rd_L1 x0 x7))]) (wrap64 (x7 + 1))) else (none)) else (none)) else (none)) else ((rs_Encode.f k x0 2).bind fun bt111 => ((cat_Decode.f x0 bt111.1 (x0.length : Int)).bind fun bt115 => (if bt111.2 = 0 then (if bt115.2 = 0 then (if (bt115.1.length : Int) = (wrap64 ((x0.length : Int) + 2)) then ((quartermasterref02_Same.f k x0 x6).bind fun t119 => (some t119)) else (none)) else (none)) else (none))))
end
def quartermasterlaw03_RsOwn.f (k : Nat) (l0 : List (List Int)) : Option (Bool) := (quartermasterlaw03_awake.f).bind fun t101 => ((quartermasterlaw03_light.f k l0).bind fun t102 => ((quartermasterref02_May.f k l0).bind fun t103 => (if t101 = true then (if t102 = true then (quartermasterlaw03_RsOwn.j0 k l0 t101 (!t103)) else (quartermasterlaw03_RsOwn.j0 k l0 t101 true)) else (quartermasterlaw03_RsOwn.j0 k l0 t101 true))))
theorem quartermasterlaw03_RsOwn.mono_l : ∀ k, (∀ y0 y1 y2, LeO (quartermasterlaw03_RsOwn.j0 k y0 y1 y2) (quartermasterlaw03_RsOwn.j0 (k + 1) y0 y1 y2)) ∧ (∀ y0 y1 y2, LeO (quartermasterlaw03_RsOwn.l0 k y0 y1 y2) (quartermasterlaw03_RsOwn.l0 (k + 1) y0 y1 y2))
  | 0 => ⟨fun _ _ _ r h => by simp [quartermasterlaw03_RsOwn.j0] at h, fun _ _ _ r h => by simp [quartermasterlaw03_RsOwn.l0] at h⟩
  | k + 1 => by
    obtain ⟨ih0, ih1⟩ := quartermasterlaw03_RsOwn.mono_l k
    refine ⟨?_, ?_⟩
    · intro y0 y1 y2
      unfold quartermasterlaw03_RsOwn.j0
      repeat' first
      | (with_reducible exact ih0 _ _ _)
      | (with_reducible exact ih1 _ _ _)
      | (with_reducible exact quartermasterlaw03_light.mono _ _)
      | (with_reducible exact quartermasterref02_May.mono _ _)
      | (with_reducible exact quartermasterref02_Same.mono _ _ _)
      | (with_reducible exact rs_Encode.mono _ _ _)
      | (with_reducible exact LeO.refl _)
      | (with_reducible exact LeO.none _)
      | (with_reducible refine LeO.ite ?_ ?_)
      | (with_reducible refine LeO.bind ?_ (fun _ => ?_))
      | exact ih0 _ _ _
      | exact ih1 _ _ _
      | exact quartermasterlaw03_light.mono _ _
      | exact quartermasterref02_May.mono _ _
      | exact quartermasterref02_Same.mono _ _ _
      | exact rs_Encode.mono _ _ _
      | exact LeO.none _
      | refine LeO.ite ?_ ?_
      | refine LeO.bind ?_ (fun _ => ?_)
    · intro y0 y1 y2
      unfold quartermasterlaw03_RsOwn.l0
      repeat' first
      | (with_reducible exact ih0 _ _ _)
      | (with_reducible exact ih1 _ _ _)
      | (with_reducible exact quartermasterlaw03_light.mono _ _)
      | (with_reducible exact quartermasterref02_May.mono _ _)
      | (with_reducible exact quartermasterref02_Same.mono _ _ _)
      | (with_reducible exact rs_Encode.mono _ _ _)
      | (with_reducible exact LeO.refl _)
      | (with_reducible exact LeO.none _)
      | (with_reducible refine LeO.ite ?_ ?_)
      | (with_reducible refine LeO.bind ?_ (fun _ => ?_))
      | exact ih0 _ _ _
      | exact ih1 _ _ _
      | exact quartermasterlaw03_light.mono _ _
      | exact quartermasterref02_May.mono _ _
      | exact quartermasterref02_Same.mono _ _ _
      | exact rs_Encode.mono _ _ _
      | exact LeO.none _
      | refine LeO.ite ?_ ?_
      | refine LeO.bind ?_ (fun _ => ?_)
theorem quartermasterlaw03_RsOwn.mono : ∀ a0 k, LeO (quartermasterlaw03_RsOwn.f k a0) (quartermasterlaw03_RsOwn.f (k + 1) a0) := by
  intro a0 k
  obtain ⟨ih0, ih1⟩ := quartermasterlaw03_RsOwn.mono_l k
  unfold quartermasterlaw03_RsOwn.f
  repeat' first
      | (with_reducible exact ih0 _ _ _)
      | (with_reducible exact ih1 _ _ _)
      | (with_reducible exact quartermasterlaw03_light.mono _ _)
      | (with_reducible exact quartermasterref02_May.mono _ _)
      | (with_reducible exact quartermasterref02_Same.mono _ _ _)
      | (with_reducible exact rs_Encode.mono _ _ _)
      | (with_reducible exact LeO.refl _)
      | (with_reducible exact LeO.none _)
      | (with_reducible refine LeO.ite ?_ ?_)
      | (with_reducible refine LeO.bind ?_ (fun _ => ?_))
      | exact ih0 _ _ _
      | exact ih1 _ _ _
      | exact quartermasterlaw03_light.mono _ _
      | exact quartermasterref02_May.mono _ _
      | exact quartermasterref02_Same.mono _ _ _
      | exact rs_Encode.mono _ _ _
      | exact LeO.none _
      | refine LeO.ite ?_ ?_
      | refine LeO.bind ?_ (fun _ => ?_)
set_option maxHeartbeats 8000000 in
set_option maxRecDepth 100000 in
theorem quartermasterlaw03_RsOwn.calls (k : Nat) (A0 : Option Addr) (c0 : Nat) (l0 : List (List Int)) (r : Bool) (w : World) (hr0 : Kd.C (Kd.slice 5 (Kd.int .u8)) w A0 l0.length l0) (hc0 : l0.length ≤ c0) (h : quartermasterlaw03_RsOwn.f k l0 = some r) :
    Calls Try.prog 20 #[.slice A0 l0.length c0] w fun e w' => e = .returned (.bool r) ∧ Below w.heap.size w w' := by
  have HR0 := Aside0.mk hr0
  have HC0 := Aside0.mk hc0
  clear hr0 hc0
  have HB := Aside0.mk (Below.refl w.heap.size w)
  have H : ((quartermasterlaw03_awake.f).bind fun t101 => ((quartermasterlaw03_light.f k l0).bind fun t102 => ((quartermasterref02_May.f k l0).bind fun t103 => (if t101 = true then (if t102 = true then (quartermasterlaw03_RsOwn.j0 k l0 t101 (!t103)) else (quartermasterlaw03_RsOwn.j0 k l0 t101 true)) else (quartermasterlaw03_RsOwn.j0 k l0 t101 true))))) = some r := h
  clear h
  replace H := Option.bind_eq_some_iff.mp H
  obtain ⟨t101, A20, H⟩ := H
  replace H : ((quartermasterlaw03_light.f k l0).bind fun t102 => ((quartermasterref02_May.f k l0).bind fun t103 => (if t101 = true then (if t102 = true then (quartermasterlaw03_RsOwn.j0 k l0 t101 (!t103)) else (quartermasterlaw03_RsOwn.j0 k l0 t101 true)) else (quartermasterlaw03_RsOwn.j0 k l0 t101 true)))) = some r := H
  have A2 := Aside0.mk A20
  clear A20
  replace H := Option.bind_eq_some_iff.mp H
  obtain ⟨t102, A30, H⟩ := H
  replace H : ((quartermasterref02_May.f k l0).bind fun t103 => (if t101 = true then (if t102 = true then (quartermasterlaw03_RsOwn.j0 k l0 t101 (!t103)) else (quartermasterlaw03_RsOwn.j0 k l0 t101 true)) else (quartermasterlaw03_RsOwn.j0 k l0 t101 true))) = some r := H
  have A3 := Aside0.mk A30
  clear A30
  replace H := Option.bind_eq_some_iff.mp H
  obtain ⟨t103, A40, H⟩ := H
  replace H : (if t101 = true then (if t102 = true then (quartermasterlaw03_RsOwn.j0 k l0 t101 (!t103)) else (quartermasterlaw03_RsOwn.j0 k l0 t101 true)) else (quartermasterlaw03_RsOwn.j0 k l0 t101 true)) = some r := H
  have A4 := Aside0.mk A40
  clear A40
  have HC5 := Aside0.mk H
  clear H
  go_enter Try.func20, Try.ntmps20
  go_upto_region 4 with (first | ((with_reducible refine gate_callee (f := 49) rfl ?_); refine goesL_ (some 14) rfl rfl Try.func49 (by kernel_rfl) rfl #[] rfl (by (try simp only [List.map_toArray, List.map_cons, List.map_nil]); first | done | rfl | (simp only [List.length_drop, List.length_take]; rfl)) ?_; (with_reducible refine (quartermasterlaw03_awake.calls  t101 _ A2.out).mono ?_); rintro e w6 ⟨rfl, hb⟩; refine ⟨_, rfl, ?_⟩; have n0_ := Aside0.mk (below_step (by repeat (first | (with_reducible first | exact HB.out | apply below_alloc | apply pw_below_drewN | apply below_drew1) | exact HB.out)) hb); clear HB; have HB := n0_; clear n0_; (try clear hb); (try clear hb2); (try clear hk); (try clear hi)) | ((with_reducible refine gate_callee (f := 50) rfl ?_); refine goesL_ (some 16) rfl rfl Try.func50 (by kernel_rfl) rfl #[.slice A0 l0.length c0] rfl (by (try simp only [List.map_toArray, List.map_cons, List.map_nil]); first | done | rfl | (simp only [List.length_drop, List.length_take]; rfl)) ?_; (with_reducible refine (quartermasterlaw03_light.calls k _ _ l0 t102 _ ?side1 ?side2 A3.out).mono ?_); (case side1 => repeat (first | exact (Kd.C_below HR0.out HB.out) | (with_reducible refine Kd.C_alloc ?_ _) | (with_reducible refine Kd.C_drewN ?_ _) | (with_reducible refine Kd.C_drew ?_))); (case side2 => exact HC0.out); rintro e w' ⟨rfl, ⟨nd, rfl⟩⟩; refine ⟨_, rfl, ?_⟩) | ((with_reducible refine gate_callee (f := 43) rfl ?_); refine goesL_ (some 18) rfl rfl Try.func43 (by kernel_rfl) rfl #[.slice A0 l0.length c0] rfl (by (try simp only [List.map_toArray, List.map_cons, List.map_nil]); first | done | rfl | (simp only [List.length_drop, List.length_take]; rfl)) ?_; (with_reducible refine (quartermasterref02_May.calls k _ _ l0 t103 _ ?side1 ?side2 A4.out).mono ?_); (case side1 => repeat (first | exact (Kd.C_below HR0.out (by repeat (first | (with_reducible first | exact HB.out | apply below_alloc | apply pw_below_drewN | apply below_drew1) | exact HB.out))) | (with_reducible refine Kd.C_alloc ?_ _) | (with_reducible refine Kd.C_drewN ?_ _) | (with_reducible refine Kd.C_drew ?_))); (case side2 => exact HC0.out); rintro e w' ⟨rfl, ⟨nd, rfl⟩⟩; refine ⟨_, rfl, ?_⟩))
  (try simp only [Act.put, List.setIfInBounds_toArray, List.set_cons_zero, List.set_cons_succ])
  go_cut [28] (fun v28 wc => ∃ (kq : Nat) (x28_4 : Bool), v28 = .bool x28_4 ∧ Aside0 (quartermasterlaw03_RsOwn.j0 kq l0 t101 x28_4 = some r) ∧ Aside0 (kq ≤ k) ∧ Aside0 (Below w.heap.size w wc))
  case first =>
    have H := HC5.out
    clear HC5
    by_cases c7 : t101 = true
    · subst c7
      have H1 : (if t102 = true then (quartermasterlaw03_RsOwn.j0 k l0 true (!t103)) else (quartermasterlaw03_RsOwn.j0 k l0 true true)) = some r := by rw [if_pos rfl] at H; exact H
      clear H
      have H := H1
      clear H1
      by_cases c8 : t102 = true
      · subst c8
        have H1 : (quartermasterlaw03_RsOwn.j0 k l0 true (!t103)) = some r := by rw [if_pos rfl] at H; exact H
        clear H
        have H := H1
        clear H1
        have H' := Aside0.mk H
        clear H
        go_wp2
        go_meet
        case rel => exact ⟨_, (!t103), (by first | rfl | (simp; done) | (simp [*]; done)), H', ⟨by first | omega | exact Nat.le_refl _⟩, ⟨by repeat (first | (with_reducible first | exact HB.out | apply below_alloc | apply pw_below_drewN | apply below_drew1) | exact HB.out)⟩⟩
      · replace c8 := Bool.eq_false_iff.mpr c8
        subst c8
        have H1 : (quartermasterlaw03_RsOwn.j0 k l0 true true) = some r := by rw [if_neg (show ¬ (false = true) by decide)] at H; exact H
        clear H
        have H := H1
        clear H1
        have H' := Aside0.mk H
        clear H
        go_wp2
        go_meet
        case rel => exact ⟨_, (true), (by first | rfl | (simp; done) | (simp [*]; done)), H', ⟨by first | omega | exact Nat.le_refl _⟩, ⟨by repeat (first | (with_reducible first | exact HB.out | apply below_alloc | apply pw_below_drewN | apply below_drew1) | exact HB.out)⟩⟩
    · replace c7 := Bool.eq_false_iff.mpr c7
      subst c7
      have H1 : (quartermasterlaw03_RsOwn.j0 k l0 false true) = some r := by rw [if_neg (show ¬ (false = true) by decide)] at H; exact H
      clear H
      have H := H1
      clear H1
      have H' := Aside0.mk H
      clear H
      go_wp2
      go_meet
      case rel => exact ⟨_, (true), (by first | rfl | (simp; done) | (simp [*]; done)), H', ⟨by first | omega | exact Nat.le_refl _⟩, ⟨by repeat (first | (with_reducible first | exact HB.out | apply below_alloc | apply pw_below_drewN | apply below_drew1) | exact HB.out)⟩⟩
  case rest =>
    clear HC5
    try clear c2
    try clear p2
    try clear c4
    try clear c5
    try clear c7
    try clear c8
    obtain ⟨kq, x28_4, rfl, HA, HJ4, HB⟩ := hcut
    cases kq with
    | zero => exact absurd HA.out (by simp [quartermasterlaw03_RsOwn.j0])
    | succ kj4 =>
      have H := HA.out
      clear HA
      simp only [quartermasterlaw03_RsOwn.j0] at H
      by_cases c9 : x28_4 = true
      · subst c9
        have H1 : (some t101) = some r := by rw [if_pos rfl] at H; exact H
        clear H
        have H := H1
        clear H1
        obtain rfl := Option.some.inj H
        go_wp2
        go_ret
        exact ⟨by first | rfl | (simp [errW_none, errW_some] <;> rfl) | (simp [*, errW_none, errW_some] <;> rfl), by repeat (first | (with_reducible first | exact HB.out | apply below_alloc | apply pw_below_drewN | apply below_drew1) | exact HB.out)⟩
      · replace c9 := Bool.eq_false_iff.mpr c9
        subst c9
        have H1 : (quartermasterlaw03_RsOwn.l0 kj4 l0 ([] : List (List Int)) 0) = some r := by rw [if_neg (show ¬ (false = true) by decide)] at H; exact H
        clear H
        have H := H1
        clear H1
        have H' := Aside0.mk H
        clear H
        go_wp2
        go_loopg [6, 7] kj4 (fun kq v6 v7 w' => ∃ (x6_2 : List (List Int)) (x7_2 : Int), v7 = .int .i64 x7_2 ∧ Aside0 (quartermasterlaw03_RsOwn.l0 kq l0 x6_2 x7_2 = some r) ∧ Aside0 (kq ≤ kj4) ∧ Aside0 (Kd.S (Kd.slice 5 (Kd.int .u8)) 43 w' w.heap.size (fun _ => True) v6 x6_2) ∧ Aside0 (Below w.heap.size w w'))
        case atStart => exact ⟨(([] : List (List Int))), (0), (by first | rfl | (simp; done) | (simp [*]; done)), H', ⟨Nat.le_refl _⟩, ⟨by first | exact Kd.S_nil _ _ _ _ _ | exact Kd.N_nil _ _ _ _ _ | exact Kd.V_nil _ _ _ _ _ | exact Kd.Q_nil _ _ _ _ _ | exact Kd.R_nil _ _ _ _ _⟩, ⟨by repeat (first | (with_reducible first | exact HB.out | apply below_alloc | apply pw_below_drewN | apply below_drew1) | exact HB.out)⟩⟩
        case round =>
          clear H'
          try clear c2
          try clear p2
          try clear c4
          try clear c5
          try clear c7
          try clear c8
          try clear c9
          try clear p2
          obtain ⟨x6_2, x7_2, rfl, HA, HK2, HO_6, HB⟩ := hrel
          cases gk with
          | zero => exact absurd HA.out (by simp [quartermasterlaw03_RsOwn.l0])
          | succ k2 =>
            have H := HA.out
            clear HA
            simp only [quartermasterlaw03_RsOwn.l0] at H
            by_cases c10 : x7_2 < (l0.length : Int)
            · rw [if_pos c10] at H
              have c10b0 : decide (x7_2 < (l0.length : Int)) = true := decide_eq_true c10
              clear c10
              by_cases c11 : 0 ≤ x7_2
              · rw [if_pos c11] at H
                have c11b0 : decide (0 ≤ x7_2) = true := decide_eq_true c11
                clear c11
                by_cases c12 : ([] : List Int).length + (rd_L1 l0 x7_2).length < 140737488355328
                · rw [if_pos c12] at H
                  have LMc12 := Aside0.mk c12
                  clear c12
                  obtain ⟨y105, hy105⟩ : ∃ y_ : List Int, y_ = (([] : List Int) ++ (rd_L1 l0 x7_2)) := ⟨_, rfl⟩
                  replace H : (if x6_2.length < 5864062014805 then (quartermasterlaw03_RsOwn.l0 k2 l0 (x6_2 ++ [y105]) (wrap64 (x7_2 + 1))) else (none)) = some r := by first | (rw [hy105]; with_reducible exact H) | (have H2_ := (Option.bind_some _ _).symm.trans H; rw [hy105]; with_reducible exact H2_) | (have H2_ := (Option.bind_some _ _).symm.trans H; with_reducible exact H2_) | with_reducible exact H | (rw [hy105]; exact H) | exact H
                  have Ny105 := Aside0.mk hy105
                  clear hy105
                  by_cases c13 : x6_2.length < 5864062014805
                  · rw [if_pos c13] at H
                    have LMc13 := Aside0.mk c13
                    clear c13
                    obtain ⟨y108, hy108⟩ : ∃ y_ : List (List Int), y_ = (x6_2 ++ [y105]) := ⟨_, rfl⟩
                    replace H : (quartermasterlaw03_RsOwn.l0 k2 l0 y108 (wrap64 (x7_2 + 1))) = some r := by first | (rw [hy108]; with_reducible exact H) | (have H2_ := (Option.bind_some _ _).symm.trans H; rw [hy108]; with_reducible exact H2_) | (have H2_ := (Option.bind_some _ _).symm.trans H; with_reducible exact H2_) | with_reducible exact H | (rw [hy108]; exact H) | exact H
                    have Ny108 := Aside0.mk hy108
                    clear hy108
                    have H' := Aside0.mk H
                    clear H
                    have p104 : 0 ≤ (x7_2 : Int) := of_decide_eq_true (by first | (with_reducible assumption) | assumption)
                    have q104 : x7_2 < (l0.length : Int) := of_decide_eq_true (by first | (with_reducible assumption) | assumption)
                    obtain ⟨ad104, A104_0, c104_0, e104, hx104_0, hl104_0, hi104_0⟩ := at_L1 HR0.out x7_2 p104 q104
                    cases e104
                    replace hx104_0 := (HB.out.cell (World.block_lt_of_cell? w _ hx104_0)).trans hx104_0
                    have HR104_0 := Aside0.mk hi104_0
                    have HC104_0 := Aside0.mk hl104_0
                    clear hi104_0 hl104_0
                    replace p104 := eq_true p104
                    replace q104 := eq_true q104
                    go_wp2_with (first | ((with_reducible refine gate_builtin (b := .append) (xs := #[.const (.slice none 0 0), .tmp 40]) rfl ?_); (try (refine gate_guard (by rfl) ?_; dsimp only)); at_builtin; refine Kd.R_append_rows (Kd.int .u8) (w0 := w) w.heap.size rfl (.const (.slice none 0 0)) (.tmp 40) 43 5 (.int .u8 0) 1 rfl Try.underlying43 info5 rfl (by decide) (by omega) (.slice none 0 0) ([] : List Int) (rd_L1 l0 x7_2) _ _ _ (fun _ => True) (fun _ => False) rfl rfl ?aO ?aR (fun _ _ h => h) (fun _ h => h.elim) ?aF ?aB ?aS ?aL ?_; (case aR => repeat (first | exact (Kd.C_below HR104_0.out HB.out) | (with_reducible refine Kd.C_alloc ?_ _) | (with_reducible refine Kd.C_drewN ?_ _) | (with_reducible refine Kd.C_drew ?_))); (case aB => exact (by repeat (first | (with_reducible first | exact HB.out | apply below_alloc | apply pw_below_drewN | apply below_drew1) | exact HB.out))); (case aF => exact (fun _ _ => trivial)); (case aO => exact ((Kd.R_nil _ _ _ _ (fun _ => True)))); (case aS => exact (below_size (by repeat (first | (with_reducible first | exact HB.out | apply below_alloc | apply pw_below_drewN | apply below_drew1) | exact HB.out)))); (case aL => have := LMc12.out; omega); intro v106 w14 ho hb hg hat; rw [← Ny105.out] at ho; have n0_ := Aside0.mk (Kd.S_after (Kd.S_apart_nil (by (with_reducible repeat (first | apply Kd.S_alloc | apply Kd.S_drewN | apply Kd.S_drew)); exact HO_6.out)) hg hat); have n1_ := Aside0.mk (hb); have n2_ := Aside0.mk (ho); clear HO_6; clear HB; have HO_6 := n0_; have HB := n1_; have HO107 := n2_; clear n0_ n1_ n2_; clear ho hb hg hat; obtain ⟨Ao16, co16, eo16⟩ := Kd.R_slice HO107.out; subst eo16) | ((with_reducible refine gate_builtin (b := .append) (xs := #[.tmp 36, .tmp 42]) rfl ?_); (try (refine gate_guard (by rfl) ?_; dsimp only)); at_builtin; refine Kd.S_append (Kd.slice 5 (Kd.int .u8)) (w0 := w) w.heap.size rfl (.tmp 36) (.tmp 42) 42 43 (.slice none 0 0) 24 rfl Try.underlying42 info43 rfl (by decide) (by omega) u6 x6_2 y105 [.slice Ao16 y105.length co16] (fun _ => True) (fun k_ => some k_ = (.slice Ao16 y105.length co16 : Value).ownBlock) rfl rfl ?aP (fun k_ hk_ => ((Kd.R_mono (ok' := fun k_ => ((fun _ => True)) k_ ∧ some k_ ≠ (u6 : Value).ownBlock) (Kd.R_apart' (HO107.out) (Kd.S_typed HO_6.out) (by decide)) (fun k_ hk => ⟨trivial, hk.2⟩))).1 k_ hk_.symm) ?aF ?aO ?aB ?aS ?aL ?_; (case aP => exact Kd.M_row (Kd.R_mono (Kd.R_tight rfl (Kd.R_mono (ok' := fun k_ => ((fun _ => True)) k_ ∧ some k_ ≠ (u6 : Value).ownBlock) (Kd.R_apart' (HO107.out) (Kd.S_typed HO_6.out) (by decide)) (fun k_ hk => ⟨trivial, hk.2⟩))) (fun _ h_ => h_))); (case aB => exact (by repeat (first | (with_reducible first | exact HB.out | apply below_alloc | apply pw_below_drewN | apply below_drew1) | exact HB.out))); (case aF => exact (fun _ _ => trivial)); (case aO => exact (by (with_reducible repeat (first | apply Kd.S_alloc | apply Kd.S_drewN | apply Kd.S_drew)); exact Kd.S_mono HO_6.out (fun k_ hk => ⟨trivial, fun e_ => hk.2 e_⟩))); (case aS => exact (below_size (by repeat (first | (with_reducible first | exact HB.out | apply below_alloc | apply pw_below_drewN | apply below_drew1) | exact HB.out)))); (case aL => have := LMc13.out; omega); intro v109 w15 ho hb hg hat; rw [← Ny108.out] at ho; have n0_ := Aside0.mk (hb); have n1_ := Aside0.mk (ho); clear HB; clear HO_6; clear HO107; have HB := n0_; have HO110 := n1_; clear n0_ n1_; clear ho hb hg hat))
                    go_roundg k2
                    case measure => have := HJ4.out; have := HK2.out; omega
                    case rel => exact ⟨(y108), (wrap64 (x7_2 + 1)), (by first | rfl | (simp; done) | (simp [*]; done)), H', ⟨by have := HJ4.out; have := HK2.out; omega⟩, ⟨by (with_reducible repeat (first | apply Kd.S_alloc | apply Kd.S_drewN | apply Kd.S_drew)); exact HO110.out⟩, ⟨by repeat (first | (with_reducible first | exact HB.out | apply below_alloc | apply pw_below_drewN | apply below_drew1) | exact HB.out)⟩⟩
                  · rw [if_neg c13] at H
                    exact absurd H (by simp)
                · rw [if_neg c12] at H
                  exact absurd H (by simp)
              · rw [if_neg c11] at H
                exact absurd H (by simp)
            · rw [if_neg c10] at H
              have c10b0 : decide (x7_2 < (l0.length : Int)) = false := decide_eq_false c10
              clear c10
              replace H := Option.bind_eq_some_iff.mp H
              obtain ⟨⟨t111, t112⟩, A170, H⟩ := H
              replace H : ((cat_Decode.f l0 t111 (l0.length : Int)).bind fun bt115 => (if t112 = 0 then (if bt115.2 = 0 then (if (bt115.1.length : Int) = (wrap64 ((l0.length : Int) + 2)) then ((quartermasterref02_Same.f k2 l0 x6_2).bind fun t119 => (some t119)) else (none)) else (none)) else (none))) = some r := H
              have A17 := Aside0.mk A170
              clear A170
              replace H := Option.bind_eq_some_iff.mp H
              obtain ⟨⟨t115, t116⟩, A180, H⟩ := H
              replace H : (if t112 = 0 then (if t116 = 0 then (if (t115.length : Int) = (wrap64 ((l0.length : Int) + 2)) then ((quartermasterref02_Same.f k2 l0 x6_2).bind fun t119 => (some t119)) else (none)) else (none)) else (none)) = some r := H
              have A18 := Aside0.mk A180
              clear A180
              by_cases c19 : t112 = 0
              · rw [if_pos c19] at H
                have c19b0 : (t112 == 0) = true := beq_iff_eq.mpr c19
                have c19b1 : (t112 != 0) = false := bne_eq_false_iff_eq.mpr c19
                clear c19
                by_cases c20 : t116 = 0
                · rw [if_pos c20] at H
                  have c20b0 : (t116 == 0) = true := beq_iff_eq.mpr c20
                  have c20b1 : (t116 != 0) = false := bne_eq_false_iff_eq.mpr c20
                  clear c20
                  by_cases c21 : (t115.length : Int) = (wrap64 ((l0.length : Int) + 2))
                  · rw [if_pos c21] at H
                    have c21b0 : ((t115.length : Int) == (wrap64 ((l0.length : Int) + 2))) = true := beq_iff_eq.mpr c21
                    have c21b1 : ((t115.length : Int) != (wrap64 ((l0.length : Int) + 2))) = false := bne_eq_false_iff_eq.mpr c21
                    clear c21
                    replace H := Option.bind_eq_some_iff.mp H
                    obtain ⟨t119, A220, H⟩ := H
                    replace H : (some t119) = some r := H
                    have A22 := Aside0.mk A220
                    clear A220
                    obtain rfl := Option.some.inj H
                    have hcat : (l0 ++ t111).length < 1000000 ∧ rs_Decode.f (l0 ++ t111) (l0.length : Int) = some (t115, t116) := by
                      have h := A18.out
                      unfold cat_Decode.f at h
                      by_cases g : l0.length + t111.length < 1000000
                      · rw [if_pos g] at h
                        exact ⟨by rw [List.length_append]; exact g, h⟩
                      · rw [if_neg g] at h; cases h
                    have HCT := Lib.hid hcat
                    have h24 : t115.length ≤ 2000000 ∧ 0 < t115.length := by
                      have h2 : (t115.length : Int) = wrap64 ((l0.length : Int) + 2) := eq_of_beq c21b0
                      have h3 := hcat.1
                      rw [List.length_append] at h3
                      have : wrap64 ((l0.length : Int) + 2) = (l0.length : Int) + 2 := by unfold wrap64; omega
                      rw [this] at h2
                      omega
                    have H24 := Lib.hid h24
                    clear h24
                    clear hcat
                    go_wp2_with fail
                    refine (rs_Encode.calls k2 A0 c0 l0 2 t111 t112 _ (Kd.C_below HR0.out HB.out) HC0.out A17.out).mono ?_
                    rintro e w3 ⟨v113, rfl, ho0, hb⟩
                    obtain ⟨Ae, ce, rfl⟩ := Kd.S_slice ho0
                    have HB3 := Aside0.mk (HB.out.trans (hb.mono HB.out.size))
                    have HF3 := Aside0.mk (Kd.F_mono (Kd.F_bound (Kd.S_F ho0)) (ok' := fun k => k < w3.heap.size) (fun k hk => hk.2))
                    have HW3 := Aside0.mk (Kd.S_below HO_6.out hb)
                    have HD3 := Aside0.mk (Kd.C_F (Kd.heap_slice 5 (Kd.heap_int .u8)) (Kd.C_below HR0.out HB3.out))
                    have HL0 := Aside0.mk (show (([] : List (List Int)).length + l0.length) * 24 ≤ 140737488355328 by have := HCT.out.1; rw [List.length_append] at this; rw [List.length_nil]; omega)
                    have HL1 := Aside0.mk (show (l0.length + t111.length) * 24 ≤ 140737488355328 by have := HCT.out.1; rw [List.length_append] at this; omega)
                    clear hb ho0 HB HO_6
                    go_wp2_with (at_builtin; refine Kd.N_append_rows (Kd.slice 5 (Kd.int .u8)) (w0 := w3) w3.heap.size rfl (.const (.slice none 0 0)) (.tmp 50) 42 43 (.slice none 0 0) 24 rfl Try.underlying42 info43 rfl (by decide) (by omega) (.slice none 0 0) ([] : List (List Int)) l0 A0 l0.length c0 (fun _ => True) (fun k => k < w3.heap.size) rfl rfl ?aO ?aR ?aP (fun _ _ => trivial) ?aB ?aS ?aL ?_)
                    case aO => exact Kd.N_nil _ _ _ _ _
                    case aR => exact HD3.out
                    case aP => exact fun k hk => ⟨trivial, by simp [Value.ownBlock]⟩
                    case aB => exact Below.refl _ _
                    case aS => exact Nat.le_refl _
                    case aL => exact HL0.out
                    intro v1 w4 ho hb hg hat
                    have HN4 := Aside0.mk (show Kd.N _ _ _ _ _ _ l0 from ho)
                    have HB4 := Aside0.mk hb
                    clear ho hb hg hat
                    go_wp2_with (at_builtin; refine Kd.N_append_rows (Kd.slice 5 (Kd.int .u8)) (w0 := w3) w3.heap.size rfl (.tmp 51) (.tmp 52) 42 43 (.slice none 0 0) 24 rfl Try.underlying42 info43 rfl (by decide) (by omega) v1 l0 t111 Ae t111.length ce (fun _ => True) (fun k => k < w3.heap.size) rfl rfl ?aO ?aR ?aP (fun _ _ => trivial) ?aB ?aS ?aL ?_)
                    case aO => exact HN4.out
                    case aR => exact Kd.F_below HF3.out HB4.out
                    case aP => exact fun k hk => ⟨trivial, fun e => by have := Kd.N_base HN4.out k e.symm; omega⟩
                    case aB => exact HB4.out
                    case aS => exact HB4.out.size
                    case aL => exact HL1.out
                    intro v2 w5 ho hb hg hat
                    obtain ⟨y2, hy2⟩ : ∃ y, y = l0 ++ t111 := ⟨_, rfl⟩
                    rw [← hy2] at ho
                    have HDC := Aside0.mk (show rs_Decode.f y2 (l0.length : Int) = some (t115, t116) by rw [hy2]; exact HCT.out.2)
                    obtain ⟨A2, c2, rfl⟩ := Kd.N_slice ho
                    have HN5 := Aside0.mk (Kd.N_reads' ho)
                    have HB5 := Aside0.mk hb
                    clear ho hb hg hat hy2 HN4 HB4 HD3 HF3 HL0 HL1
                    go_wp2_with fail
                    refine (rs_Decode.calls A2 c2 y2 (l0.length : Int) t115 t116 w5 HN5.out.2.2 HN5.out.2.1 HDC.out).mono ?_
                    rintro e w6 ⟨va, rfl, hS, hb6⟩
                    have HB6 := Aside0.mk (HB5.out.trans (hb6.mono HB5.out.size))
                    have hsz := HB5.out.size
                    clear HN5 HDC HB5 hb6 HCT
                    obtain ⟨ob, ca, rfl, _, _, _⟩ := Kd.S_form hS H24.out.2
                    have HS6 := Lib.hid (shape_lower hsz (shape_of_S hS))
                    have hnb : Hid (t115.length ≤ 2000000) := H24.out.1
                    clear hS hsz H24
                    generalize hLd : (fun i => (t115.getD i []).length) = LL at HS6
                    clear hLd
                    go_wp2
                    go_loopw [12] (fun v12 wr => ∃ i : Nat, v12 = .int .i64 i ∧ Hid (i ≤ t115.length) ∧ Hid (Shape wr w3.heap.size ob t115.length LL) ∧ Hid (Below w3.heap.size w3 wr)) (fun v _ => t115.length - (intOf v).toNat)
                    case atStart => exact ⟨0, rfl, Nat.zero_le _, HS6, HB6.out⟩
                    case round =>
                      obtain ⟨i, rfl, hi, HS, HW⟩ := hrel
                      by_cases hlt : i < t115.length
                      · have hil : Hid (i < t115.length) := hlt
                        go_wp2
                        go_loopw [13] (fun v13 wr => ∃ j : Nat, v13 = .int .i64 j ∧ Hid (j ≤ LL i) ∧ Hid (Shape wr w3.heap.size ob t115.length LL) ∧ Hid (Below w3.heap.size w3 wr)) (fun v _ => LL i - (intOf v).toNat)
                        case atStart => exact ⟨0, rfl, Nat.zero_le _, HS, HW⟩
                        case round =>
                          obtain ⟨j, rfl, hj, HT, HV⟩ := hrel
                          obtain ⟨A, c, h1, h2, h3⟩ := HT.out i hil.out
                          by_cases hlj : j < LL i
                          · have hjl : Hid (j < LL i) := hlj
                            obtain ⟨g, cells, rfl, hgB, hgo, hcells, hx⟩ := h3 (by omega)
                            obtain ⟨x, hx⟩ := hx j hlj
                            have d1 : wr.cell? ⟨g, j, none⟩ = some (.int .u8 x) := (blk_cell hcells j).trans hx
                            have d2 := blk_frozen hcells j
                            have HGB := Lib.hid hgB
                            have hle := Lib.hid h2
                            have HGO := Lib.hid hgo
                            clear h2 h3 hgB hgo hcells hx
                            go_wp2_with fail
                            go_region
                            go_wp2
                            go_roundw
                            case rel => exact ⟨j + 1, next_i (by have := hjl.out; have := hle.out; omega), hjl.out, (shape_store HT.out HGO.out _).drew, (HV.out.setCell HGB.out _).drew⟩
                            case measure => exact meas_i hle.out hjl.out
                          · clear h2 h3
                            go_wp2
                            go_roundw
                            case rel => exact ⟨i + 1, next_i (by have := hil.out; have := hnb.out; omega), hil.out, HT, HV⟩
                            case measure => exact meas_i (by have := hnb.out; omega) hil.out
                      · have HW0 := Lib.hid (Kd.S_below HW3.out HW.out)
                        have HB0 := Lib.hid (HB3.out.trans (HW.out.mono HB3.out.size))
                        obtain ⟨Aw, cw, rfl⟩ := Kd.S_slice HW0.out
                        clear HS HW
                        go_wp2_with fail
                        refine (quartermasterref02_Same.calls k2 A0 c0 l0 Aw cw x6_2 t119 _ (Kd.C_below HR0.out HB0.out) HC0.out (Kd.S_reads' HW0.out).2.2 (Kd.S_reads' HW0.out).2.1 A22.out).mono ?_
                        rintro e w' ⟨rfl, ⟨nd, rfl⟩⟩
                        go_wp2_with fail
                        go_ret
                        exact ⟨rfl, by repeat (first | (with_reducible first | exact HB0.out | apply below_alloc | apply pw_below_drewN | apply below_drew1) | exact HB0.out)⟩
                  · rw [if_neg c21] at H
                    exact absurd H (by simp)
                · rw [if_neg c20] at H
                  exact absurd H (by simp)
              · rw [if_neg c19] at H
                exact absurd H (by simp)
end Go.Proofs.Ythblmkailhdhlaa.XO
