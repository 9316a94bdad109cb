import Derived.Test.YthblmkailhdhlaaProg
import Derived.Test.YthblmkailhdhlaaD3
import Derived.Test.YthblmkailhdhlaaD2
import Derived.Below
import Derived.Deep.Draws
import Derived.Deep.AppendLies
import Derived.Maps.AppendAt
import Derived.OwnWalk
import Derived.Laws.BytesArg
import Derived.Laws.MakeOwn
import Derived.Laws.OwnMore
import Derived.Deep.OwnRows
import Derived.Tactics
import Derived.Lib.ConvBytes
import Derived.Laws.Slices
import Derived.WalkKit
import Derived.KernelRfl
import Derived.RowKit3
import Derived.Deep.LoopGhost
import Derived.Deep.QuietTactic
import Derived.BigQuiet
import Derived.WideLaws
import Derived.Deep.DeepCutAuto
import Derived.Deep.CutBlock
import Derived.Deep.RegionHeld3
import Derived.Laws.Rows
import Derived.Lib.AppendStr
import Derived.ArgAppend
import Derived.Laws.IdiomCopy
import Derived.OrdersHeld
import Derived.Laws.BitsLemmas
import Derived.RowKit
import Derived.Test.YthblmkailhdhlaaWWords
import Derived.Test.YthblmkailhdhlaaWLast
import Derived.Test.YthblmkailhdhlaaWTab
import Derived.Test.YthblmkailhdhlaaWQPut
import Derived.Test.YthblmkailhdhlaaWApart
import Derived.Test.YthblmkailhdhlaaWArr
import Derived.Test.YthblmkailhdhlaaWZeros
import Derived.Test.YthblmkailhdhlaaWFoot
import Derived.Test.YthblmkailhdhlaaWKept
import Derived.Test.YthblmkailhdhlaaWShare
import Derived.Test.YthblmkailhdhlaaWN
import Derived.Test.YthblmkailhdhlaaWRepsOne
import Derived.Test.YthblmkailhdhlaaWGuard
import Derived.Test.YthblmkailhdhlaaWNEv
import Derived.Test.YthblmkailhdhlaaWMore
import Derived.Lib.Hide
-- PRINTED by print.py (a twelfth state) out of the translation. Not trusted: Lean checks it.
namespace Go.Proofs.Ythblmkailhdhlaa.T
open Go.Proofs.Ythblmkailhdhlaa.G Go.Proofs.Ythblmkailhdhlaa.P Go.Proofs.Ythblmkailhdhlaa.Given Go.RowKit Go.Proofs.YthblmkailhdhlaaW.PrintWords Go.Proofs.YthblmkailhdhlaaW.PrintLast Go.Proofs.YthblmkailhdhlaaW.PrintMore
attribute [local go_sem] max2_int min2_int max_two min_two max_three min_three max_four min_four   -- for this text's walks alone
set_option linter.unusedVariables false
set_option linter.unusedSimpArgs false
def errW : Option Int → Value
  | none => .nilIface
  | some c => .iface 0 (.int .i64 c)
theorem errW_none : errW none = .nilIface := rfl
theorem errW_some (c : Int) : errW (some c) = .iface 0 (.int .i64 c) := rfl
theorem info43 : (Try.prog.info? 43).map (fun i => (i.zero, i.size, i.bytes)) = some (some (.slice none 0 0), 1, 24) := by kernel_rfl
-- the values' own types
def rd_L1 (xs : List (List Int)) (i : Int) : (List Int) := xs.getD i.toNat ([] : List Int)
theorem at_L1 {w : World} {A : Option Addr} {n : Nat} {xs : List (List Int)} (h : Kd.C (Kd.slice 5 (Kd.int .u8)) w A n xs) (i : Int) (h0 : 0 ≤ i) (h1 : i < n) : ∃ ad A0 c0, A = some ad ∧ w.cell? (ad.add i.toNat) = some (.slice A0 (rd_L1 xs i).length c0) ∧ (rd_L1 xs i).length ≤ c0 ∧ (Kd.int .u8).C w A0 (rd_L1 xs i).length (rd_L1 xs i) := by
  obtain ⟨ad, c, e, _, hK, hc0⟩ := Kd.C_get h ([] : List Int) i h0 h1
  have hc : ∀ j u, c[j]? = some u → w.cell? (ad.add (i.toNat * 1 + j)) = some u := hc0
  obtain ⟨A0, c0, rfl, l0, g0⟩ := hK
  exact ⟨ad, A0, c0, e, by have hq := hc 0 _ rfl; rwa [Nat.mul_one, Nat.add_zero] at hq, l0, g0⟩
end Go.Proofs.Ythblmkailhdhlaa.T
/- Rows appended to rows, all of them apart. -/
namespace Go.Proofs.Ythblmkailhdhlaa.T
set_option linter.unusedVariables false
open Go.RowKit Go.Proofs.YthblmkailhdhlaaW.PrintWords
theorem zipIdx_app {α : Type} (xs ys : List α) : (xs ++ ys).zipIdx = xs.zipIdx ++ ys.zipIdx xs.length := by rw [List.zipIdx_append]; simp
open Classical in
theorem S_append_rows {P : Program} {ops : Array Oper} {rest : List Oper} {o : Oper} {a : Act} {Q : Exit → Act → World → Prop} {α : Type} (d : Kd α) {w0 W : World} (base : Nat) (hgd : o.guard = none) (s x : Operand) (t e : TypeId) (z : Value) (bytes : Nat)
    (ho : o.op = .call { callee := .builtin .append, args := #[s, x], argTypes := #[t, t] })
    (ht : P.underlying t = some (.slice e)) (hinfo : (P.info? e).map (fun i => (i.zero, i.size, i.bytes)) = some (some z, d.sz, bytes)) (hz : z.cells.size = d.sz) (hs0 : 0 < d.sz) (hb0 : 0 < bytes)
    (v : Value) (xs ys : List α) (A : Option Addr) (c : Nat) (ok okp : Nat → Prop) (hs : a.eval s = v) (hx : a.eval x = .slice A ys.length c)
    (HO : Kd.S d e W base (fun k => ok k ∧ ¬ okp k) v xs) (HR : Kd.S d e W base okp (.slice A ys.length c) ys) (hokp : ∀ k, okp k → ok k ∧ some k ≠ v.ownBlock) (hfresh : ∀ k, W.heap.size ≤ k → ok k)
    (HB : Below base w0 W) (hbase : base ≤ W.heap.size) (hl : (xs.length + ys.length) * bytes ≤ 140737488355328)
    (h : ∀ v1 w1, Kd.S d e w1 base ok v1 (xs ++ ys) → Below base w0 w1 → W.grownBy w1 v.ownBlock → (v1.ownBlock = v.ownBlock ∨ ∃ b, v1.ownBlock = some b ∧ W.heap.size ≤ b) → wpList P ops Q rest (a.put o.dst v1) w1) :
    wpList P ops Q (o :: rest) a W := by
  obtain ⟨f1, h1⟩ := HO
  obtain ⟨f2, h2⟩ := HR
  have g1 : (Kd.tag (fun k => if okp k then f2 k + xs.length else f1 k) d).R e W base ok v xs.zipIdx :=
    Kd.R_mono (Kd.R_tag (f' := fun k => if okp k then f2 k + xs.length else f1 k) h1 (fun k hk _ => if_neg hk.2)) (fun _ hk => hk.1)
  obtain ⟨A', c', e', hl', hr⟩ := OwnRow.reads h2.2
  injection e' with ea el ec
  subst ea
  have hr2 : ReadsRow (fun p cs => (Kd.tag (fun k => if okp k then f2 k + xs.length else f1 k) d).M W base okp p cs) d.sz W A ys.length (ys.zipIdx xs.length) := by
    refine ⟨by simp, by have := hr.2.1; rw [List.length_zipIdx] at this; exact this, fun hp => ?_⟩
    obtain ⟨ad, e1, e2⟩ := hr.2.2 (by rw [List.length_zipIdx]; exact hp)
    refine ⟨ad, e1, fun j p hj => ?_⟩
    rw [List.getElem?_zipIdx] at hj
    obtain ⟨y, hy, rfl⟩ := Option.map_eq_some_iff.1 hj
    obtain ⟨cs, q1, q2, q3⟩ := e2 j (y, j) (Kd.zip_at hy)
    refine ⟨cs, q1, ?_, q3⟩
    refine d.M_mono (fun k hk => ⟨hk.1.1, ?_⟩) q2
    show (if okp k then f2 k + xs.length else f1 k) = xs.length + j
    rw [if_pos hk.1.1, hk.2]; exact Nat.add_comm _ _
  refine Kd.R_append_rows (Kd.tag (fun k => if okp k then f2 k + xs.length else f1 k) d) base hgd s x t e z bytes ho ht hinfo hz hs0 hb0 v xs.zipIdx (ys.zipIdx xs.length) A ys.length c ok okp hs hx g1 hr2 (fun _ _ hk => hk) hokp hfresh HB hbase (by rw [List.length_zipIdx]; exact hl) ?_
  intro v1 w1 hr
  rw [← zipIdx_app] at hr
  exact h v1 w1 ⟨_, hr⟩
end Go.Proofs.Ythblmkailhdhlaa.T
-- PRINTED by print.py (a twelfth state) out of the translation. Not trusted: Lean checks it.
namespace Go.Proofs.Ythblmkailhdhlaa.T
open Go.Proofs.Ythblmkailhdhlaa.G Go.Proofs.Ythblmkailhdhlaa.P Go.Proofs.Ythblmkailhdhlaa.Given Go.RowKit Go.Proofs.YthblmkailhdhlaaW.PrintWords Go.Proofs.YthblmkailhdhlaaW.PrintLast Go.Proofs.YthblmkailhdhlaaW.PrintMore
attribute [local go_sem] max2_int min2_int max_two min_two max_three min_three max_four min_four   -- for this text's walks alone
set_option linter.unusedVariables false
set_option linter.unusedSimpArgs false
-- GIVEN: function 41 (quartermasterref02_Same)
-- GIVEN: function 63 (mat_size)
-- GIVEN: function 42 (mat_May)
-- NOT PRINTED: function 57 (gf_powers)
-- NOT PRINTED: function 24 (gf_New)
-- NOT PRINTED: function 64 (mat_filled)
-- NOT PRINTED: function 59 (gf_Field_tables)
-- NOT PRINTED: function 32 (gf_Field_Mul)
-- NOT PRINTED: function 34 (gf_Field_Add)
-- NOT PRINTED: function 69 (mat_add)
-- GIVEN: function 48 (mat_Mul)
-- GIVEN: function 37 (mat_One)
-- GIVEN: function 39 (mat_Cauchy)
/-! ### rs_Rows: function 53 -/
def rs_Rows.j0 : Nat → Int → Int → Bool → Option ((List (List Int)) × Int)
  | 0, _, _, _ => none
  | k + 1, x0, x1, x25 => if x25 = true then (some (([] : List (List Int)), 1)) else ((mat_One.f x0).bind fun bt101 => (if x1 = 0 then (some (bt101.1, 0)) else ((mat_Cauchy.f x1 x0).bind fun bt105 => (if bt101.1.length + bt105.1.length < 5864062014805 then (some ((bt101.1 ++ bt105.1), 0)) else (none)))))
def rs_Rows.f (k : Nat) (a0 : Int) (a1 : Int) : Option ((List (List Int)) × Int) := if a0 < 1 then (rs_Rows.j0 k a0 a1 true) else (if a1 < 0 then (rs_Rows.j0 k a0 a1 true) else (if a0 > 64 then (rs_Rows.j0 k a0 a1 true) else (rs_Rows.j0 k a0 a1 (decide (a1 > (wrap64 (64 - a0)))))))
set_option maxHeartbeats 8000000 in
set_option maxRecDepth 100000 in
theorem rs_Rows.calls (k : Nat) (a0 : Int) (a1 : Int) (r1 : List (List Int)) (r2 : Int) (w : World) (h : rs_Rows.f k a0 a1 = some (r1, r2)) :
    Calls Try.prog 53 #[.int .i64 a0, .int .i64 a1] w fun e w' => ∃ v0_ : Value, e = .returned (.tuple #[v0_, .int .i64 r2]) ∧ Kd.S (Kd.slice 5 (Kd.int .u8)) 43 w' w.heap.size (fun _ => True) v0_ r1 ∧ Below w.heap.size w w' := by
  have HB := Aside0.mk (Below.refl w.heap.size w)
  have H : (if a0 < 1 then (rs_Rows.j0 k a0 a1 true) else (if a1 < 0 then (rs_Rows.j0 k a0 a1 true) else (if a0 > 64 then (rs_Rows.j0 k a0 a1 true) else (rs_Rows.j0 k a0 a1 (decide (a1 > (wrap64 (64 - a0)))))))) = some (r1, r2) := h
  clear h
  have HC3 := Aside0.mk H
  clear H
  go_enter Try.func53, Try.ntmps53
  go_upto_region 1 with (fail)
  go_cut [25] (fun v25 wc => ∃ (kq : Nat) (x25_2 : Bool), v25 = .bool x25_2 ∧ Aside0 (rs_Rows.j0 kq a0 a1 x25_2 = some (r1, r2)) ∧ Aside0 (kq ≤ k) ∧ Aside0 (Below w.heap.size w wc))
  case first =>
    have H := HC3.out
    clear HC3
    by_cases c4 : a0 < 1
    · rw [if_pos c4] at H
      have c4b0 : decide (a0 < 1) = true := decide_eq_true c4
      clear c4
      (first | rw [c4b0] | (simp only [i64_w, i32_w]; rw [c4b0]) | skip)
      have H' := Aside0.mk H
      clear H
      go_wp2
      go_meet
      case rel => exact ⟨_, (true), (by first | rfl | (simp; done) | (simp [*]; done)), H', ⟨by first | omega | exact Nat.le_refl _⟩, ⟨by repeat (first | (with_reducible first | exact HB.out | apply below_alloc | apply pw_below_drewN | apply below_drew1) | exact HB.out)⟩⟩
    · rw [if_neg c4] at H
      have c4b0 : decide (a0 < 1) = false := decide_eq_false c4
      clear c4
      (first | rw [c4b0] | (simp only [i64_w, i32_w]; rw [c4b0]) | skip)
      by_cases c5 : a1 < 0
      · rw [if_pos c5] at H
        have c5b0 : decide (a1 < 0) = true := decide_eq_true c5
        clear c5
        have H' := Aside0.mk H
        clear H
        go_wp2
        go_meet
        case rel => exact ⟨_, (true), (by first | rfl | (simp; done) | (simp [*]; done)), H', ⟨by first | omega | exact Nat.le_refl _⟩, ⟨by repeat (first | (with_reducible first | exact HB.out | apply below_alloc | apply pw_below_drewN | apply below_drew1) | exact HB.out)⟩⟩
      · rw [if_neg c5] at H
        have c5b0 : decide (a1 < 0) = false := decide_eq_false c5
        clear c5
        by_cases c6 : a0 > 64
        · rw [if_pos c6] at H
          have c6b0 : decide (64 < a0) = true := decide_eq_true c6
          clear c6
          have H' := Aside0.mk H
          clear H
          go_wp2
          go_meet
          case rel => exact ⟨_, (true), (by first | rfl | (simp; done) | (simp [*]; done)), H', ⟨by first | omega | exact Nat.le_refl _⟩, ⟨by repeat (first | (with_reducible first | exact HB.out | apply below_alloc | apply pw_below_drewN | apply below_drew1) | exact HB.out)⟩⟩
        · rw [if_neg c6] at H
          have c6b0 : decide (64 < a0) = false := decide_eq_false c6
          clear c6
          have H' := Aside0.mk H
          clear H
          go_wp2
          go_meet
          case rel => exact ⟨_, (decide (a1 > (wrap64 (64 - a0)))), (by first | rfl | (simp; done) | (simp [*]; done)), H', ⟨by first | omega | exact Nat.le_refl _⟩, ⟨by repeat (first | (with_reducible first | exact HB.out | apply below_alloc | apply pw_below_drewN | apply below_drew1) | exact HB.out)⟩⟩
  case rest =>
    clear HC3
    try clear p2
    try clear c4
    try clear c4b0
    try clear c5
    try clear c5b0
    try clear c6
    try clear c6b0
    try clear p6
    obtain ⟨kq, x25_2, rfl, HA, HJ2, HB⟩ := hcut
    cases kq with
    | zero => exact absurd HA.out (by simp [rs_Rows.j0])
    | succ kj2 =>
      have H := HA.out
      clear HA
      simp only [rs_Rows.j0] at H
      by_cases c7 : x25_2 = true
      · subst c7
        have H1 : (some (([] : List (List Int)), 1)) = some (r1, r2) := by rw [if_pos rfl] at H; exact H
        clear H
        have H := H1
        clear H1
        simp only [Option.some.injEq, Prod.mk.injEq] at H
        obtain ⟨rfl, rfl⟩ := H
        go_wp2
        go_ret2
        exact ⟨_, by first | rfl | (simp [errW_none, errW_some] <;> rfl) | (simp [*, errW_none, errW_some] <;> rfl), by first | exact Kd.S_nil _ _ _ _ _ | exact Kd.N_nil _ _ _ _ _ | exact Kd.V_nil _ _ _ _ _ | exact Kd.Q_nil _ _ _ _ _ | exact Kd.R_nil _ _ _ _ _, by repeat (first | (with_reducible first | exact HB.out | apply below_alloc | apply pw_below_drewN | apply below_drew1) | exact HB.out)⟩
      · replace c7 := Bool.eq_false_iff.mpr c7
        subst c7
        have H1 : ((mat_One.f a0).bind fun bt101 => (if a1 = 0 then (some (bt101.1, 0)) else ((mat_Cauchy.f a1 a0).bind fun bt105 => (if bt101.1.length + bt105.1.length < 5864062014805 then (some ((bt101.1 ++ bt105.1), 0)) else (none))))) = some (r1, r2) := by rw [if_neg (show ¬ (false = true) by decide)] at H; exact H
        clear H
        have H := H1
        clear H1
        replace H := Option.bind_eq_some_iff.mp H
        obtain ⟨⟨t101, t102⟩, A80, H⟩ := H
        replace H : (if a1 = 0 then (some (t101, 0)) else ((mat_Cauchy.f a1 a0).bind fun bt105 => (if t101.length + bt105.1.length < 5864062014805 then (some ((t101 ++ bt105.1), 0)) else (none)))) = some (r1, r2) := H
        have A8 := Aside0.mk A80
        clear A80
        by_cases c9 : a1 = 0
        · rw [if_pos c9] at H
          have c9b0 : (a1 == 0) = true := beq_iff_eq.mpr c9
          have c9b1 : (a1 != 0) = false := bne_eq_false_iff_eq.mpr c9
          clear c9
          simp only [Option.some.injEq, Prod.mk.injEq] at H
          obtain ⟨rfl, rfl⟩ := H
          go_wp2_with (first | ((with_reducible refine gate_callee (f := 37) rfl ?_); refine goesL_ (some 28) rfl rfl Try.func37 (by kernel_rfl) rfl #[.int .i64 a0] rfl (by (try simp only [List.map_toArray, List.map_cons, List.map_nil]); first | done | rfl | (simp only [List.length_drop, List.length_take]; rfl)) ?_; (with_reducible refine (mat_One.calls a0 t101 t102 _ A8.out).mono ?_); rintro e w10 ⟨v103, rfl, ho0, hb⟩; refine ⟨_, rfl, ?_⟩; have n0_ := Aside0.mk (Kd.S_lower ho0 (below_size (by repeat (first | (with_reducible first | exact HB.out | apply below_alloc | apply pw_below_drewN | apply below_drew1) | exact HB.out)))); have n1_ := Aside0.mk (below_step (by repeat (first | (with_reducible first | exact HB.out | apply below_alloc | apply pw_below_drewN | apply below_drew1) | exact HB.out)) hb); clear HB; have HO104 := n0_; have HB := n1_; clear n0_ n1_; (try clear hb); (try clear hb2); (try clear hk); (try clear hi); (try clear ho0)))
          go_ret2
          exact ⟨_, by first | rfl | (simp [errW_none, errW_some] <;> rfl) | (simp [*, errW_none, errW_some] <;> rfl), by (with_reducible repeat (first | apply Kd.S_alloc | apply Kd.S_drewN | apply Kd.S_drew)); exact HO104.out, by repeat (first | (with_reducible first | exact HB.out | apply below_alloc | apply pw_below_drewN | apply below_drew1) | exact HB.out)⟩
        · rw [if_neg c9] at H
          have c9b0 : (a1 == 0) = false := beq_eq_false_iff_ne.mpr c9
          have c9b1 : (a1 != 0) = true := bne_iff_ne.mpr c9
          replace H := Option.bind_eq_some_iff.mp H
          obtain ⟨⟨t105, t106⟩, A110, H⟩ := H
          replace H : (if t101.length + t105.length < 5864062014805 then (some ((t101 ++ t105), 0)) else (none)) = some (r1, r2) := H
          have A11 := Aside0.mk A110
          clear A110
          by_cases c12 : t101.length + t105.length < 5864062014805
          · rw [if_pos c12] at H
            have LMc12 := Aside0.mk c12
            clear c12
            obtain ⟨y109, hy109⟩ : ∃ y_ : List (List Int), y_ = (t101 ++ t105) := ⟨_, rfl⟩
            replace H : (some (y109, 0)) = some (r1, r2) := by first | (rw [hy109]; with_reducible exact H) | (have H2_ := (Option.bind_some _ _).symm.trans H; rw [hy109]; with_reducible exact H2_) | (have H2_ := (Option.bind_some _ _).symm.trans H; with_reducible exact H2_) | with_reducible exact H | (rw [hy109]; exact H) | exact H
            have Ny109 := Aside0.mk hy109
            clear hy109
            simp only [Option.some.injEq, Prod.mk.injEq] at H
            obtain ⟨rfl, rfl⟩ := H
            go_wp2_with (first | ((with_reducible refine gate_callee (f := 37) rfl ?_); refine goesL_ (some 28) rfl rfl Try.func37 (by kernel_rfl) rfl #[.int .i64 a0] rfl (by (try simp only [List.map_toArray, List.map_cons, List.map_nil]); first | done | rfl | (simp only [List.length_drop, List.length_take]; rfl)) ?_; (with_reducible refine (mat_One.calls a0 t101 t102 _ A8.out).mono ?_); rintro e w13 ⟨v103, rfl, ho0, hb⟩; refine ⟨_, rfl, ?_⟩; have n0_ := Aside0.mk (Kd.S_lower ho0 (below_size (by repeat (first | (with_reducible first | exact HB.out | apply below_alloc | apply pw_below_drewN | apply below_drew1) | exact HB.out)))); have n1_ := Aside0.mk (below_step (by repeat (first | (with_reducible first | exact HB.out | apply below_alloc | apply pw_below_drewN | apply below_drew1) | exact HB.out)) hb); clear HB; have HO104 := n0_; have HB := n1_; clear n0_ n1_; (try clear hb); (try clear hb2); (try clear hk); (try clear hi); (try clear ho0)) | ((with_reducible refine gate_callee (f := 39) rfl ?_); refine goesL_ (some 37) rfl rfl Try.func39 (by kernel_rfl) rfl #[.int .i64 a1, .int .i64 a0] rfl (by (try simp only [List.map_toArray, List.map_cons, List.map_nil]); first | done | rfl | (simp only [List.length_drop, List.length_take]; rfl)) ?_; (with_reducible refine (mat_Cauchy.calls a1 a0 t105 t106 _ A11.out).mono ?_); rintro e w14 ⟨v107, rfl, ho0, hb⟩; refine ⟨_, rfl, ?_⟩; obtain ⟨B0, m0, m1⟩ : ∃ B0, Kd.S (Kd.slice 5 (Kd.int .u8)) 43 _ w.heap.size (fun k => k < B0) _ _ ∧ Kd.S (Kd.slice 5 (Kd.int .u8)) 43 _ w.heap.size (fun k => B0 ≤ k) _ _ := ⟨_, Kd.S_mono (Kd.S_old (by (with_reducible repeat (first | apply Kd.S_alloc | apply Kd.S_drewN | apply Kd.S_drew)); exact HO104.out) hb) (fun _ hk => hk.2), Kd.S_lower (Kd.S_mono (Kd.S_bound ho0) (fun _ hk => hk.2.1)) (below_size (by repeat (first | (with_reducible first | exact HB.out | apply below_alloc | apply pw_below_drewN | apply below_drew1) | exact HB.out)))⟩; have n0_ := Aside0.mk m0; have n1_ := Aside0.mk m1; clear m0 m1; have n2_ := Aside0.mk (below_step (by repeat (first | (with_reducible first | exact HB.out | apply below_alloc | apply pw_below_drewN | apply below_drew1) | exact HB.out)) hb); clear HO104; clear HB; have HO104 := n0_; have HO108 := n1_; have HB := n2_; clear n0_ n1_ n2_; (try clear hb); (try clear hb2); (try clear hk); (try clear hi); (try clear ho0); obtain ⟨Ao16, co16, eo16⟩ := Kd.S_slice HO108.out; subst eo16) | ((with_reducible refine gate_builtin (b := .append) (xs := #[.tmp 40, .tmp 41]) rfl ?_); at_builtin; refine S_append_rows (Kd.slice 5 (Kd.int .u8)) (w0 := w) w.heap.size rfl (.tmp 40) (.tmp 41) 42 43 (.slice none 0 0) 24 rfl Try.underlying42 info43 rfl (by decide) (by omega) v103 t101 t105 Ao16 co16 (fun _ => True) (fun k => B0 ≤ k) rfl rfl ?aO ?aR ?aP (fun _ _ => trivial) ?aB ?aS ?aL ?_; (case aO => exact (by (with_reducible repeat (first | apply Kd.S_alloc | apply Kd.S_drewN | apply Kd.S_drew)); exact Kd.S_mono HO104.out (fun k hk => ⟨trivial, by omega⟩))); (case aR => exact (by (with_reducible repeat (first | apply Kd.S_alloc | apply Kd.S_drewN | apply Kd.S_drew)); exact HO108.out)); (case aP => exact fun k hk => ⟨trivial, fun e => by have := (Kd.S_R HO104.out).1 k e.symm; omega⟩); (case aB => exact (by repeat (first | (with_reducible first | exact HB.out | apply below_alloc | apply pw_below_drewN | apply below_drew1) | exact HB.out))); (case aS => exact (below_size (by repeat (first | (with_reducible first | exact HB.out | apply below_alloc | apply pw_below_drewN | apply below_drew1) | exact HB.out)))); (case aL => have := LMc12.out; omega); intro v110 w15 ho hb hg hat; rw [← Ny109.out] at ho; have n1_ := Aside0.mk (hb); have n2_ := Aside0.mk (ho); clear HB; have HB := n1_; have HO111 := n2_; clear n1_ n2_; clear ho hb hg hat))
            go_ret2
            exact ⟨_, by first | rfl | (simp [errW_none, errW_some] <;> rfl) | (simp [*, errW_none, errW_some] <;> rfl), by (with_reducible repeat (first | apply Kd.S_alloc | apply Kd.S_drewN | apply Kd.S_drew)); exact HO111.out, by repeat (first | (with_reducible first | exact HB.out | apply below_alloc | apply pw_below_drewN | apply below_drew1) | exact HB.out)⟩
          · rw [if_neg c12] at H
            exact absurd H (by simp)
end Go.Proofs.Ythblmkailhdhlaa.T
-- PRINTED by print.py (a twelfth state) out of the translation. Not trusted: Lean checks it.
namespace Go.Proofs.Ythblmkailhdhlaa.T
open Go.Proofs.Ythblmkailhdhlaa.G Go.Proofs.Ythblmkailhdhlaa.P Go.Proofs.Ythblmkailhdhlaa.Given Go.RowKit Go.Proofs.YthblmkailhdhlaaW.PrintWords Go.Proofs.YthblmkailhdhlaaW.PrintLast Go.Proofs.YthblmkailhdhlaaW.PrintMore
attribute [local go_sem] max2_int min2_int max_two min_two max_three min_three max_four min_four   -- for this text's walks alone
set_option linter.unusedVariables false
set_option linter.unusedSimpArgs false
/-! ### rs_Encode: function 51 -/
def rs_Encode.j0 : Nat → List (List Int) → Int → List (List Int) → Bool → Option ((List (List Int)) × Int)
  | 0, _, _, _, _ => none
  | k + 1, x0, x1, x6, x15 => if x15 = true then (some (([] : List (List Int)), 1)) else (if x1 = 0 then (some (([] : List (List Int)), 0)) else (if 0 ≤ (x0.length : Int) then (if (x0.length : Int) ≤ (x6.length : Int) then ((mat_Mul.f (x6.drop ((x0.length : Int) : Int).toNat) x0).bind fun bt122 => (some (bt122.1, bt122.2))) else (none)) else (none)))
def rs_Encode.f (k : Nat) (l0 : List (List Int)) (a1 : Int) : Option ((List (List Int)) × Int) := (rs_Rows.f k (l0.length : Int) a1).bind fun bt112 => (if bt112.2 = 0 then ((mat_May.f k l0).bind fun t116 => (rs_Encode.j0 k l0 a1 bt112.1 (!t116))) else (rs_Encode.j0 k l0 a1 bt112.1 true))
set_option maxHeartbeats 8000000 in
set_option maxRecDepth 100000 in
theorem rs_Encode.calls (k : Nat) (A0 : Option Addr) (c0 : Nat) (l0 : List (List Int)) (a1 : Int) (r1 : List (List Int)) (r2 : Int) (w : World) (hr0 : Kd.C (Kd.slice 5 (Kd.int .u8)) w A0 l0.length l0) (hc0 : l0.length ≤ c0) (h : rs_Encode.f k l0 a1 = some (r1, r2)) :
    Calls Try.prog 51 #[.slice A0 l0.length c0, .int .i64 a1] w fun e w' => ∃ v0_ : Value, e = .returned (.tuple #[v0_, .int .i64 r2]) ∧ Kd.S (Kd.slice 5 (Kd.int .u8)) 43 w' w.heap.size (fun _ => True) v0_ r1 ∧ Below w.heap.size w w' := by
  have HR0 := Aside0.mk hr0
  have HC0 := Aside0.mk hc0
  clear hr0 hc0
  have HB := Aside0.mk (Below.refl w.heap.size w)
  have H : ((rs_Rows.f k (l0.length : Int) a1).bind fun bt112 => (if bt112.2 = 0 then ((mat_May.f k l0).bind fun t116 => (rs_Encode.j0 k l0 a1 bt112.1 (!t116))) else (rs_Encode.j0 k l0 a1 bt112.1 true))) = some (r1, r2) := h
  clear h
  replace H := Option.bind_eq_some_iff.mp H
  obtain ⟨⟨t112, t115⟩, A30, H⟩ := H
  replace H : (if t115 = 0 then ((mat_May.f k l0).bind fun t116 => (rs_Encode.j0 k l0 a1 t112 (!t116))) else (rs_Encode.j0 k l0 a1 t112 true)) = some (r1, r2) := H
  have A3 := Aside0.mk A30
  clear A30
  have HC4 := Aside0.mk H
  clear H
  go_enter Try.func51, Try.ntmps51
  go_upto_region 2 with (first | ((with_reducible refine gate_callee (f := 53) rfl ?_); refine goesL_ (some 12) rfl rfl Try.func53 (by kernel_rfl) rfl #[.int .i64 (l0.length : Int), .int .i64 a1] rfl (by (try simp only [List.map_toArray, List.map_cons, List.map_nil]); first | done | rfl | (simp only [List.length_drop, List.length_take]; rfl)) ?_; (with_reducible refine (rs_Rows.calls k (l0.length : Int) a1 t112 t115 _ A3.out).mono ?_); rintro e w5 ⟨v113, rfl, ho0, hb⟩; refine ⟨_, rfl, ?_⟩; have n0_ := Aside0.mk (Kd.N_lower (Kd.N_mono (ok' := fun k_ => (w.heap.size ≤ k_)) (Kd.S_N (Kd.S_bound ho0)) (fun k_ hk_ => (Nat.le_trans (below_size (by repeat (first | (with_reducible first | exact HB.out | apply below_alloc | apply pw_below_drewN | apply below_drew1) | exact HB.out))) hk_.2.1))) (below_size (by repeat (first | (with_reducible first | exact HB.out | apply below_alloc | apply pw_below_drewN | apply below_drew1) | exact HB.out)))); have n1_ := Aside0.mk (below_step (by repeat (first | (with_reducible first | exact HB.out | apply below_alloc | apply pw_below_drewN | apply below_drew1) | exact HB.out)) hb); clear HB; have HO114 := n0_; have HB := n1_; clear n0_ n1_; (try clear hb); (try clear hb2); (try clear hk); (try clear hi); (try clear ho0)))
  (try simp only [Act.put, List.setIfInBounds_toArray, List.set_cons_zero, List.set_cons_succ])
  go_cut [15] (fun v15 wc => ∃ (kq : Nat) (x15_3 : Bool), v15 = .bool x15_3 ∧ Aside0 (rs_Encode.j0 kq l0 a1 t112 x15_3 = some (r1, r2)) ∧ Aside0 (kq ≤ k) ∧ Aside0 (Kd.N (Kd.slice 5 (Kd.int .u8)) 43 wc w.heap.size (fun k_ => (w.heap.size ≤ k_)) v113 t112) ∧ Aside0 (Below w.heap.size w wc))
  case first =>
    have H := HC4.out
    clear HC4
    by_cases c6 : t115 = 0
    · rw [if_pos c6] at H
      have c6b0 : (t115 == 0) = true := beq_iff_eq.mpr c6
      have c6b1 : (t115 != 0) = false := bne_eq_false_iff_eq.mpr c6
      clear c6
      (first | rw [c6b0] | (simp only [i64_w, i32_w]; rw [c6b0]) | skip)
      replace H := Option.bind_eq_some_iff.mp H
      obtain ⟨t116, A70, H⟩ := H
      replace H : (rs_Encode.j0 k l0 a1 t112 (!t116)) = some (r1, r2) := H
      have A7 := Aside0.mk A70
      clear A70
      have H' := Aside0.mk H
      clear H
      go_wp2_with (first | (go_at_call 42; (with_reducible refine (mat_May.calls k _ _ l0 t116 _ ?side1 ?side2 A7.out).mono ?_); (case side1 => repeat (first | exact (Kd.C_below HR0.out HB.out) | (with_reducible refine Kd.C_alloc ?_ _) | (with_reducible refine Kd.C_drewN ?_ _) | (with_reducible refine Kd.C_drew ?_))); (case side2 => exact HC0.out); rintro e w' ⟨rfl, ⟨nd, rfl⟩⟩))
      go_meet
      case rel => exact ⟨_, (!t116), (by first | rfl | (simp; done) | (simp [*]; done)), H', ⟨by first | omega | exact Nat.le_refl _⟩, ⟨by (with_reducible repeat (first | apply Kd.N_alloc | apply Kd.N_drewN | apply Kd.N_drew)); exact HO114.out⟩, ⟨by repeat (first | (with_reducible first | exact HB.out | apply below_alloc | apply pw_below_drewN | apply below_drew1) | exact HB.out)⟩⟩
    · rw [if_neg c6] at H
      have c6b0 : (t115 == 0) = false := beq_eq_false_iff_ne.mpr c6
      have c6b1 : (t115 != 0) = true := bne_iff_ne.mpr c6
      (first | rw [c6b0] | (simp only [i64_w, i32_w]; rw [c6b0]) | skip)
      have H' := Aside0.mk H
      clear H
      go_wp2
      go_meet
      case rel => exact ⟨_, (true), (by first | rfl | (simp; done) | (simp [*]; done)), H', ⟨by first | omega | exact Nat.le_refl _⟩, ⟨by (with_reducible repeat (first | apply Kd.N_alloc | apply Kd.N_drewN | apply Kd.N_drew)); exact HO114.out⟩, ⟨by repeat (first | (with_reducible first | exact HB.out | apply below_alloc | apply pw_below_drewN | apply below_drew1) | exact HB.out)⟩⟩
  case rest =>
    clear HC4
    try clear p2
    try clear c5
    try clear c6
    try clear c6b0
    try clear c6b1
    obtain ⟨kq, x15_3, rfl, HA, HJ3, HO_6, HB⟩ := hcut
    cases kq with
    | zero => exact absurd HA.out (by simp [rs_Encode.j0])
    | succ kj3 =>
      have H := HA.out
      clear HA
      simp only [rs_Encode.j0] at H
      by_cases c8 : x15_3 = true
      · subst c8
        have H1 : (some (([] : List (List Int)), 1)) = some (r1, r2) := by rw [if_pos rfl] at H; exact H
        clear H
        have H := H1
        clear H1
        simp only [Option.some.injEq, Prod.mk.injEq] at H
        obtain ⟨rfl, rfl⟩ := H
        go_wp2
        go_ret2
        exact ⟨_, by first | rfl | (simp [errW_none, errW_some] <;> rfl) | (simp [*, errW_none, errW_some] <;> rfl), by first | exact Kd.S_nil _ _ _ _ _ | exact Kd.N_nil _ _ _ _ _ | exact Kd.V_nil _ _ _ _ _ | exact Kd.Q_nil _ _ _ _ _ | exact Kd.R_nil _ _ _ _ _, by repeat (first | (with_reducible first | exact HB.out | apply below_alloc | apply pw_below_drewN | apply below_drew1) | exact HB.out)⟩
      · replace c8 := Bool.eq_false_iff.mpr c8
        subst c8
        have H1 : (if a1 = 0 then (some (([] : List (List Int)), 0)) else (if 0 ≤ (l0.length : Int) then (if (l0.length : Int) ≤ (t112.length : Int) then ((mat_Mul.f (t112.drop ((l0.length : Int) : Int).toNat) l0).bind fun bt122 => (some (bt122.1, bt122.2))) else (none)) else (none))) = some (r1, r2) := by rw [if_neg (show ¬ (false = true) by decide)] at H; exact H
        clear H
        have H := H1
        clear H1
        by_cases c9 : a1 = 0
        · rw [if_pos c9] at H
          have c9b0 : (a1 == 0) = true := beq_iff_eq.mpr c9
          have c9b1 : (a1 != 0) = false := bne_eq_false_iff_eq.mpr c9
          clear c9
          simp only [Option.some.injEq, Prod.mk.injEq] at H
          obtain ⟨rfl, rfl⟩ := H
          go_wp2
          go_ret2
          exact ⟨_, by first | rfl | (simp [errW_none, errW_some] <;> rfl) | (simp [*, errW_none, errW_some] <;> rfl), by first | exact Kd.S_nil _ _ _ _ _ | exact Kd.N_nil _ _ _ _ _ | exact Kd.V_nil _ _ _ _ _ | exact Kd.Q_nil _ _ _ _ _ | exact Kd.R_nil _ _ _ _ _, by repeat (first | (with_reducible first | exact HB.out | apply below_alloc | apply pw_below_drewN | apply below_drew1) | exact HB.out)⟩
        · rw [if_neg c9] at H
          have c9b0 : (a1 == 0) = false := beq_eq_false_iff_ne.mpr c9
          have c9b1 : (a1 != 0) = true := bne_iff_ne.mpr c9
          by_cases c10 : 0 ≤ (l0.length : Int)
          · rw [if_pos c10] at H
            have c10b0 := eq_true c10
            have c10b1 : decide (0 ≤ (l0.length : Int)) = true := decide_eq_true c10
            clear c10
            by_cases c11 : (l0.length : Int) ≤ (t112.length : Int)
            · rw [if_pos c11] at H
              have c11b0 := eq_true c11
              have c11b1 : decide ((l0.length : Int) ≤ (t112.length : Int)) = true := decide_eq_true c11
              clear c11
              obtain ⟨y117, hy117⟩ : ∃ y_ : List (List Int), y_ = (t112.drop ((l0.length : Int) : Int).toNat) := ⟨_, rfl⟩
              replace H : ((mat_Mul.f y117 l0).bind fun bt122 => (some (bt122.1, bt122.2))) = some (r1, r2) := by first | (rw [hy117]; with_reducible exact H) | (have H2_ := (Option.bind_some _ _).symm.trans H; rw [hy117]; with_reducible exact H2_) | (have H2_ := (Option.bind_some _ _).symm.trans H; with_reducible exact H2_) | with_reducible exact H | (rw [hy117]; exact H) | exact H
              have Ny117 := Aside0.mk hy117
              clear hy117
              replace H := Option.bind_eq_some_iff.mp H
              obtain ⟨⟨t122, t123⟩, A120, H⟩ := H
              replace H : (some (t122, t123)) = some (r1, r2) := H
              have A12 := Aside0.mk A120
              clear A120
              simp only [Option.some.injEq, Prod.mk.injEq] at H
              obtain ⟨rfl, rfl⟩ := H
              obtain ⟨Ao14, co14, eo14⟩ := Kd.N_slice HO_6.out
              subst eo14
              have q13 : ((l0.length : Int) : Int) ≤ ((t112.length : Int) : Int) := of_decide_eq_true (by first | (with_reducible assumption) | assumption)
              obtain ⟨i013, hi013, _, hsz13, _⟩ := info_parts info43
              have hroom13 : t112.length ≤ co14 := (Kd.N_reads' HO_6.out).2.1
              have hC13 : Kd.F (Kd.slice 5 (Kd.int .u8)) _ _ Ao14 t112.length t112 := (Kd.V_at (base := w.heap.size) (Kd.N_V HO_6.out)).2.2
              have q013 : (0 : Int) ≤ ((l0.length : Int) : Int) := of_decide_eq_true (by first | (with_reducible assumption) | assumption)
              have hcut13 := cut_from (P := Try.prog) 42 43 .i64 Try.underlying42 hi013 1 hsz13 Ao14 t112.length co14 (l0.length : Int) q013 q13
              have hr13 := Kd.F_cut (m := ((l0.length : Int) : Int).toNat) (c := co14) hC13 (by omega) hroom13
              obtain ⟨A13, hA13⟩ : ∃ A1, A1 = (if co14 = ((l0.length : Int) : Int).toNat then Ao14 else (Ao14 : Option Addr).map (·.add (((l0.length : Int) : Int).toNat * 1))) := ⟨_, rfl⟩
              obtain ⟨c13, hc13⟩ : ∃ c1, c1 = co14 - ((l0.length : Int) : Int).toNat := ⟨_, rfl⟩
              have hy13 : y117.length = t112.length - ((l0.length : Int) : Int).toNat := (by rw [Ny117.out, List.length_drop] <;> omega)
              rw [show (t112).drop ((l0.length : Int) : Int).toNat = y117 from Ny117.out.symm] at hr13
              replace hr13 : Kd.F (Kd.slice 5 (Kd.int .u8)) _ _ A13 y117.length y117 := (by rw [hA13]; exact hr13)
              rw [← hy13, ← hA13, ← hc13] at hcut13
              have HO121 := Aside0.mk (show Kd.V (Kd.slice 5 (Kd.int .u8)) 43 _ w.heap.size _ (.slice A13 y117.length c13) y117 from Kd.V_mk (by rw [hy13, hc13]; exact Nat.sub_le_sub_right hroom13 _) hr13)
              have HC121 := Aside0.mk (show y117.length ≤ c13 from by rw [hy13, hc13]; exact Nat.sub_le_sub_right hroom13 _)
              clear hr13 hC13 hroom13 hi013 hsz13 hc13
              have KY13 := Aside0.mk hy13
              have KA13 := Aside0.mk hA13
              clear hy13 hA13
              replace q13 := eq_true q13
              go_wp2_with (first | ((with_reducible refine gate_callee (f := 48) rfl ?_); refine goesL_ (some 31) rfl rfl Try.func48 (by kernel_rfl) rfl #[.slice A13 y117.length c13, .slice A0 l0.length c0] rfl (by (try simp only [List.map_toArray, List.map_cons, List.map_nil]); first | done | rfl | (simp only [List.length_drop, List.length_take]; rfl)) ?_; (with_reducible refine (mat_Mul.calls _ _ y117 _ _ l0 t122 t123 _ ?side1 ?side2 ?side3 ?side4 A12.out).mono ?_); (case side1 => repeat (first | exact (Kd.V_reads' HO121.out).2.2 | (with_reducible refine Kd.C_alloc ?_ _) | (with_reducible refine Kd.C_drewN ?_ _) | (with_reducible refine Kd.C_drew ?_))); (case side2 => exact (Kd.V_reads' HO121.out).2.1); (case side3 => repeat (first | exact (Kd.C_below HR0.out HB.out) | (with_reducible refine Kd.C_alloc ?_ _) | (with_reducible refine Kd.C_drewN ?_ _) | (with_reducible refine Kd.C_drew ?_))); (case side4 => exact HC0.out); rintro e w15 ⟨v124, rfl, ho0, hb⟩; refine ⟨_, rfl, ?_⟩; have n0_ := Aside0.mk (Kd.N_elder' (by (with_reducible repeat (first | apply Kd.N_alloc | apply Kd.N_drewN | apply Kd.N_drew)); exact HO_6.out) (by first | exact Kd.N_base ho0 | exact Kd.N_base (Kd.S_N ho0)) hb); have n1_ := Aside0.mk (Kd.V_elder' (by (with_reducible repeat (first | apply Kd.V_alloc | apply Kd.V_drewN | apply Kd.V_drew)); exact HO121.out) (by first | exact Kd.N_base ho0 | exact Kd.N_base (Kd.S_N ho0)) hb); have n2_ := Aside0.mk (Kd.S_lower ho0 (below_size (by repeat (first | (with_reducible first | exact HB.out | apply below_alloc | apply pw_below_drewN | apply below_drew1) | exact HB.out)))); have n3_ := Aside0.mk (below_step (by repeat (first | (with_reducible first | exact HB.out | apply below_alloc | apply pw_below_drewN | apply below_drew1) | exact HB.out)) hb); clear HO_6; clear HO121; clear HB; have HO_6 := n0_; have HO121 := n1_; have HO125 := n2_; have HB := n3_; clear n0_ n1_ n2_ n3_; (try clear hb); (try clear hb2); (try clear hk); (try clear hi); (try clear ho0)))
              go_ret2
              exact ⟨_, by first | rfl | (simp [errW_none, errW_some] <;> rfl) | (simp [*, errW_none, errW_some] <;> rfl), by (with_reducible repeat (first | apply Kd.S_alloc | apply Kd.S_drewN | apply Kd.S_drew)); exact HO125.out, by repeat (first | (with_reducible first | exact HB.out | apply below_alloc | apply pw_below_drewN | apply below_drew1) | exact HB.out)⟩
            · rw [if_neg c11] at H
              exact absurd H (by simp)
          · rw [if_neg c10] at H
            exact absurd H (by simp)
-- NOT PRINTED: function 25 (gf_Field_Div)
-- NOT PRINTED: function 27 (gf_Field_Inv)
-- GIVEN: function 67 (mat_pivot)
-- NOT PRINTED: function 68 (mat_times)
-- GIVEN: function 45 (mat_Inv)
end Go.Proofs.Ythblmkailhdhlaa.T
-- PRINTED by print.py (a twelfth state) out of the translation. Not trusted: Lean checks it.
namespace Go.Proofs.Ythblmkailhdhlaa.T
open Go.Proofs.Ythblmkailhdhlaa.G Go.Proofs.Ythblmkailhdhlaa.P Go.Proofs.Ythblmkailhdhlaa.Given Go.RowKit Go.Proofs.YthblmkailhdhlaaW.PrintWords Go.Proofs.YthblmkailhdhlaaW.PrintLast Go.Proofs.YthblmkailhdhlaaW.PrintMore
attribute [local go_sem] max2_int min2_int max_two min_two max_three min_three max_four min_four   -- for this text's walks alone
set_option linter.unusedVariables false
set_option linter.unusedSimpArgs false
/-- A state of type 75 at block g of W; what its slices lead to came in by w0. -/
def IsS75 (w0 W : World) (g : Nat) (f0 : List (List Int)) (f1 : List (List Int)) (f2 : Int) : Prop := ∃ A0 c0, ∃ A1 c1, W.heap[g]? = some (.cells #[.slice A0 f0.length c0, .slice A1 f1.length c1, .int .i64 f2] 75 (0, 0)) ∧ w0.heap.size ≤ g ∧ Kd.C (Kd.slice 5 (Kd.int .u8)) w0 A0 f0.length f0 ∧ Kd.C (Kd.slice 5 (Kd.int .u8)) w0 A1 f1.length f1
theorem IsS75.grown {w0 W : World} {g : Nat} {f0 : List (List Int)} {f1 : List (List Int)} {f2 : Int} {W1 : World} {row : Option Nat} (h : IsS75 w0 W g f0 f1 f2) (hw : W.grownBy W1 row) (hne : some g ≠ row) : IsS75 w0 W1 g f0 f1 f2 := by
  obtain ⟨A0, c0, A1, c1, hb, hg, hr0, hr1⟩ := h
  exact ⟨A0, c0, A1, c1, blk_grown hb hw hne, hg, hr0, hr1⟩
theorem IsS75.below {w0 W : World} {g : Nat} {f0 : List (List Int)} {f1 : List (List Int)} {f2 : Int} {W1 : World} (h : IsS75 w0 W g f0 f1 f2) (hw : Below W.heap.size W W1) : IsS75 w0 W1 g f0 f1 f2 := h.grown (grown_of_below hw none) (by simp)
theorem IsS75.lt {w0 W : World} {g : Nat} {f0 : List (List Int)} {f1 : List (List Int)} {f2 : Int} (h : IsS75 w0 W g f0 f1 f2) : g < W.heap.size := by
  obtain ⟨A0, c0, A1, c1, hb, hg, hr0, hr1⟩ := h
  exact blk_lt hb
theorem IsS75.ge {w0 W : World} {g : Nat} {f0 : List (List Int)} {f1 : List (List Int)} {f2 : Int} (h : IsS75 w0 W g f0 f1 f2) : w0.heap.size ≤ g := by
  obtain ⟨A0, c0, A1, c1, hb, hg, hr0, hr1⟩ := h
  exact hg
theorem cellS75_0 {W : World} {g : Nat} {A0 : Option Addr} {c0 : Nat} {A1 : Option Addr} {c1 : Nat} {f0 : List (List Int)} {f1 : List (List Int)} {f2 : Int} (h : W.heap[g]? = some (.cells #[.slice A0 f0.length c0, .slice A1 f1.length c1, .int .i64 f2] 75 (0, 0))) : W.cell? ⟨g, 0, none⟩ = some (.slice A0 f0.length c0) := (blk_cell h 0).trans rfl
theorem cellS75_1 {W : World} {g : Nat} {A0 : Option Addr} {c0 : Nat} {A1 : Option Addr} {c1 : Nat} {f0 : List (List Int)} {f1 : List (List Int)} {f2 : Int} (h : W.heap[g]? = some (.cells #[.slice A0 f0.length c0, .slice A1 f1.length c1, .int .i64 f2] 75 (0, 0))) : W.cell? ⟨g, 1, none⟩ = some (.slice A1 f1.length c1) := (blk_cell h 1).trans rfl
theorem cellS75_2 {W : World} {g : Nat} {A0 : Option Addr} {c0 : Nat} {A1 : Option Addr} {c1 : Nat} {f0 : List (List Int)} {f1 : List (List Int)} {f2 : Int} (h : W.heap[g]? = some (.cells #[.slice A0 f0.length c0, .slice A1 f1.length c1, .int .i64 f2] 75 (0, 0))) : W.cell? ⟨g, 2, none⟩ = some (.int .i64 f2) := (blk_cell h 2).trans rfl
theorem IsS75.set_2 {w0 W : World} {g : Nat} {f0 : List (List Int)} {f1 : List (List Int)} {f2 : Int} (h : IsS75 w0 W g f0 f1 f2) (x : Int) : IsS75 w0 (W.setCell ⟨g, 2, none⟩ (.int .i64 x)) g f0 f1 x := by
  obtain ⟨A0, c0, A1, c1, hb, hg, hr0, hr1⟩ := h
  exact ⟨A0, c0, A1, c1, by simpa using blk_set hb 2 (.int .i64 x), hg, hr0, hr1⟩
theorem IsS75.new (w0 W : World) (A0 : Option Addr) (c0 : Nat) (A1 : Option Addr) (c1 : Nat) (f0 : List (List Int)) (f1 : List (List Int)) (f2 : Int) (hB : Below w0.heap.size w0 W) (hr0 : Kd.C (Kd.slice 5 (Kd.int .u8)) w0 A0 f0.length f0) (hr1 : Kd.C (Kd.slice 5 (Kd.int .u8)) w0 A1 f1.length f1) : IsS75 w0 (W.alloc (.cells #[.slice A0 f0.length c0, .slice A1 f1.length c1, .int .i64 f2] 75)) W.heap.size f0 f1 f2 := ⟨A0, c0, A1, c1, by simpa using heap_alloc_new W _, hB.size, hr0, hr1⟩
/-! ### rs_lot_left: function 74 -/
def rs_lot_left.f (s0_0 : List (List Int)) (s0_1 : List (List Int)) (s0_2 : Int) (a1 : Int) : Option (Bool × Int) := if 0 ≤ a1 then (if a1 < (s0_0.length : Int) then (some (decide (((rd_L1 s0_0 a1).length : Int) > 0), s0_2)) else (none)) else (none)
set_option maxHeartbeats 8000000 in
set_option maxRecDepth 100000 in
theorem rs_lot_left.calls (g : Nat) (s0_0 : List (List Int)) (s0_1 : List (List Int)) (s0_2 : Int) (a1 : Int) (r1 : Bool) (r2 : Int) (w0 w : World) (hI : IsS75 w0 w g s0_0 s0_1 s0_2) (hB : Below w0.heap.size w0 w) (h : rs_lot_left.f s0_0 s0_1 s0_2 a1 = some (r1, r2)) :
    Calls Try.prog 74 #[.pointer (some ⟨g, 0, none⟩), .int .i64 a1] w fun e w' => e = .returned (.bool r1) ∧ IsS75 w0 w' g s0_0 s0_1 r2 ∧ Below w0.heap.size w0 w' ∧ KeepBut w w' g none := by
  have HI0 := Aside0.mk hI
  have HK := Aside0.mk (KeepBut.refl w g none)
  have HL := Aside0.mk hB.size
  clear hI
  have HW0 := Aside0.mk hB.size
  have HB := Aside0.mk hB
  clear hB
  have H : (if 0 ≤ a1 then (if a1 < (s0_0.length : Int) then (some (decide (((rd_L1 s0_0 a1).length : Int) > 0), s0_2)) else (none)) else (none)) = some (r1, r2) := h
  clear h
  by_cases c3 : 0 ≤ a1
  · rw [if_pos c3] at H
    have c3b0 : decide (0 ≤ a1) = true := decide_eq_true c3
    clear c3
    by_cases c4 : a1 < (s0_0.length : Int)
    · rw [if_pos c4] at H
      have c4b0 : decide (a1 < (s0_0.length : Int)) = true := decide_eq_true c4
      clear c4
      simp only [Option.some.injEq, Prod.mk.injEq] at H
      obtain ⟨rfl, rfl⟩ := H
      obtain ⟨ASz5_0, cSz5_0, ASz5_1, cSz5_1, HGz5, hgz5, HSz5_0, HSz5_1⟩ := HI0.out
      have hcz5_0 := cellS75_0 HGz5
      have hcz5_1 := cellS75_1 HGz5
      have hcz5_2 := cellS75_2 HGz5
      have hfz5_2 := blk_frozen HGz5 2
      clear HGz5 hgz5
      have p126 : 0 ≤ (a1 : Int) := of_decide_eq_true (by first | (with_reducible assumption) | assumption)
      have q126 : a1 < (s0_0.length : Int) := of_decide_eq_true (by first | (with_reducible assumption) | assumption)
      obtain ⟨ad126, A126_0, c126_0, e126, hx126_0, hl126_0, hi126_0⟩ := at_L1 HSz5_0 a1 p126 q126
      cases e126
      replace hx126_0 := pw_cell_below HB.out hx126_0
      have HR126_0 := Aside0.mk hi126_0
      have HC126_0 := Aside0.mk hl126_0
      clear hi126_0 hl126_0
      replace p126 := eq_true p126
      replace q126 := eq_true q126
      go_enter Try.func74, Try.ntmps74
      go_wp2
      go_ret
      exact ⟨by first | rfl | (simp [errW_none, errW_some] <;> rfl) | (simp [*, errW_none, errW_some] <;> rfl), by repeat (first | (with_reducible first | exact HI0.out | apply IsS75.alloc | apply IsS75.drewN | apply IsS75.drew | apply IsS75.set_2) | exact HI0.out), by repeat (first | (with_reducible first | exact HB.out | apply below_alloc | apply pw_below_drewN | apply below_drew1 | refine below_set ?_ (IsS75.ge HI0.out)) | exact HB.out), by repeat (first | (with_reducible first | exact HK.out | apply KeepBut.set_ | apply keep_drewN | apply keep_drew | apply keep_alloc) | exact HK.out)⟩
    · rw [if_neg c4] at H
      exact absurd H (by simp)
  · rw [if_neg c3] at H
    exact absurd H (by simp)
end Go.Proofs.Ythblmkailhdhlaa.T
-- PRINTED by print.py (a twelfth state) out of the translation. Not trusted: Lean checks it.
namespace Go.Proofs.Ythblmkailhdhlaa.T
open Go.Proofs.Ythblmkailhdhlaa.G Go.Proofs.Ythblmkailhdhlaa.P Go.Proofs.Ythblmkailhdhlaa.Given Go.RowKit Go.Proofs.YthblmkailhdhlaaW.PrintWords Go.Proofs.YthblmkailhdhlaaW.PrintLast Go.Proofs.YthblmkailhdhlaaW.PrintMore
attribute [local go_sem] max2_int min2_int max_two min_two max_three min_three max_four min_four   -- for this text's walks alone
set_option linter.unusedVariables false
set_option linter.unusedSimpArgs false
/-! ### rs_lot_may: function 72 -/
def rs_lot_may.l0 : Nat → List (List Int) → Int → Int → List (List Int) → List (List Int) → Int → Option (Bool × Int)
  | 0, _, _, _, _, _, _ => none
  | k + 1, x8, x9, x10, x1000, x1001, x1002 => if x10 < x9 then (if 0 ≤ x10 then (if x10 < (x8.length : Int) then ((rs_lot_left.f x1000 x1001 x1002 x10).bind fun bt128 => (if bt128.1 = true then (if bt128.2 = 0 then (if ((rd_L1 x8 x10).length : Int) = ((rd_L1 x8 x10).length : Int) then (rs_lot_may.l0 k x8 x9 (wrap64 (x10 + 1)) x1000 x1001 ((rd_L1 x8 x10).length : Int)) else (some (false, ((rd_L1 x8 x10).length : Int)))) else (if ((rd_L1 x8 x10).length : Int) = bt128.2 then (rs_lot_may.l0 k x8 x9 (wrap64 (x10 + 1)) x1000 x1001 bt128.2) else (some (false, bt128.2)))) else (rs_lot_may.l0 k x8 x9 (wrap64 (x10 + 1)) x1000 x1001 bt128.2))) else (none)) else (none)) else (some (decide (x1002 ≤ 4096), x1002))
def rs_lot_may.f (k : Nat) (s0_0 : List (List Int)) (s0_1 : List (List Int)) (s0_2 : Int) : Option (Bool × Int) := rs_lot_may.l0 k s0_0 (s0_0.length : Int) 0 s0_0 s0_1 s0_2
set_option maxHeartbeats 8000000 in
set_option maxRecDepth 100000 in
theorem rs_lot_may.calls (k : Nat) (g : Nat) (s0_0 : List (List Int)) (s0_1 : List (List Int)) (s0_2 : Int) (r1 : Bool) (r2 : Int) (w0 w : World) (hI : IsS75 w0 w g s0_0 s0_1 s0_2) (hB : Below w0.heap.size w0 w) (h : rs_lot_may.f k s0_0 s0_1 s0_2 = some (r1, r2)) :
    Calls Try.prog 72 #[.pointer (some ⟨g, 0, none⟩)] w fun e w' => e = .returned (.bool r1) ∧ IsS75 w0 w' g s0_0 s0_1 r2 ∧ Below w0.heap.size w0 w' ∧ KeepBut w w' g none := by
  have HI0 := Aside0.mk hI
  have HK := Aside0.mk (KeepBut.refl w g none)
  have HL := Aside0.mk hB.size
  clear hI
  have HW0 := Aside0.mk hB.size
  have HB := Aside0.mk hB
  clear hB
  have H : (rs_lot_may.l0 k s0_0 (s0_0.length : Int) 0 s0_0 s0_1 s0_2) = some (r1, r2) := h
  clear h
  have H' := Aside0.mk H
  clear H
  obtain ⟨ASz2_0, cSz2_0, ASz2_1, cSz2_1, HGz2, hgz2, HSz2_0, HSz2_1⟩ := HI0.out
  have hcz2_0 := cellS75_0 HGz2
  have hcz2_1 := cellS75_1 HGz2
  have hcz2_2 := cellS75_2 HGz2
  have hfz2_2 := blk_frozen HGz2 2
  clear HGz2 hgz2
  go_enter Try.func72, Try.ntmps72
  go_wp2
  go_loopg [10] k (fun kq v10 w' => ∃ (x10_1 : Int) (x1002_1 : Int), v10 = .int .i64 x10_1 ∧ Aside0 (rs_lot_may.l0 kq s0_0 (s0_0.length : Int) x10_1 s0_0 s0_1 x1002_1 = some (r1, r2)) ∧ Aside0 (kq ≤ k) ∧ Aside0 (IsS75 w0 w' g s0_0 s0_1 x1002_1) ∧ Aside0 (KeepBut w w' g none) ∧ Aside0 (Below w0.heap.size w0 w'))
  case atStart => exact ⟨(0), (s0_2), (by first | rfl | (simp; done) | (simp [*]; done)), H', ⟨Nat.le_refl _⟩, ⟨by repeat (first | (with_reducible first | exact HI0.out | apply IsS75.alloc | apply IsS75.drewN | apply IsS75.drew | apply IsS75.set_2) | exact HI0.out)⟩, ⟨by repeat (first | (with_reducible first | exact HK.out | apply KeepBut.set_ | apply keep_drewN | apply keep_drew | apply keep_alloc) | exact HK.out)⟩, ⟨by repeat (first | (with_reducible first | exact HB.out | apply below_alloc | apply pw_below_drewN | apply below_drew1 | refine below_set ?_ (IsS75.ge HI0.out)) | exact HB.out)⟩⟩
  case round =>
    clear H'
    try clear p2
    try clear hcz2_0
    try clear hcz2_1
    try clear hcz2_2
    try clear hfz2_2
    obtain ⟨x10_1, x1002_1, rfl, HA, HK1, HI0, HK, HB⟩ := hrel
    cases gk with
    | zero => exact absurd HA.out (by simp [rs_lot_may.l0])
    | succ k1 =>
      have H := HA.out
      clear HA
      unfold rs_lot_may.l0 at H
      by_cases c3 : x10_1 < (s0_0.length : Int)
      · rw [if_pos c3] at H
        have c3b0 : decide (x10_1 < (s0_0.length : Int)) = true := decide_eq_true c3
        clear c3
        by_cases c4 : 0 ≤ x10_1
        · rw [if_pos c4] at H
          have c4b0 : decide (0 ≤ x10_1) = true := decide_eq_true c4
          clear c4
          by_cases c5 : x10_1 < (s0_0.length : Int)
          · rw [if_pos c5] at H
            have c5b0 : decide (x10_1 < (s0_0.length : Int)) = true := decide_eq_true c5
            clear c5
            replace H := Option.bind_eq_some_iff.mp H
            obtain ⟨⟨t128, t129⟩, A60, H⟩ := H
            replace H : (if t128 = true then (if t129 = 0 then (if ((rd_L1 s0_0 x10_1).length : Int) = ((rd_L1 s0_0 x10_1).length : Int) then (rs_lot_may.l0 k1 s0_0 (s0_0.length : Int) (wrap64 (x10_1 + 1)) s0_0 s0_1 ((rd_L1 s0_0 x10_1).length : Int)) else (some (false, ((rd_L1 s0_0 x10_1).length : Int)))) else (if ((rd_L1 s0_0 x10_1).length : Int) = t129 then (rs_lot_may.l0 k1 s0_0 (s0_0.length : Int) (wrap64 (x10_1 + 1)) s0_0 s0_1 t129) else (some (false, t129)))) else (rs_lot_may.l0 k1 s0_0 (s0_0.length : Int) (wrap64 (x10_1 + 1)) s0_0 s0_1 t129)) = some (r1, r2) := H
            have A6 := Aside0.mk A60
            clear A60
            by_cases c7 : t128 = true
            · subst c7
              have H1 : (if t129 = 0 then (if ((rd_L1 s0_0 x10_1).length : Int) = ((rd_L1 s0_0 x10_1).length : Int) then (rs_lot_may.l0 k1 s0_0 (s0_0.length : Int) (wrap64 (x10_1 + 1)) s0_0 s0_1 ((rd_L1 s0_0 x10_1).length : Int)) else (some (false, ((rd_L1 s0_0 x10_1).length : Int)))) else (if ((rd_L1 s0_0 x10_1).length : Int) = t129 then (rs_lot_may.l0 k1 s0_0 (s0_0.length : Int) (wrap64 (x10_1 + 1)) s0_0 s0_1 t129) else (some (false, t129)))) = some (r1, r2) := by rw [if_pos rfl] at H; exact H
              clear H
              have H := H1
              clear H1
              by_cases c8 : t129 = 0
              · rw [if_pos c8] at H
                have c8b0 : (t129 == 0) = true := beq_iff_eq.mpr c8
                have c8b1 : (t129 != 0) = false := bne_eq_false_iff_eq.mpr c8
                clear c8
                by_cases c9 : ((rd_L1 s0_0 x10_1).length : Int) = ((rd_L1 s0_0 x10_1).length : Int)
                · rw [if_pos c9] at H
                  have c9b0 : (((rd_L1 s0_0 x10_1).length : Int) == ((rd_L1 s0_0 x10_1).length : Int)) = true := beq_iff_eq.mpr c9
                  have c9b1 : (((rd_L1 s0_0 x10_1).length : Int) != ((rd_L1 s0_0 x10_1).length : Int)) = false := bne_eq_false_iff_eq.mpr c9
                  have c9b2 : ((rd_L1 s0_0 x10_1).length == (rd_L1 s0_0 x10_1).length) = true := by simp
                  clear c9
                  have H' := Aside0.mk H
                  clear H
                  obtain ⟨ASz10_0, cSz10_0, ASz10_1, cSz10_1, HGz10, hgz10, HSz10_0, HSz10_1⟩ := HI0.out
                  have hcz10_0 := cellS75_0 HGz10
                  have hcz10_1 := cellS75_1 HGz10
                  have hcz10_2 := cellS75_2 HGz10
                  have hfz10_2 := blk_frozen HGz10 2
                  clear HGz10 hgz10
                  have p127 : 0 ≤ (x10_1 : Int) := of_decide_eq_true (by first | (with_reducible assumption) | assumption)
                  have q127 : x10_1 < (s0_0.length : Int) := of_decide_eq_true (by first | (with_reducible assumption) | assumption)
                  obtain ⟨ad127, A127_0, c127_0, e127, hx127_0, hl127_0, hi127_0⟩ := at_L1 HSz2_0 x10_1 p127 q127
                  cases e127
                  replace hx127_0 := pw_cell_below HB.out hx127_0
                  have HR127_0 := Aside0.mk hi127_0
                  have HC127_0 := Aside0.mk hl127_0
                  clear hi127_0 hl127_0
                  replace p127 := eq_true p127
                  replace q127 := eq_true q127
                  go_wp2_with (first | ((with_reducible refine gate_callee (f := 74) rfl ?_); refine goesL_ (some 17) rfl rfl Try.func74 (by kernel_rfl) rfl #[.pointer (some ⟨g, 0, none⟩), .int .i64 x10_1] rfl (by (try simp only [List.map_toArray, List.map_cons, List.map_nil]); first | done | rfl | (simp only [List.length_drop, List.length_take]; rfl)) ?_; (with_reducible refine (rs_lot_left.calls g s0_0 s0_1 x1002_1 x10_1 true t129 w0 _ ?side1 ?side2 A6.out).mono ?_); (case side1 => repeat (first | (with_reducible first | exact HI0.out | apply IsS75.alloc | apply IsS75.drewN | apply IsS75.drew | apply IsS75.set_2) | exact HI0.out)); (case side2 => repeat (first | (with_reducible first | exact HB.out | apply below_alloc | apply pw_below_drewN | apply below_drew1 | refine below_set ?_ (IsS75.ge HI0.out)) | exact HB.out)); rintro e w11 ⟨rfl, hi, hb, hk⟩; refine ⟨_, rfl, ?_⟩; have n0_ := Aside0.mk (KeepBut.trans (by repeat (first | (with_reducible first | exact HK.out | apply KeepBut.set_ | apply keep_drewN | apply keep_drew | apply keep_alloc) | exact HK.out)) hk (.inl rfl)); have n1_ := Aside0.mk (hb); have n2_ := Aside0.mk (hi); clear HK; clear HB; clear HI0; have HK := n0_; have HB := n1_; have HI0 := n2_; clear n0_ n1_ n2_; (try clear hb); (try clear hb2); (try clear hk); (try clear hi); obtain ⟨ASz12_0, cSz12_0, ASz12_1, cSz12_1, HGz12, hgz12, HSz12_0, HSz12_1⟩ := HI0.out; have hcz12_0 := cellS75_0 HGz12; have hcz12_1 := cellS75_1 HGz12; have hcz12_2 := cellS75_2 HGz12; have hfz12_2 := blk_frozen HGz12 2; clear HGz12 hgz12))
                  go_roundg k1
                  case measure => have := HK1.out; omega
                  case rel => exact ⟨(wrap64 (x10_1 + 1)), (((rd_L1 s0_0 x10_1).length : Int)), (by first | rfl | (simp; done) | (simp [*]; done)), H', ⟨by have := HK1.out; omega⟩, ⟨by repeat (first | (with_reducible first | exact HI0.out | apply IsS75.alloc | apply IsS75.drewN | apply IsS75.drew | apply IsS75.set_2) | exact HI0.out)⟩, ⟨by repeat (first | (with_reducible first | exact HK.out | apply KeepBut.set_ | apply keep_drewN | apply keep_drew | apply keep_alloc) | exact HK.out)⟩, ⟨by repeat (first | (with_reducible first | exact HB.out | apply below_alloc | apply pw_below_drewN | apply below_drew1 | refine below_set ?_ (IsS75.ge HI0.out)) | exact HB.out)⟩⟩
                · exact absurd rfl c9
              · rw [if_neg c8] at H
                have c8b0 : (t129 == 0) = false := beq_eq_false_iff_ne.mpr c8
                have c8b1 : (t129 != 0) = true := bne_iff_ne.mpr c8
                by_cases c16 : ((rd_L1 s0_0 x10_1).length : Int) = t129
                · rw [if_pos c16] at H
                  have c16b0 : (((rd_L1 s0_0 x10_1).length : Int) == t129) = true := beq_iff_eq.mpr c16
                  have c16b1 : (((rd_L1 s0_0 x10_1).length : Int) != t129) = false := bne_eq_false_iff_eq.mpr c16
                  clear c16
                  have H' := Aside0.mk H
                  clear H
                  obtain ⟨ASz17_0, cSz17_0, ASz17_1, cSz17_1, HGz17, hgz17, HSz17_0, HSz17_1⟩ := HI0.out
                  have hcz17_0 := cellS75_0 HGz17
                  have hcz17_1 := cellS75_1 HGz17
                  have hcz17_2 := cellS75_2 HGz17
                  have hfz17_2 := blk_frozen HGz17 2
                  clear HGz17 hgz17
                  have p127 : 0 ≤ (x10_1 : Int) := of_decide_eq_true (by first | (with_reducible assumption) | assumption)
                  have q127 : x10_1 < (s0_0.length : Int) := of_decide_eq_true (by first | (with_reducible assumption) | assumption)
                  obtain ⟨ad127, A127_0, c127_0, e127, hx127_0, hl127_0, hi127_0⟩ := at_L1 HSz2_0 x10_1 p127 q127
                  cases e127
                  replace hx127_0 := pw_cell_below HB.out hx127_0
                  have HR127_0 := Aside0.mk hi127_0
                  have HC127_0 := Aside0.mk hl127_0
                  clear hi127_0 hl127_0
                  replace p127 := eq_true p127
                  replace q127 := eq_true q127
                  go_wp2_with (first | ((with_reducible refine gate_callee (f := 74) rfl ?_); refine goesL_ (some 17) rfl rfl Try.func74 (by kernel_rfl) rfl #[.pointer (some ⟨g, 0, none⟩), .int .i64 x10_1] rfl (by (try simp only [List.map_toArray, List.map_cons, List.map_nil]); first | done | rfl | (simp only [List.length_drop, List.length_take]; rfl)) ?_; (with_reducible refine (rs_lot_left.calls g s0_0 s0_1 x1002_1 x10_1 true t129 w0 _ ?side1 ?side2 A6.out).mono ?_); (case side1 => repeat (first | (with_reducible first | exact HI0.out | apply IsS75.alloc | apply IsS75.drewN | apply IsS75.drew | apply IsS75.set_2) | exact HI0.out)); (case side2 => repeat (first | (with_reducible first | exact HB.out | apply below_alloc | apply pw_below_drewN | apply below_drew1 | refine below_set ?_ (IsS75.ge HI0.out)) | exact HB.out)); rintro e w18 ⟨rfl, hi, hb, hk⟩; refine ⟨_, rfl, ?_⟩; have n0_ := Aside0.mk (KeepBut.trans (by repeat (first | (with_reducible first | exact HK.out | apply KeepBut.set_ | apply keep_drewN | apply keep_drew | apply keep_alloc) | exact HK.out)) hk (.inl rfl)); have n1_ := Aside0.mk (hb); have n2_ := Aside0.mk (hi); clear HK; clear HB; clear HI0; have HK := n0_; have HB := n1_; have HI0 := n2_; clear n0_ n1_ n2_; (try clear hb); (try clear hb2); (try clear hk); (try clear hi); obtain ⟨ASz19_0, cSz19_0, ASz19_1, cSz19_1, HGz19, hgz19, HSz19_0, HSz19_1⟩ := HI0.out; have hcz19_0 := cellS75_0 HGz19; have hcz19_1 := cellS75_1 HGz19; have hcz19_2 := cellS75_2 HGz19; have hfz19_2 := blk_frozen HGz19 2; clear HGz19 hgz19))
                  go_roundg k1
                  case measure => have := HK1.out; omega
                  case rel => exact ⟨(wrap64 (x10_1 + 1)), (t129), (by first | rfl | (simp; done) | (simp [*]; done)), H', ⟨by have := HK1.out; omega⟩, ⟨by repeat (first | (with_reducible first | exact HI0.out | apply IsS75.alloc | apply IsS75.drewN | apply IsS75.drew | apply IsS75.set_2) | exact HI0.out)⟩, ⟨by repeat (first | (with_reducible first | exact HK.out | apply KeepBut.set_ | apply keep_drewN | apply keep_drew | apply keep_alloc) | exact HK.out)⟩, ⟨by repeat (first | (with_reducible first | exact HB.out | apply below_alloc | apply pw_below_drewN | apply below_drew1 | refine below_set ?_ (IsS75.ge HI0.out)) | exact HB.out)⟩⟩
                · rw [if_neg c16] at H
                  have c16b0 : (((rd_L1 s0_0 x10_1).length : Int) == t129) = false := beq_eq_false_iff_ne.mpr c16
                  have c16b1 : (((rd_L1 s0_0 x10_1).length : Int) != t129) = true := bne_iff_ne.mpr c16
                  simp only [Option.some.injEq, Prod.mk.injEq] at H
                  obtain ⟨rfl, rfl⟩ := H
                  obtain ⟨ASz20_0, cSz20_0, ASz20_1, cSz20_1, HGz20, hgz20, HSz20_0, HSz20_1⟩ := HI0.out
                  have hcz20_0 := cellS75_0 HGz20
                  have hcz20_1 := cellS75_1 HGz20
                  have hcz20_2 := cellS75_2 HGz20
                  have hfz20_2 := blk_frozen HGz20 2
                  clear HGz20 hgz20
                  have p127 : 0 ≤ (x10_1 : Int) := of_decide_eq_true (by first | (with_reducible assumption) | assumption)
                  have q127 : x10_1 < (s0_0.length : Int) := of_decide_eq_true (by first | (with_reducible assumption) | assumption)
                  obtain ⟨ad127, A127_0, c127_0, e127, hx127_0, hl127_0, hi127_0⟩ := at_L1 HSz2_0 x10_1 p127 q127
                  cases e127
                  replace hx127_0 := pw_cell_below HB.out hx127_0
                  have HR127_0 := Aside0.mk hi127_0
                  have HC127_0 := Aside0.mk hl127_0
                  clear hi127_0 hl127_0
                  replace p127 := eq_true p127
                  replace q127 := eq_true q127
                  go_wp2_with (first | ((with_reducible refine gate_callee (f := 74) rfl ?_); refine goesL_ (some 17) rfl rfl Try.func74 (by kernel_rfl) rfl #[.pointer (some ⟨g, 0, none⟩), .int .i64 x10_1] rfl (by (try simp only [List.map_toArray, List.map_cons, List.map_nil]); first | done | rfl | (simp only [List.length_drop, List.length_take]; rfl)) ?_; (with_reducible refine (rs_lot_left.calls g s0_0 s0_1 x1002_1 x10_1 true t129 w0 _ ?side1 ?side2 A6.out).mono ?_); (case side1 => repeat (first | (with_reducible first | exact HI0.out | apply IsS75.alloc | apply IsS75.drewN | apply IsS75.drew | apply IsS75.set_2) | exact HI0.out)); (case side2 => repeat (first | (with_reducible first | exact HB.out | apply below_alloc | apply pw_below_drewN | apply below_drew1 | refine below_set ?_ (IsS75.ge HI0.out)) | exact HB.out)); rintro e w21 ⟨rfl, hi, hb, hk⟩; refine ⟨_, rfl, ?_⟩; have n0_ := Aside0.mk (KeepBut.trans (by repeat (first | (with_reducible first | exact HK.out | apply KeepBut.set_ | apply keep_drewN | apply keep_drew | apply keep_alloc) | exact HK.out)) hk (.inl rfl)); have n1_ := Aside0.mk (hb); have n2_ := Aside0.mk (hi); clear HK; clear HB; clear HI0; have HK := n0_; have HB := n1_; have HI0 := n2_; clear n0_ n1_ n2_; (try clear hb); (try clear hb2); (try clear hk); (try clear hi); obtain ⟨ASz22_0, cSz22_0, ASz22_1, cSz22_1, HGz22, hgz22, HSz22_0, HSz22_1⟩ := HI0.out; have hcz22_0 := cellS75_0 HGz22; have hcz22_1 := cellS75_1 HGz22; have hcz22_2 := cellS75_2 HGz22; have hfz22_2 := blk_frozen HGz22 2; clear HGz22 hgz22))
                  go_ret
                  exact ⟨by first | rfl | (simp [errW_none, errW_some] <;> rfl) | (simp [*, errW_none, errW_some] <;> rfl), by repeat (first | (with_reducible first | exact HI0.out | apply IsS75.alloc | apply IsS75.drewN | apply IsS75.drew | apply IsS75.set_2) | exact HI0.out), by repeat (first | (with_reducible first | exact HB.out | apply below_alloc | apply pw_below_drewN | apply below_drew1 | refine below_set ?_ (IsS75.ge HI0.out)) | exact HB.out), by repeat (first | (with_reducible first | exact HK.out | apply KeepBut.set_ | apply keep_drewN | apply keep_drew | apply keep_alloc) | exact HK.out)⟩
            · replace c7 := Bool.eq_false_iff.mpr c7
              subst c7
              have H1 : (rs_lot_may.l0 k1 s0_0 (s0_0.length : Int) (wrap64 (x10_1 + 1)) s0_0 s0_1 t129) = some (r1, r2) := by rw [if_neg (show ¬ (false = true) by decide)] at H; exact H
              clear H
              have H := H1
              clear H1
              have H' := Aside0.mk H
              clear H
              obtain ⟨ASz23_0, cSz23_0, ASz23_1, cSz23_1, HGz23, hgz23, HSz23_0, HSz23_1⟩ := HI0.out
              have hcz23_0 := cellS75_0 HGz23
              have hcz23_1 := cellS75_1 HGz23
              have hcz23_2 := cellS75_2 HGz23
              have hfz23_2 := blk_frozen HGz23 2
              clear HGz23 hgz23
              have p127 : 0 ≤ (x10_1 : Int) := of_decide_eq_true (by first | (with_reducible assumption) | assumption)
              have q127 : x10_1 < (s0_0.length : Int) := of_decide_eq_true (by first | (with_reducible assumption) | assumption)
              obtain ⟨ad127, A127_0, c127_0, e127, hx127_0, hl127_0, hi127_0⟩ := at_L1 HSz2_0 x10_1 p127 q127
              cases e127
              replace hx127_0 := pw_cell_below HB.out hx127_0
              have HR127_0 := Aside0.mk hi127_0
              have HC127_0 := Aside0.mk hl127_0
              clear hi127_0 hl127_0
              replace p127 := eq_true p127
              replace q127 := eq_true q127
              go_wp2_with (first | ((with_reducible refine gate_callee (f := 74) rfl ?_); refine goesL_ (some 17) rfl rfl Try.func74 (by kernel_rfl) rfl #[.pointer (some ⟨g, 0, none⟩), .int .i64 x10_1] rfl (by (try simp only [List.map_toArray, List.map_cons, List.map_nil]); first | done | rfl | (simp only [List.length_drop, List.length_take]; rfl)) ?_; (with_reducible refine (rs_lot_left.calls g s0_0 s0_1 x1002_1 x10_1 false t129 w0 _ ?side1 ?side2 A6.out).mono ?_); (case side1 => repeat (first | (with_reducible first | exact HI0.out | apply IsS75.alloc | apply IsS75.drewN | apply IsS75.drew | apply IsS75.set_2) | exact HI0.out)); (case side2 => repeat (first | (with_reducible first | exact HB.out | apply below_alloc | apply pw_below_drewN | apply below_drew1 | refine below_set ?_ (IsS75.ge HI0.out)) | exact HB.out)); rintro e w24 ⟨rfl, hi, hb, hk⟩; refine ⟨_, rfl, ?_⟩; have n0_ := Aside0.mk (KeepBut.trans (by repeat (first | (with_reducible first | exact HK.out | apply KeepBut.set_ | apply keep_drewN | apply keep_drew | apply keep_alloc) | exact HK.out)) hk (.inl rfl)); have n1_ := Aside0.mk (hb); have n2_ := Aside0.mk (hi); clear HK; clear HB; clear HI0; have HK := n0_; have HB := n1_; have HI0 := n2_; clear n0_ n1_ n2_; (try clear hb); (try clear hb2); (try clear hk); (try clear hi)))
              go_roundg k1
              case measure => have := HK1.out; omega
              case rel => exact ⟨(wrap64 (x10_1 + 1)), (t129), (by first | rfl | (simp; done) | (simp [*]; done)), H', ⟨by have := HK1.out; omega⟩, ⟨by repeat (first | (with_reducible first | exact HI0.out | apply IsS75.alloc | apply IsS75.drewN | apply IsS75.drew | apply IsS75.set_2) | exact HI0.out)⟩, ⟨by repeat (first | (with_reducible first | exact HK.out | apply KeepBut.set_ | apply keep_drewN | apply keep_drew | apply keep_alloc) | exact HK.out)⟩, ⟨by repeat (first | (with_reducible first | exact HB.out | apply below_alloc | apply pw_below_drewN | apply below_drew1 | refine below_set ?_ (IsS75.ge HI0.out)) | exact HB.out)⟩⟩
          · rw [if_neg c5] at H
            exact absurd H (by simp)
        · rw [if_neg c4] at H
          exact absurd H (by simp)
      · rw [if_neg c3] at H
        have c3b0 : decide (x10_1 < (s0_0.length : Int)) = false := decide_eq_false c3
        clear c3
        simp only [Option.some.injEq, Prod.mk.injEq] at H
        obtain ⟨rfl, rfl⟩ := H
        obtain ⟨ASz25_0, cSz25_0, ASz25_1, cSz25_1, HGz25, hgz25, HSz25_0, HSz25_1⟩ := HI0.out
        have hcz25_0 := cellS75_0 HGz25
        have hcz25_1 := cellS75_1 HGz25
        have hcz25_2 := cellS75_2 HGz25
        have hfz25_2 := blk_frozen HGz25 2
        clear HGz25 hgz25
        go_wp2
        go_ret
        exact ⟨by first | rfl | (simp [errW_none, errW_some] <;> rfl) | (simp [*, errW_none, errW_some] <;> rfl), by repeat (first | (with_reducible first | exact HI0.out | apply IsS75.alloc | apply IsS75.drewN | apply IsS75.drew | apply IsS75.set_2) | exact HI0.out), by repeat (first | (with_reducible first | exact HB.out | apply below_alloc | apply pw_below_drewN | apply below_drew1 | refine below_set ?_ (IsS75.ge HI0.out)) | exact HB.out), by repeat (first | (with_reducible first | exact HK.out | apply KeepBut.set_ | apply keep_drewN | apply keep_drew | apply keep_alloc) | exact HK.out)⟩
end Go.Proofs.Ythblmkailhdhlaa.T
-- PRINTED by print.py (a twelfth state) out of the translation. Not trusted: Lean checks it.
namespace Go.Proofs.Ythblmkailhdhlaa.T
open Go.Proofs.Ythblmkailhdhlaa.G Go.Proofs.Ythblmkailhdhlaa.P Go.Proofs.Ythblmkailhdhlaa.Given Go.RowKit Go.Proofs.YthblmkailhdhlaaW.PrintWords Go.Proofs.YthblmkailhdhlaaW.PrintLast Go.Proofs.YthblmkailhdhlaaW.PrintMore
attribute [local go_sem] max2_int min2_int max_two min_two max_three min_three max_four min_four   -- for this text's walks alone
set_option linter.unusedVariables false
set_option linter.unusedSimpArgs false
-- NOT PRINTED: function 73 (rs_picked)
-- NOT PRINTED: function 75 (slices_Clone_byte_byte)
-- NOT PRINTED: function 55 (rs_Decode)
-- NOT PRINTED: function 49 (quartermasterlaw03_awake)
/-! ### quartermasterlaw03_light: function 50 -/
def quartermasterlaw03_light.l0 : Nat → List (List Int) → Int → Option (Bool)
  | 0, _, _ => none
  | k + 1, x0, x3 => if x3 < (x0.length : Int) then (if 0 ≤ x3 then (if ((rd_L1 x0 x3).length : Int) > 40 then (some false) else (quartermasterlaw03_light.l0 k x0 (wrap64 (x3 + 1)))) else (none)) else (some true)
def quartermasterlaw03_light.f (k : Nat) (l0 : List (List Int)) : Option (Bool) := if (l0.length : Int) > 20 then (some false) else (quartermasterlaw03_light.l0 k l0 0)
set_option maxHeartbeats 8000000 in
set_option maxRecDepth 100000 in
theorem quartermasterlaw03_light.calls (k : Nat) (A0 : Option Addr) (c0 : Nat) (l0 : List (List Int)) (r : Bool) (w : World) (hr0 : Kd.C (Kd.slice 5 (Kd.int .u8)) w A0 l0.length l0) (hc0 : l0.length ≤ c0) (h : quartermasterlaw03_light.f k l0 = some r) :
    Calls Try.prog 50 #[.slice A0 l0.length c0] w fun e w' => e = .returned (.bool r) ∧ Drawn0 w w' := by
  have HR0 := Aside0.mk hr0
  have HC0 := Aside0.mk hc0
  clear hr0 hc0
  have H : (if (l0.length : Int) > 20 then (some false) else (quartermasterlaw03_light.l0 k l0 0)) = some r := h
  clear h
  by_cases c2 : (l0.length : Int) > 20
  · rw [if_pos c2] at H
    have c2b0 : decide (20 < (l0.length : Int)) = true := decide_eq_true c2
    have c2b1 : decide (20 < l0.length) = true := decide_eq_true (by omega)
    clear c2
    obtain rfl := Option.some.inj H
    go_enter Try.func50, Try.ntmps50
    go_wp2
    go_ret
    exact ⟨by first | rfl | (simp; done) | (simp [*]; done), by repeat (first | exact Drawn0.refl _ | apply Drawn0.step)⟩
  · rw [if_neg c2] at H
    have c2b0 : decide (20 < (l0.length : Int)) = false := decide_eq_false c2
    have c2b1 : decide (20 < l0.length) = false := decide_eq_false (by omega)
    clear c2
    have H' := Aside0.mk H
    clear H
    go_enter Try.func50, Try.ntmps50
    go_wp2
    go_loopg [3] k (fun kq v3 w' => ∃ (x3_1 : Int), v3 = .int .i64 x3_1 ∧ Aside0 (quartermasterlaw03_light.l0 kq l0 x3_1 = some r) ∧ Aside0 (kq ≤ k) ∧ Drawn0 w w')
    case atStart => exact ⟨(0), (by first | rfl | (simp; done) | (simp [*]; done)), H', ⟨Nat.le_refl _⟩, by repeat (first | exact Drawn0.refl _ | apply Drawn0.step)⟩
    case round =>
      clear H'
      try clear c2
      try clear c2b0
      try clear c2b1
      try clear p2
      obtain ⟨x3_1, rfl, HA, HK1, ⟨m1, rfl⟩⟩ := hrel
      cases gk with
      | zero => exact absurd HA.out (by simp [quartermasterlaw03_light.l0])
      | succ k1 =>
        have H := HA.out
        clear HA
        simp only [quartermasterlaw03_light.l0] at H
        by_cases c3 : x3_1 < (l0.length : Int)
        · rw [if_pos c3] at H
          have c3b0 : decide (x3_1 < (l0.length : Int)) = true := decide_eq_true c3
          clear c3
          by_cases c4 : 0 ≤ x3_1
          · rw [if_pos c4] at H
            have c4b0 : decide (0 ≤ x3_1) = true := decide_eq_true c4
            clear c4
            by_cases c5 : ((rd_L1 l0 x3_1).length : Int) > 40
            · rw [if_pos c5] at H
              have c5b0 : decide (40 < ((rd_L1 l0 x3_1).length : Int)) = true := decide_eq_true c5
              have c5b1 : decide (40 < (rd_L1 l0 x3_1).length) = true := decide_eq_true (by omega)
              clear c5
              obtain rfl := Option.some.inj H
              have p162 : 0 ≤ (x3_1 : Int) := of_decide_eq_true (by first | (with_reducible assumption) | assumption)
              have q162 : x3_1 < (l0.length : Int) := of_decide_eq_true (by first | (with_reducible assumption) | assumption)
              obtain ⟨ad162, A162_0, c162_0, e162, hx162_0, hl162_0, hi162_0⟩ := at_L1 HR0.out x3_1 p162 q162
              cases e162
              have HR162_0 := Aside0.mk hi162_0
              have HC162_0 := Aside0.mk hl162_0
              clear hi162_0 hl162_0
              replace p162 := eq_true p162
              replace q162 := eq_true q162
              go_wp2
              go_ret
              exact ⟨by first | rfl | (simp; done) | (simp [*]; done), by repeat (first | exact Drawn0.refl _ | apply Drawn0.step)⟩
            · rw [if_neg c5] at H
              have c5b0 : decide (40 < ((rd_L1 l0 x3_1).length : Int)) = false := decide_eq_false c5
              have c5b1 : decide (40 < (rd_L1 l0 x3_1).length) = false := decide_eq_false (by omega)
              clear c5
              have H' := Aside0.mk H
              clear H
              have p162 : 0 ≤ (x3_1 : Int) := of_decide_eq_true (by first | (with_reducible assumption) | assumption)
              have q162 : x3_1 < (l0.length : Int) := of_decide_eq_true (by first | (with_reducible assumption) | assumption)
              obtain ⟨ad162, A162_0, c162_0, e162, hx162_0, hl162_0, hi162_0⟩ := at_L1 HR0.out x3_1 p162 q162
              cases e162
              have HR162_0 := Aside0.mk hi162_0
              have HC162_0 := Aside0.mk hl162_0
              clear hi162_0 hl162_0
              replace p162 := eq_true p162
              replace q162 := eq_true q162
              go_wp2
              go_roundg k1
              case measure => have := HK1.out; omega
              case rel => exact ⟨(wrap64 (x3_1 + 1)), (by first | rfl | (simp; done) | (simp [*]; done)), H', ⟨by have := HK1.out; omega⟩, by repeat (first | exact Drawn0.refl _ | apply Drawn0.step)⟩
          · rw [if_neg c4] at H
            exact absurd H (by simp)
        · rw [if_neg c3] at H
          have c3b0 : decide (x3_1 < (l0.length : Int)) = false := decide_eq_false c3
          clear c3
          obtain rfl := Option.some.inj H
          go_wp2
          go_ret
          exact ⟨by first | rfl | (simp; done) | (simp [*]; done), by repeat (first | exact Drawn0.refl _ | apply Drawn0.step)⟩
-- GIVEN: function 43 (quartermasterref02_May)
-- GIVEN: function 60 (quartermasterref01_bit)
-- GIVEN: function 62 (quartermasterref01_power)
-- GIVEN: function 61 (quartermasterref01_sum)
-- GIVEN: function 33 (quartermasterref01_Mul)
-- GIVEN: function 35 (quartermasterref01_Add)
-- GIVEN: function 47 (quartermasterref02_Mul)
-- GIVEN: function 38 (quartermasterref02_One)
-- GIVEN: function 26 (quartermasterref01_Div)
-- GIVEN: function 40 (quartermasterref02_Cauchy)
end Go.Proofs.Ythblmkailhdhlaa.T
/- What rs.Rows and rs.Encode come to; decoding in plain Lean. -/
namespace Go.Proofs.Ythblmkailhdhlaa.Mat
set_option linter.unusedVariables false
open Go.RowKit Go.Proofs.Ythblmkailhdhlaa.F Go.Proofs.Ythblmkailhdhlaa.R Go.Proofs.Ythblmkailhdhlaa.G Go.Proofs.Ythblmkailhdhlaa.P Go.Proofs.Ythblmkailhdhlaa.Given Go.Proofs.Ythblmkailhdhlaa.Gf Go.Proofs.YthblmkailhdhlaaW.PrintWords
theorem cauAt_lt (c i k : Nat) : cauAt c i k < 256 := dq_lt _ _
theorem cau_rect (n c : Nat) : Rect n c (grid n c (cauAt c)) := grid_rect fun i j _ _ => cauAt_lt c i j
theorem cau_f {n c : Nat} (hn : 1 ≤ n ∧ n ≤ 64) (hc : 1 ≤ c ∧ c ≤ 64) : mat_Cauchy.f (n : Int) (c : Int) = some (mints (grid n c (cauAt c)), 0) := by
  unfold mat_Cauchy.f
  rw [if_pos (by omega), Int.toNat_natCast, Int.toNat_natCast]
theorem rd_L1_natT (l : List (List Int)) (j : Nat) : T.rd_L1 l (j : Int) = l.getD j [] := rd_L1_nat l j
theorem all_gridN (c m : Nat) : grid c c oneAt ++ grid m c (cauAt c) = grid (c + m) c (allAt c) := by
  apply List.ext_getElem?
  intro i
  by_cases h1 : i < c
  · rw [List.getElem?_append_left (by rw [grid_len]; exact h1), grid_get _ _ _ h1, grid_get _ _ _ (by omega)]
    congr 1
    apply List.map_congr_left
    intro t _
    unfold allAt; rw [if_pos h1]
  · rw [List.getElem?_append_right (by rw [grid_len]; omega), grid_len]
    by_cases h2 : i < c + m
    · rw [grid_get _ _ _ (by omega), grid_get _ _ _ h2]
      congr 1
      apply List.map_congr_left
      intro t _
      unfold allAt; rw [if_neg h1]
    · rw [List.getElem?_eq_none (by rw [grid_len]; omega), List.getElem?_eq_none (by rw [grid_len]; omega)]
theorem all_gridM (c m : Nat) : mints (grid c c oneAt) ++ mints (grid m c (cauAt c)) = mints (grid (c + m) c (allAt c)) := by rw [← mints_app, all_gridN]
theorem allAt_rect (n c : Nat) : Rect n c (grid n c (allAt c)) := grid_rect fun i j _ _ => allAt_lt _ _ _
theorem rrows_good {k m : Nat} (hk : 1 ≤ k) (h : k + m ≤ 64) (q : Nat) : T.rs_Rows.f (q + 1) (k : Int) (m : Int) = some (mints (grid (k + m) k (allAt k)), 0) := by
  have w : wrap64 (64 - (k : Int)) = 64 - k := w64 (by omega) (by omega)
  unfold T.rs_Rows.f
  rw [if_neg (by omega), if_neg (by omega), if_neg (by omega), w, decide_eq_false (by omega), T.rs_Rows.j0, if_neg (by decide), one_f ⟨hk, by omega⟩, Option.bind_some]
  by_cases z : m = 0
  · subst z
    rw [if_pos (show ((0 : Nat) : Int) = 0 from rfl), ← all_gridM, show mints (grid 0 k (cauAt k)) = [] from rfl, List.append_nil]
  · rw [if_neg (by omega), cau_f ⟨by omega, by omega⟩ ⟨hk, by omega⟩, Option.bind_some, if_pos (by simp only [mints_len, grid_len]; omega)]
    show some (mints (grid k k oneAt) ++ mints (grid m k (cauAt k)), (0 : Int)) = _
    rw [all_gridM]
theorem rrows_bad {k m : Int} (h : ¬ (1 ≤ k ∧ 0 ≤ m ∧ k + m ≤ 64)) (q : Nat) : T.rs_Rows.f (q + 1) k m = some ([], 1) := by
  have jt : T.rs_Rows.j0 (q + 1) k m true = some ([], 1) := by rw [T.rs_Rows.j0, if_pos rfl]
  unfold T.rs_Rows.f
  by_cases g1 : k < 1
  · rw [if_pos g1, jt]
  · rw [if_neg g1]
    by_cases g2 : m < 0
    · rw [if_pos g2, jt]
    · rw [if_neg g2]
      by_cases g3 : k > 64
      · rw [if_pos g3, jt]
      · rw [if_neg g3, w64 (by omega) (by omega), decide_eq_true (by omega), jt]
theorem mulM_app (A B D : List (List Nat)) : mulM (A ++ B) D = mulM A D ++ mulM B D := by unfold mulM; rw [List.map_append]
/-- Cauchy's rows times the data. -/
def shares (m : Nat) (D : List (List Nat)) : List (List Nat) := mulM (grid m D.length (cauAt D.length)) D
theorem shares_rect {k c m : Nat} {D : List (List Nat)} (hD : Rect k c D) (hk : 1 ≤ k) : Rect m c (shares m D) := by
  unfold shares; rw [hD.1]; exact mulM_rect (cau_rect m k) hD hk
theorem renc_good {k c m : Nat} {D : List (List Nat)} (hD : Rect k c D) (hk : 1 ≤ k) (hc : 1 ≤ c ∧ c ≤ 4096) (h : k + m ≤ 64) {q : Nat} (hq : 100 ≤ q) :
    T.rs_Encode.f q (mints D) (m : Int) = some (mints (shares m D), 0) := by
  obtain ⟨q, rfl⟩ : ∃ p, q = p + 1 := ⟨q - 1, by omega⟩
  have hm : mayP (mints D) := rect_may hD ⟨hk, by omega⟩ hc
  unfold T.rs_Encode.f
  rw [mints_len, hD.1, rrows_good hk h, Option.bind_some, if_pos rfl, may_f _ (by omega), Option.bind_some, decide_eq_true hm, T.rs_Encode.j0, if_neg (by decide)]
  by_cases z : m = 0
  · subst z
    rw [if_pos (show ((0 : Nat) : Int) = 0 from rfl)]
    rfl
  · rw [if_neg (by omega), if_pos (by omega), mints_len, hD.1, if_pos (by simp only [mints_len, grid_len]; omega), Int.toNat_natCast]
    rw [show ((mints (grid (k + m) k (allAt k)), (0 : Int)).1) = mints (grid (k + m) k (allAt k)) from rfl, ← all_gridM, List.drop_left' (by rw [mints_len, grid_len]), mul_rect (cau_rect m k) hD (by omega) (by omega) hc, Option.bind_some]
    unfold shares; rw [hD.1]
/-- All that is made of the data: the data, and the shares. -/
theorem all_eq {k c m : Nat} {D : List (List Nat)} (hD : Rect k c D) (hk : 1 ≤ k) : D ++ shares m D = mulM (grid (k + m) k (allAt k)) D := by
  unfold shares
  rw [hD.1, ← all_gridN, mulM_app, one_mul hD (by omega)]
theorem all_rect {k c m : Nat} {D : List (List Nat)} (hD : Rect k c D) (hk : 1 ≤ k) : Rect (k + m) c (D ++ shares m D) := by
  rw [all_eq hD hk]; exact mulM_rect (allAt_rect _ _) hD hk
/-- Any k rows have an inverse. -/
theorem rows_inv {k m : Nat} (hk : 1 ≤ k) (h : k + m ≤ 64) {K : Nat → Nat} (hK : ∀ i, i < k → K i < k + m) (hi : ∀ i j, i < k → j < k → K i = K j → i = j) :
    ∃ T, gauss k 0 (grid k k (fun i => allAt k (K i)), grid k k oneAt) = some T ∧ Square k T.2 ∧ mulM T.2 (grid k k (fun i => allAt k (K i))) = grid k k oneAt ∧ mulM (grid k k (fun i => allAt k (K i))) T.2 = grid k k oneAt := by
  have hsq : Square k (grid k k fun j => allAt k (K j)) := grid_rect fun i j _ _ => allAt_lt _ _ _
  have hnk : ¬ Ker k (el (grid k k fun j => allAt k (K j))) := fun ⟨v, q, h1, h2, h3, h4⟩ => rows_no_ker (c := k) (more := m) (by omega) hK hi ⟨v, q, h1, h2, h3, fun i hi => by
    rw [← h4 i hi]
    exact sg_congr fun t ht => by rw [el_grid hi ht]⟩
  rcases gauss_all hsq (by omega) with ⟨_, _, z⟩ | ⟨T, g, _, s, e1, e2⟩
  · exact absurd z hnk
  · exact ⟨T, g, s, e1, e2⟩
theorem inv_rows {k m : Nat} (hk : 1 ≤ k) (h : k + m ≤ 64) {K : Nat → Nat} (hK : ∀ i, i < k → K i < k + m) (hi : ∀ i j, i < k → j < k → K i = K j → i = j) :
    ∃ T, mat_Inv.f (mints (grid k k (fun i => allAt k (K i)))) = some (mints T, 0) ∧ Square k T ∧ mulM T (grid k k (fun i => allAt k (K i))) = grid k k oneAt ∧ mulM (grid k k (fun i => allAt k (K i))) T = grid k k oneAt := by
  obtain ⟨T, g, s, e1, e2⟩ := rows_inv hk h hK hi
  have hsq : Square k (grid k k fun j => allAt k (K j)) := grid_rect fun i j _ _ => allAt_lt _ _ _
  refine ⟨T.2, ?_, s, e1, e2⟩
  generalize (grid k k fun j => allAt k (K j)) = M at *
  unfold mat_Inv.f invAns
  rw [if_pos (okM_mints hsq.rect.bytes), if_pos ⟨rect_may hsq.rect (by omega) (by omega), by rw [mints_head, ints_len, hsq.rect.head (by omega), mints_len, hsq.1]⟩, mints_len, hsq.1, mnats_mints, g]
end Go.Proofs.Ythblmkailhdhlaa.Mat
/- Decoding in plain Lean: which rows are taken, and what they come to. -/
namespace Go.Proofs.Ythblmkailhdhlaa.Mat
set_option linter.unusedVariables false
open Go.RowKit Go.Proofs.Ythblmkailhdhlaa.F Go.Proofs.Ythblmkailhdhlaa.R Go.Proofs.Ythblmkailhdhlaa.G Go.Proofs.Ythblmkailhdhlaa.P Go.Proofs.Ythblmkailhdhlaa.Given Go.Proofs.Ythblmkailhdhlaa.Gf Go.Proofs.YthblmkailhdhlaaW.PrintWords
/-! lot.may -/
def lotR : List (List Int) → Nat → Bool × Nat
  | [], x => (decide (x ≤ 4096), x)
  | s :: l, x => if s.length = 0 then lotR l x else if x = 0 then lotR l s.length else if s.length = x then lotR l x else (false, x)
theorem lotR_ok {c : Nat} (hc : c ≤ 4096) : ∀ (l : List (List Int)) (x : Nat), (∀ s ∈ l, s.length = 0 ∨ s.length = c) → (x = 0 ∨ x = c) → (lotR l x).1 = true
  | [], x, _, hx => by
    show decide (x ≤ 4096) = true
    exact decide_eq_true (by omega)
  | s :: l, x, h, hx => by
    have h1 := h s List.mem_cons_self
    have h2 : ∀ s ∈ l, s.length = 0 ∨ s.length = c := fun t ht => h t (List.mem_cons_of_mem _ ht)
    unfold lotR
    by_cases z : s.length = 0
    · rw [if_pos z]; exact lotR_ok hc l x h2 hx
    · rw [if_neg z]
      by_cases y : x = 0
      · rw [if_pos y]; exact lotR_ok hc l _ h2 (by omega)
      · rw [if_neg y, if_pos (by omega)]; exact lotR_ok hc l x h2 hx
theorem lotR_true : ∀ (l : List (List Int)) (x : Nat), (lotR l x).1 = true → ∃ c, c ≤ 4096 ∧ (x = 0 ∨ x = c) ∧ ∀ s ∈ l, s.length = 0 ∨ s.length = c
  | [], x, h => ⟨x, of_decide_eq_true h, .inr rfl, fun s hs => by cases hs⟩
  | s :: l, x, h => by
    unfold lotR at h
    by_cases z : s.length = 0
    · rw [if_pos z] at h
      obtain ⟨c, h1, h2, h3⟩ := lotR_true l x h
      exact ⟨c, h1, h2, fun t ht => by rcases List.mem_cons.1 ht with rfl | ht <;> first | exact h3 _ ht | exact .inl z⟩
    · rw [if_neg z] at h
      by_cases y : x = 0
      · rw [if_pos y] at h
        obtain ⟨c, h1, h2, h3⟩ := lotR_true l _ h
        exact ⟨c, h1, .inl y, fun t ht => by rcases List.mem_cons.1 ht with rfl | ht <;> first | exact h3 _ ht | exact by omega⟩
      · rw [if_neg y] at h
        by_cases e : s.length = x
        · rw [if_pos e] at h
          obtain ⟨c, h1, h2, h3⟩ := lotR_true l x h
          exact ⟨c, h1, h2, fun t ht => by rcases List.mem_cons.1 ht with rfl | ht <;> first | exact h3 _ ht | exact by omega⟩
        · rw [if_neg e] at h; cases h
theorem lot_l0 (sh rows : List (List Int)) (h64 : sh.length ≤ 1000) : ∀ d i q x, i + d = sh.length → d < q →
    T.rs_lot_may.l0 q sh (sh.length : Int) (i : Int) sh rows (x : Nat) = some ((lotR (sh.drop i) x).1, ((lotR (sh.drop i) x).2 : Int)) := by
  intro d
  induction d with
  | zero =>
    intro i q x h hq
    obtain ⟨q, rfl⟩ : ∃ p, q = p + 1 := ⟨q - 1, by omega⟩
    unfold T.rs_lot_may.l0
    rw [if_neg (by omega), List.drop_eq_nil_of_le (by omega)]
    show some (decide ((x : Int) ≤ 4096), (x : Int)) = some (decide (x ≤ 4096), (x : Int))
    rw [show decide ((x : Int) ≤ 4096) = decide (x ≤ 4096) from by by_cases z : x ≤ 4096 <;> simp <;> omega]
  | succ d ih =>
    intro i q x h hq
    obtain ⟨q, rfl⟩ : ∃ p, q = p + 1 := ⟨q - 1, by omega⟩
    have hleft : T.rs_lot_left.f sh rows (x : Nat) (i : Int) = some (decide (((sh.getD i []).length : Int) > 0), (x : Int)) := by
      unfold T.rs_lot_left.f
      rw [if_pos (by omega), if_pos (by omega), rd_L1_natT]
    unfold T.rs_lot_may.l0
    rw [if_pos (by omega), if_pos (by omega), if_pos (by omega), hleft, Option.bind_some, rd_L1_natT, w64 (by omega) (by omega), ← succ_cast, drop_cons (d := []) (show i < sh.length by omega)]
    generalize sh.getD i [] = s
    show (if decide ((s.length : Int) > 0) = true then _ else _) = _
    unfold lotR
    by_cases z : s.length = 0
    · rw [if_neg (by rw [z]; decide), if_pos z]
      exact ih (i + 1) q x (by omega) (by omega)
    · rw [if_pos (decide_eq_true (by omega)), if_neg z]
      show (if (x : Int) = 0 then _ else _) = _
      by_cases y : x = 0
      · rw [if_pos (by omega), if_pos rfl, if_pos y]
        exact ih (i + 1) q s.length (by omega) (by omega)
      · rw [if_neg (by omega), if_neg y]
        by_cases e : s.length = x
        · rw [if_pos (by omega), if_pos e]
          exact ih (i + 1) q x (by omega) (by omega)
        · rw [if_neg (by omega), if_neg e]
theorem lot_f (sh rows : List (List Int)) (h64 : sh.length ≤ 1000) {q : Nat} (hq : sh.length < q) : T.rs_lot_may.f q sh rows 0 = some ((lotR sh 0).1, ((lotR sh 0).2 : Int)) := by
  have := lot_l0 sh rows h64 sh.length 0 q 0 (by omega) hq
  rw [List.drop_zero] at this
  exact this
/-! picked -/
def held (sh : List (List Int)) (i : Nat) : Bool := decide (0 < (sh.getD i []).length)
def picks (p : Nat → Bool) (most : Nat) : Nat → List Nat
  | 0 => []
  | n + 1 => if (picks p most n).length < most ∧ p n = true then picks p most n ++ [n] else picks p most n
theorem picks_mem {p : Nat → Bool} {most : Nat} : ∀ {n x : Nat}, x ∈ picks p most n → x < n ∧ p x = true
  | 0, x, h => by cases h
  | n + 1, x, h => by
    unfold picks at h
    split at h
    · rename_i c
      rcases List.mem_append.1 h with h | h
      · have := picks_mem h; exact ⟨by omega, this.2⟩
      · rw [List.mem_singleton.1 h]; exact ⟨by omega, c.2⟩
    · have := picks_mem h; exact ⟨by omega, this.2⟩
theorem picks_len {p : Nat → Bool} {most : Nat} : ∀ n, (picks p most n).length = min most (cnt p n)
  | 0 => by simp [picks, cnt]
  | n + 1 => by
    have ih := picks_len (p := p) (most := most) n
    unfold picks cnt
    by_cases h2 : p n = true
    · by_cases h1 : (picks p most n).length < most
      · rw [if_pos ⟨h1, h2⟩, if_pos h2, List.length_append]; simp; omega
      · rw [if_neg (fun h => h1 h.1), if_pos h2]; omega
    · rw [if_neg (fun h => h2 h.2), if_neg h2]; omega
theorem picks_sorted {p : Nat → Bool} {most : Nat} : ∀ n, (picks p most n).Pairwise (· < ·)
  | 0 => by simp [picks]
  | n + 1 => by
    have ih := picks_sorted (p := p) (most := most) n
    unfold picks
    split
    · refine List.pairwise_append.2 ⟨ih, by simp, fun a ha b hb => ?_⟩
      rw [List.mem_singleton.1 hb]
      exact (picks_mem ha).1
    · exact ih
theorem picks_at {p : Nat → Bool} {most n i : Nat} (h : i < (picks p most n).length) : (picks p most n).getD i 0 < n ∧ p ((picks p most n).getD i 0) = true := by
  rw [getD_at h]; exact picks_mem (List.getElem_mem h)
theorem picks_inj {p : Nat → Bool} {most n i j : Nat} (hi : i < (picks p most n).length) (hj : j < (picks p most n).length) (e : (picks p most n).getD i 0 = (picks p most n).getD j 0) : i = j := by
  have hs := List.pairwise_iff_getElem.1 (picks_sorted (p := p) (most := most) n)
  rw [getD_at hi, getD_at hj] at e
  rcases Nat.lt_trichotomy i j with h | h | h
  · have := hs i j hi hj h; omega
  · exact h
  · have := hs j i hj hi h; omega
end Go.Proofs.Ythblmkailhdhlaa.Mat
namespace Go.Proofs.Ythblmkailhdhlaa.Given
open Go.Proofs.Ythblmkailhdhlaa.Mat
/-- What rs.Decode comes to. -/
def rs_Decode.g (q : Nat) (sh : List (List Int)) (k : Int) : Option (List (List Int) × Int) :=
  (T.rs_Rows.f q k (Go.RowKit.wrap64 ((sh.length : Int) - k))).bind fun b =>
    if b.2 = 0 then (T.rs_lot_may.f q sh b.1 0).bind fun m =>
      if m.1 = true then
        if sh.length ≤ b.1.length ∧ sh.length ≤ 1000 ∧ (∀ s ∈ sh, s.length < 140737488355328) ∧ 0 ≤ k ∧ k ≤ 1000 then
          if (picks (held sh) k.toNat sh.length).length < k.toNat then some ([], 9)
          else (mat_Inv.f ((picks (held sh) k.toNat sh.length).map fun i => b.1.getD i [])).bind fun inv =>
            if inv.2 = 0 then (mat_Mul.f inv.1 ((picks (held sh) k.toNat sh.length).map fun i => sh.getD i [])).bind fun d =>
              (T.rs_Encode.f q d.1 (Go.RowKit.wrap64 ((sh.length : Int) - k))).bind fun r => if d.1.length + r.1.length < 5864062014805 then some (d.1 ++ r.1, r.2) else none
            else some ([], inv.2)
        else none
      else some ([], 1)
    else some ([], 1)
end Go.Proofs.Ythblmkailhdhlaa.Given
namespace Go.Proofs.Ythblmkailhdhlaa.Mat
open Go.RowKit Go.Proofs.Ythblmkailhdhlaa.F Go.Proofs.Ythblmkailhdhlaa.R Go.Proofs.Ythblmkailhdhlaa.G Go.Proofs.Ythblmkailhdhlaa.P Go.Proofs.Ythblmkailhdhlaa.Given Go.Proofs.Ythblmkailhdhlaa.Gf Go.Proofs.YthblmkailhdhlaaW.PrintWords
theorem mnats_getD (l : List (List Int)) (i : Nat) : (mnats l).getD i [] = nats (l.getD i []) := by
  unfold mnats
  rw [List.getD_eq_getElem?_getD, List.getD_eq_getElem?_getD, List.getElem?_map]
  cases l[i]? <;> rfl
/-- The numbers of the rows that are taken. -/
def pickK (sh : List (List Int)) (k : Nat) (i : Nat) : Nat := (picks (held sh) k sh.length).getD i 0
/-- .. and these rows. -/
def ofK (sh : List (List Int)) (k c : Nat) : List (List Nat) := grid k c fun i j => el (mnats sh) (pickK sh k i) j
theorem guards {sh : List (List Int)} {k m : Nat} (hl : sh.length = k + m) (h : k + m ≤ 64) (hs : ∀ s ∈ sh, s.length < 140737488355328) :
    sh.length ≤ ((mints (grid (k + m) k (allAt k)), (0 : Int)) : List (List Int) × Int).1.length ∧ sh.length ≤ 1000 ∧ (∀ s ∈ sh, s.length < 140737488355328) ∧ 0 ≤ (k : Int) ∧ (k : Int) ≤ 1000 :=
  ⟨by show _ ≤ (mints _).length; rw [mints_len, grid_len]; omega, by omega, hs, by omega, by omega⟩
theorem dec_bad {sh : List (List Int)} {k : Int} (h64 : sh.length ≤ 1000) (h : ¬ (1 ≤ k ∧ k ≤ sh.length ∧ sh.length ≤ 64)) (hr : -9223372036854775808 ≤ k ∧ k ≤ 9223372036854775807) {q : Nat} (hq : 2000 ≤ q) : rs_Decode.g q sh k = some ([], 1) := by
  obtain ⟨q, rfl⟩ : ∃ p, q = p + 1 := ⟨q - 1, by omega⟩
  unfold rs_Decode.g
  have : T.rs_Rows.f (q + 1) k (wrap64 ((sh.length : Int) - k)) = some ([], 1) := by
    refine rrows_bad (fun hh => h ?_) q
    have hw := w64 (x := (sh.length : Int) - k) (by omega) (by omega)
    rw [hw] at hh
    omega
  rw [this, Option.bind_some, if_neg (by decide)]
theorem dec_odd {sh : List (List Int)} {k m : Nat} (hk : 1 ≤ k) (h : k + m ≤ 64) (hl : sh.length = k + m) (hs : (lotR sh 0).1 = false) {q : Nat} (hq : 2000 ≤ q) : rs_Decode.g q sh k = some ([], 1) := by
  obtain ⟨q, rfl⟩ : ∃ p, q = p + 1 := ⟨q - 1, by omega⟩
  unfold rs_Decode.g
  rw [w64 (by omega) (by omega), show ((sh.length : Int) - (k : Int)) = (m : Int) by omega, rrows_good hk h, Option.bind_some, if_pos rfl, lot_f _ _ (by omega) (by omega), Option.bind_some, hs, if_neg (by decide)]
theorem dec_lost {sh : List (List Int)} {k m : Nat} (hk : 1 ≤ k) (h : k + m ≤ 64) (hl : sh.length = k + m) (hs : (lotR sh 0).1 = true) (hp : cnt (held sh) (k + m) < k) {q : Nat} (hq : 2000 ≤ q) : rs_Decode.g q sh k = some ([], 9) := by
  obtain ⟨q, rfl⟩ : ∃ p, q = p + 1 := ⟨q - 1, by omega⟩
  unfold rs_Decode.g
  rw [w64 (by omega) (by omega), show ((sh.length : Int) - (k : Int)) = (m : Int) by omega, rrows_good hk h, Option.bind_some, if_pos rfl, lot_f _ _ (by omega) (by omega), Option.bind_some, hs, if_pos rfl, if_pos (guards hl (by omega) (fun s h' => by obtain ⟨c, h1, _, h3⟩ := lotR_true sh 0 hs; have := h3 s h'; omega)), Int.toNat_natCast, picks_len, hl, if_pos (by omega)]
theorem dec_good {sh : List (List Int)} {k m c : Nat} (hk : 1 ≤ k) (h : k + m ≤ 64) (hl : sh.length = k + m) (hb : okM sh) (hc : 1 ≤ c ∧ c ≤ 4096) (hs : ∀ s ∈ sh, s.length = 0 ∨ s.length = c) (hp : k ≤ cnt (held sh) (k + m)) {q : Nat} (hq : 2000 ≤ q) :
    ∃ T, Square k T ∧ mulM T (grid k k fun i => allAt k (pickK sh k i)) = grid k k oneAt ∧ mulM (grid k k fun i => allAt k (pickK sh k i)) T = grid k k oneAt ∧ Rect k c (ofK sh k c) ∧
      rs_Decode.g q sh k = some (mints (mulM T (ofK sh k c) ++ shares m (mulM T (ofK sh k c))), 0) := by
  have hlen : (picks (held sh) k sh.length).length = k := by rw [picks_len, hl]; omega
  have hK : ∀ i, i < k → pickK sh k i < k + m ∧ held sh (pickK sh k i) = true := fun i hi => by
    have := picks_at (p := held sh) (most := k) (n := sh.length) (i := i) (by omega)
    unfold pickK; rw [hl] at *; exact this
  have hi : ∀ i j, i < k → j < k → pickK sh k i = pickK sh k j → i = j := fun i j h1 h2 e => picks_inj (by omega) (by omega) e
  have hrow : ∀ i, i < k → (sh.getD (pickK sh k i) []).length = c ∧ sh.getD (pickK sh k i) [] ∈ sh := fun i hi => by
    have h1 := (hK i hi).1
    have h2 := of_decide_eq_true (hK i hi).2
    have h3 : sh.getD (pickK sh k i) [] ∈ sh := by rw [getD_at (by omega)]; exact List.getElem_mem _
    have := hs _ h3
    exact ⟨by omega, h3⟩
  obtain ⟨T, t1, t2, t3, t4⟩ := inv_rows hk h (fun i hi => (hK i hi).1) hi
  have hof : Rect k c (ofK sh k c) := grid_rect fun i j _ _ => el_lt (mnats_bytes hb) _ _
  have hD := mulM_rect t2.rect hof (by omega)
  refine ⟨T, t2, t3, t4, hof, ?_⟩
  obtain ⟨q, rfl⟩ : ∃ p, q = p + 1 := ⟨q - 1, by omega⟩
  have eby : ((picks (held sh) k sh.length).map fun i => (mints (grid (k + m) k (allAt k))).getD i []) = mints (grid k k fun i => allAt k (pickK sh k i)) := by
    apply List.ext_getElem?
    intro i
    by_cases z : i < k
    · rw [List.getElem?_map, show (picks (held sh) k sh.length)[i]? = some (pickK sh k i) from by unfold pickK; rw [getD_at (by omega)]; exact List.getElem?_eq_getElem (by omega)]
      show some ((mints (grid (k + m) k (allAt k))).getD (pickK sh k i) []) = _
      unfold mints
      rw [List.getElem?_map, grid_get _ _ _ z, List.getD_eq_getElem?_getD, List.getElem?_map, grid_get _ _ _ (hK i z).1]
      rfl
    · rw [List.getElem?_eq_none (by rw [List.length_map]; omega), List.getElem?_eq_none (by rw [mints_len, grid_len]; omega)]
  have eof : ((picks (held sh) k sh.length).map fun i => sh.getD i []) = mints (ofK sh k c) := by
    apply List.ext_getElem?
    intro i
    by_cases z : i < k
    · rw [List.getElem?_map, show (picks (held sh) k sh.length)[i]? = some (pickK sh k i) from by unfold pickK; rw [getD_at (by omega)]; exact List.getElem?_eq_getElem (by omega)]
      show some (sh.getD (pickK sh k i) []) = _
      unfold mints ofK
      rw [List.getElem?_map, grid_get _ _ _ z]
      show _ = some (ints ((List.range c).map fun j => ((mnats sh).getD (pickK sh k i) []).getD j 0))
      rw [mnats_getD, list_range_el _ _ (by unfold nats; rw [List.length_map]; exact (hrow i z).1), ints_nats (hb _ (hrow i z).2)]
    · rw [List.getElem?_eq_none (by rw [List.length_map]; omega), List.getElem?_eq_none (by rw [mints_len]; unfold ofK; rw [grid_len]; omega)]
  unfold rs_Decode.g
  rw [w64 (by omega) (by omega), show ((sh.length : Int) - (k : Int)) = (m : Int) by omega, rrows_good hk h, Option.bind_some, if_pos rfl, lot_f _ _ (by omega) (by omega), Option.bind_some, lotR_ok hc.2 sh 0 hs (.inl rfl), if_pos rfl, if_pos (guards hl (by omega) (fun s h' => by have := hs s h'; omega)), Int.toNat_natCast, hlen, if_neg (by omega)]
  show ((mat_Inv.f ((picks (held sh) k sh.length).map fun i => (mints (grid (k + m) k (allAt k))).getD i [])).bind _) = _
  rw [eby, eof, t1, Option.bind_some, if_pos rfl]
  show ((mat_Mul.f (mints T) _).bind _) = _
  rw [mul_rect t2.rect hof (by omega) (by omega) hc, Option.bind_some]
  show ((Go.Proofs.Ythblmkailhdhlaa.T.rs_Encode.f _ (mints _) _).bind _) = _
  have hsh := shares_rect (m := m) hD hk
  rw [renc_good hD hk hc h (by omega), Option.bind_some, if_pos (by show (mints _).length + (mints _).length < _; rw [mints_len, mints_len, hD.1, hsh.1]; omega), mints_app]
/-- What was made of data, and lost in part, is made again. -/
theorem dec_back {sh : List (List Int)} {D : List (List Nat)} {k m c : Nat} (hD : Rect k c D) (hk : 1 ≤ k) (h : k + m ≤ 64) (hc : 1 ≤ c ∧ c ≤ 4096) (hl : sh.length = k + m)
    (hs : ∀ i, i < k + m → sh.getD i [] = [] ∨ sh.getD i [] = (mints (D ++ shares m D)).getD i []) {q : Nat} (hq : 2000 ≤ q) :
    rs_Decode.g q sh k = if cnt (held sh) (k + m) < k then some ([], 9) else some (mints (D ++ shares m D), 0) := by
  have hA := all_rect (m := m) hD hk
  have hrow : ∀ s ∈ sh, (s.length = 0 ∨ s.length = c) ∧ ∀ x ∈ s, 0 ≤ x ∧ x < 256 := fun s hs' => by
    obtain ⟨i, hi, rfl⟩ := List.mem_iff_getElem.1 hs'
    have := hs i (by omega)
    rw [getD_at hi] at this
    rcases this with e | e
    · rw [e]; exact ⟨.inl rfl, fun x hx => by cases hx⟩
    · obtain ⟨l, e1, e2, e3, e4⟩ := hA.row (i := i) (by omega)
      rw [mints_getD, e2] at e
      rw [e, ints_len]
      exact ⟨.inr e3, fun x hx => by
        obtain ⟨y, hy, rfl⟩ := List.mem_map.1 hx
        have := e4 y hy; omega⟩
  by_cases hp : cnt (held sh) (k + m) < k
  · rw [if_pos hp]
    exact dec_lost hk h hl (lotR_ok hc.2 sh 0 (fun s hs' => (hrow s hs').1) (.inl rfl)) hp hq
  · rw [if_neg hp]
    obtain ⟨T, t1, t2, t3, t4, t5⟩ := dec_good (q := q) hk h hl (fun s hs' => (hrow s hs').2) hc (fun s hs' => (hrow s hs').1) (by omega) hq
    have hK : ∀ i, i < k → pickK sh k i < k + m ∧ held sh (pickK sh k i) = true := fun i hi => by
      have := picks_at (p := held sh) (most := k) (n := sh.length) (i := i) (by rw [picks_len, hl]; omega)
      unfold pickK; rw [hl] at *; exact this
    have hby : Square k (grid k k fun i => allAt k (pickK sh k i)) := grid_rect fun i j _ _ => allAt_lt _ _ _
    have e1 : ofK sh k c = mulM (grid k k fun i => allAt k (pickK sh k i)) D := by
      rw [mulM_grid hby.rect hD (by omega)]
      unfold ofK
      refine grid_congr fun i j hi hj => ?_
      have e2 : sh.getD (pickK sh k i) [] = (mints (D ++ shares m D)).getD (pickK sh k i) [] := by
        rcases hs _ (hK i hi).1 with e | e
        · have := of_decide_eq_true (hK i hi).2; rw [e] at this; simp at this
        · exact e
      have e3 : el (mnats sh) (pickK sh k i) j = el (D ++ shares m D) (pickK sh k i) j := by
        show ((mnats sh).getD _ []).getD j 0 = _
        rw [mnats_getD, e2, mints_getD, nats_ints]; rfl
      rw [e3, all_eq hD hk, el_mulM (allAt_rect _ _) hD (by omega) (hK i hi).1 hj]
      unfold mulF
      exact sg_congr fun t ht => by rw [el_grid (hK i hi).1 ht, el_grid hi ht]
    have e2 : mulM T (ofK sh k c) = D := by
      rw [e1, ← mulM_assoc t1.rect hby.rect hD (by omega) (by omega), t2, one_mul hD (by omega)]
    rw [t5, e2]
end Go.Proofs.Ythblmkailhdhlaa.Mat
/- Shares of sums, shares of pieces. -/
namespace Go.Proofs.Ythblmkailhdhlaa.Mat
set_option linter.unusedVariables false
open Go.RowKit Go.Proofs.Ythblmkailhdhlaa.F Go.Proofs.Ythblmkailhdhlaa.R Go.Proofs.Ythblmkailhdhlaa.G Go.Proofs.Ythblmkailhdhlaa.P Go.Proofs.Ythblmkailhdhlaa.Given Go.Proofs.Ythblmkailhdhlaa.Gf Go.Proofs.YthblmkailhdhlaaW.PrintWords
end Go.Proofs.Ythblmkailhdhlaa.Mat
/- rs.picked, with the method value of a lot. -/
namespace Go.Proofs.Ythblmkailhdhlaa.Given
set_option linter.unusedVariables false
open Go.RowKit Go.Proofs.Ythblmkailhdhlaa.F Go.Proofs.Ythblmkailhdhlaa.R Go.Proofs.Ythblmkailhdhlaa.Mat Go.Proofs.Ythblmkailhdhlaa.T Go.Proofs.Ythblmkailhdhlaa.Gf Go.Proofs.YthblmkailhdhlaaW.PrintWords
theorem info3i : (Try.prog.info? 3).map (fun i => (i.zero, i.size, i.bytes)) = some (some (.int .i64 0), 1, 8) := by kernel_rfl
set_option maxRecDepth 100000 in
set_option maxHeartbeats 4000000 in
theorem left_calls (g : Nat) (sh rows : List (List Int)) (lg : Int) (i : Nat) (hi : i < sh.length) (w0 w : World) (hI : IsS75 w0 w g sh rows lg) (hB : Below w0.heap.size w0 w) :
    Calls Try.prog 74 #[.pointer (some ⟨g, 0, none⟩), .int .i64 i] w fun e w' => e = .returned (.bool (held sh i)) ∧ ∃ n, w' = w.drewN n := by
  obtain ⟨A0, c0, A1, c1, hg, hle, h0, h1⟩ := hI
  have k0 := cellS75_0 hg
  obtain ⟨ad, A, c, e, hx, hl, hC⟩ := at_L1 h0 (i : Int) (by omega) (by omega)
  cases e
  replace hx := pw_cell_below hB hx
  rw [Int.toNat_natCast] at hx
  have hb : held sh i = decide (((T.rd_L1 sh (i : Int)).length : Int) > 0) := by
    rw [rd_L1_natT]; unfold held
    by_cases z : 0 < (sh.getD i []).length <;> simp <;> omega
  rw [hb]
  clear hg h0 h1 hC hB hb
  have p : (0 ≤ (i : Int)) = True := eq_true (by omega)
  have q : ((i : Int) < (sh.length : Int)) = True := eq_true (by omega)
  go_enter Try.func74, Try.ntmps74
  go_wp2
  go_ret
  first | exact ⟨rfl, 0, rfl⟩ | exact ⟨by simp, 0, rfl⟩ | exact ⟨rfl, 1, rfl⟩ | exact ⟨by simp, 1, rfl⟩
def picksI (sh : List (List Int)) (most i : Nat) : List Int := (picks (held sh) most i).map Int.ofNat
theorem picksI_len (sh : List (List Int)) (most i : Nat) : (picksI sh most i).length ≤ i := by
  unfold picksI; rw [List.length_map, picks_len]
  have := cnt_le (held sh) i
  omega
theorem picksI_yes {sh : List (List Int)} {most i : Nat} (h1 : (picksI sh most i).length < most) (h2 : held sh i = true) : picksI sh most (i + 1) = picksI sh most i ++ [(i : Int)] := by
  unfold picksI at *
  rw [List.length_map] at h1
  rw [picks, if_pos ⟨h1, h2⟩, List.map_append]; rfl
theorem picksI_no {sh : List (List Int)} {most i : Nat} (h : ¬ ((picksI sh most i).length < most ∧ held sh i = true)) : picksI sh most (i + 1) = picksI sh most i := by
  unfold picksI at *
  rw [List.length_map] at h
  rw [picks, if_neg h]
theorem intOf_int (k : IntKind) (q : Int) : intOf (.int k q) = q := rfl
theorem meas_step {n i : Nat} (hn : n ≤ 1000) (hi : i < n) : n - (intOf (.int .i64 (wrap64 ((i : Int) + 1)))).toNat < n - (intOf (.int .i64 (i : Int))).toNat := by
  have e : wrap64 ((i : Int) + 1) = ((i + 1 : Nat) : Int) := by rw [w64 (by omega) (by omega)]; rfl
  rw [intOf_int, intOf_int, e, Int.toNat_natCast, Int.toNat_natCast]
  exact Nat.sub_lt_sub_left hi (Nat.lt_succ_self i)
set_option maxRecDepth 100000 in
set_option maxHeartbeats 8000000 in
theorem rs_picked.calls (g : Nat) (sh rows : List (List Int)) (lg : Int) (most : Nat) (hs : sh.length ≤ 1000) (hm : most ≤ 1000) (w0 w : World) (hI : IsS75 w0 w g sh rows lg) (hB : Below w0.heap.size w0 w) :
    Calls Try.prog 73 #[.int .i64 sh.length, .int .i64 most, .func (.func 74) #[.pointer (some ⟨g, 0, none⟩)] #[]] w fun e w' => ∃ v : Value, e = .returned v ∧ (Kd.int .i64).R 3 w' w.heap.size (fun _ => True) v (picksI sh most sh.length) ∧ Below w.heap.size w w' := by
  have HI := Lib.hid hI
  have HB0 := Lib.hid hB
  have HS := Lib.hid hs
  have HM := Lib.hid hm
  clear hI hB hs hm
  go_enter Try.func73, Try.ntmps73
  go_wp2
  go_loopw [7, 10] (fun v7 v10 wr => ∃ i : Nat, Hid (i ≤ sh.length) ∧ v10 = .int .i64 i ∧ Hid ((Kd.int .i64).R 3 wr w.heap.size (fun _ => True) v7 (picksI sh most i)) ∧ Hid (Below w.heap.size w wr)) (fun _ v _ => sh.length - (intOf v).toNat)
  case atStart => exact ⟨0, Nat.zero_le _, rfl, Kd.R_nil _ _ _ _ _, Below.refl _ _⟩
  case round =>
    obtain ⟨i, hi, rfl, HR, HW⟩ := hrel
    obtain ⟨A7, c7, rfl⟩ := Kd.R_slice HR.out
    by_cases hlt : i < sh.length
    · have hL := left_calls g sh rows lg i (by omega) w0 wr (HI.out.below HW.out) (HB0.out.trans (HW.out.mono (by have := IsS75.lt HI.out; have := IsS75.ge HI.out; omega)))
      by_cases hle : (picksI sh most i).length < most
      · have hil : Hid (i < sh.length) := hlt
        by_cases hh : held sh i = true
        · rw [hh] at hL
          have hL' := Lib.hid hL
          have hN : Hid (picksI sh most (i + 1) = picksI sh most i ++ [(i : Int)]) := picksI_yes hle hh
          have hlen : Hid ((picksI sh most i).length ≤ i) := picksI_len _ _ _
          clear hL hh
          go_wp2_with fail
          refine hL'.out.mono ?_
          rintro e w1 ⟨rfl, n, rfl⟩
          clear hL'
          go_wp2_with (at_builtin; refine Kd.R_append (Kd.int .i64) (w0 := w) w.heap.size rfl (.tmp 22) (.tmp 24) 54 3 (.int .i64 0) 8 rfl Try.underlying54 info3i rfl (by decide) (by omega) (.slice A7 (picksI sh most i).length c7) (picksI sh most i) (i : Int) [.int .i64 i] (fun _ => True) (fun _ => False) rfl rfl rfl (fun _ h => h.elim) (fun _ _ => trivial) ?aO ?aB ?aS ?aL ?_)
          case aO => exact Kd.R_drewN HR.out n
          case aB => exact below_drewN' n HW.out
          case aS => exact HW.out.size
          case aL => have := hlen.out; have := hil.out; have := HS.out; omega
          intro v1 w2 ho hb hg hat
          rw [← hN.out] at ho
          have HR2 := Lib.hid ho
          have HW2 := Lib.hid hb
          clear ho hb hg hat
          go_wp2_with fail
          go_roundw
          case rel => exact ⟨i + 1, hil.out, (by have h1_ := HS.out; have h2_ := hil.out; rw [w64 (by omega) (by omega)]; rfl), HR2, HW2⟩
          case measure => exact meas_step HS.out hil.out
        · have hh' : held sh i = false := Bool.eq_false_iff.2 hh
          rw [hh'] at hL
          have hL' := Lib.hid hL
          have hN : Hid (picksI sh most (i + 1) = picksI sh most i) := picksI_no (fun h => hh h.2)
          clear hL hh hh'
          go_wp2_with fail
          refine hL'.out.mono ?_
          rintro e w1 ⟨rfl, n, rfl⟩
          clear hL'
          go_wp2_with fail
          go_roundw
          case rel => exact ⟨i + 1, hil.out, (by have h1_ := HS.out; have h2_ := hil.out; rw [w64 (by omega) (by omega)]; rfl), by rw [hN.out]; exact Kd.R_drewN HR.out n, below_drewN' n HW.out⟩
          case measure => exact meas_step HS.out hil.out
      · have hN : Hid (picksI sh most (i + 1) = picksI sh most i) := picksI_no (fun h => hle (by omega))
        have hil : Hid (i < sh.length) := hlt
        clear hL
        go_wp2_with fail
        go_roundw
        case rel => exact ⟨i + 1, hil.out, (by have h1_ := HS.out; have h2_ := hil.out; rw [w64 (by omega) (by omega)]; rfl), by rw [hN.out]; exact HR.out, HW.out⟩
        case measure => exact meas_step HS.out hil.out
    · go_wp2_with fail
      go_ret
      have e : i = sh.length := by have := hi.out; omega
      have hr := HR.out
      rw [e] at hr
      exact ⟨_, by rw [e]; rfl, hr, HW.out⟩
end Go.Proofs.Ythblmkailhdhlaa.Given
/- rs.Decode. -/
namespace Go.Proofs.Ythblmkailhdhlaa.Given
set_option linter.unusedVariables false
set_option linter.unusedSimpArgs false
open Go.RowKit Go.Proofs.Ythblmkailhdhlaa.F Go.Proofs.Ythblmkailhdhlaa.R Go.Proofs.Ythblmkailhdhlaa.Mat Go.Proofs.Ythblmkailhdhlaa.Gf Go.Proofs.YthblmkailhdhlaaW.PrintWords Go.Proofs.YthblmkailhdhlaaW.PrintLast Go.Proofs.YthblmkailhdhlaaW.PrintMore
abbrev DM := Kd.slice 5 (Kd.int .u8)
theorem picksI_map (l sh : List (List Int)) (most n : Nat) : (picksI sh most n).map (T.rd_L1 l) = (picks (held sh) most n).map (fun i => l.getD i []) := by
  unfold picksI; rw [List.map_map]; rfl
theorem picksI_mem {sh : List (List Int)} {most n : Nat} {x : Int} (h : x ∈ picksI sh most n) : 0 ≤ x ∧ x < n := by
  obtain ⟨i, hi, rfl⟩ := List.mem_map.1 h
  have := picks_mem hi
  show (0 : Int) ≤ (i : Int) ∧ (i : Int) < n
  omega
theorem rd_mem {l : List Int} {t : Nat} (h : t < l.length) : Go.Proofs.YthblmkailhdhlaaW.PrintWords.rd l (t : Int) ∈ l := by
  rw [rd_nat, getD_at h]; exact List.getElem_mem h
theorem take_more {l : List Int} {t : Nat} (h : t < l.length) : l.take (t + 1) = l.take t ++ [Go.Proofs.YthblmkailhdhlaaW.PrintWords.rd l (t : Int)] := by
  rw [rd_nat, getD_at h, List.take_add_one, List.getElem?_eq_getElem h]; rfl
set_option maxRecDepth 100000 in
set_option maxHeartbeats 16000000 in
theorem rs_Decode.callsg (q : Nat) (A0 : Option Addr) (c0 : Nat) (sh : List (List Int)) (k : Int) (r1 : List (List Int)) (r2 : Int) (w : World) (hr0 : Kd.C (Kd.slice 5 (Kd.int .u8)) w A0 sh.length sh) (hc0 : sh.length ≤ c0) (h : rs_Decode.g q sh k = some (r1, r2)) :
    Calls Try.prog 55 #[.slice A0 sh.length c0, .int .i64 k] w fun e w' => ∃ v0_ : Value, e = .returned (.tuple #[v0_, .int .i64 r2]) ∧ Kd.S (Kd.slice 5 (Kd.int .u8)) 43 w' w.heap.size (fun _ => True) v0_ r1 ∧ Below w.heap.size w w' := by
  unfold rs_Decode.g at h
  obtain ⟨⟨b1, b2⟩, hrows, h⟩ := Option.bind_eq_some_iff.1 h
  have HR := Lib.hid (T.rs_Rows.calls q k (wrap64 ((sh.length : Int) - k)) b1 b2 w hrows)
  have H := Lib.hid h
  have HC0 := Lib.hid hr0
  clear h hrows hr0 hc0
  have hmf : ∀ (fn : Fn) (first cap : Array Value) (w : World), (Instr.makeFunc fn first cap).run Try.prog w = .ok (.func fn first cap) w := fun _ _ _ _ => rfl
  go_enter Try.func55, Try.ntmps55
  go_wp2_with fail
  refine HR.out.mono ?_
  rintro e w1 ⟨v, rfl, hS, hB⟩
  clear HR
  obtain ⟨Ar, cr, rfl⟩ := Kd.S_slice hS
  have HB1 := Lib.hid hB
  have HC0a := Lib.hid (Kd.C_below HC0.out hB)
  have HC1a := Lib.hid (Kd.S_reads' hS).2.2
  clear hS hB HC0
  have h := H.out
  try dsimp only at h
  by_cases e0 : b2 = 0
  · subst e0
    rw [if_pos rfl] at h
    obtain ⟨⟨m1, m2⟩, hmay, h⟩ := Option.bind_eq_some_iff.1 h
    have HMY := Lib.hid (T.rs_lot_may.calls q w1.heap.size sh b1 0 m1 m2 w1 _ (T.IsS75.new w1 w1 A0 c0 Ar cr sh b1 0 (Below.refl _ _) HC0a.out HC1a.out) ((Below.refl _ _).alloc (Nat.le_refl _) _) hmay)
    try dsimp only at h
    cases m1 with
    | false =>
      rw [if_neg (by decide)] at h
      injection h with h
      injection h with h1 h2
      subst h1; subst h2
      clear H hmay
      go_wp2_with fail
      refine HMY.out.mono ?_
      rintro e w2 ⟨rfl, hI, hb, hk⟩
      have HB2 := Lib.hid hb
      clear hI hk hb HMY
      go_wp2_with fail
      go_ret2
      exact ⟨_, rfl, Kd.S_nil _ _ _ _ _, HB1.out.trans (HB2.out.mono HB1.out.size)⟩
    | true =>
      rw [if_pos rfl] at h
      by_cases hg : sh.length ≤ b1.length ∧ sh.length ≤ 1000 ∧ (∀ s ∈ sh, s.length < 140737488355328) ∧ 0 ≤ k ∧ k ≤ 1000
      case neg => rw [if_neg hg] at h; cases h
      rw [if_pos hg] at h
      obtain ⟨kn, rfl⟩ := Int.eq_ofNat_of_zero_le hg.2.2.2.1
      rw [Int.toNat_natCast, ← picksI_map b1, ← picksI_map sh] at h
      have hkn : kn ≤ 1000 := by have := hg.2.2.2.2; omega
      have h1000 := hg.2.1
      have hle := hg.1
      have hcl0 := hg.2.2.1
      have HG := Lib.hid hg
      have H1 := Lib.hid h
      have HK := Lib.hid hkn
      have HLE := Lib.hid hle
      have H1000 := Lib.hid h1000
      have HCL := Lib.hid hcl0
      clear H hmay h hg hkn hle h1000 hcl0 HG
      go_wp2_with fail
      refine HMY.out.mono ?_
      rintro e w2 ⟨rfl, hI, hb, hk⟩
      have HP := Lib.hid (rs_picked.calls w1.heap.size sh b1 m2 kn H1000.out HK.out w1 w2 hI hb)
      have HB2 := Lib.hid (HB1.out.trans (hb.mono HB1.out.size))
      have HC0b := Lib.hid (Kd.C_below HC0a.out hb)
      have HC1b := Lib.hid (Kd.C_below HC1a.out hb)
      clear hI hk hb HMY HB1 HC0a HC1a
      go_wp2_with fail
      refine HP.out.mono ?_
      rintro e W1 ⟨vg, rfl, hR, hb⟩
      obtain ⟨Ag, cg, rfl⟩ := Kd.R_slice hR
      have HCg := Lib.hid (Kd.R_reads' hR).2.2
      have HB3 := Lib.hid (HB2.out.trans (hb.mono HB2.out.size))
      have HC0c := Lib.hid (Kd.C_below HC0b.out hb)
      have HC1c := Lib.hid (Kd.C_below HC1b.out hb)
      have hpl : (picks (held sh) kn sh.length).length = (picksI sh kn sh.length).length := by unfold picksI; rw [List.length_map]
      have h := H1.out
      rw [hpl] at h
      have hgl : (picksI sh kn sh.length).length ≤ sh.length := picksI_len _ _ _
      have hgm : ∀ x ∈ picksI sh kn sh.length, 0 ≤ x ∧ x < sh.length := fun x hx => picksI_mem hx
      have HGL := Lib.hid hgl
      have HGM := Lib.hid hgm
      clear hR hb HP HB2 HC0b HC1b H1 hpl hgl hgm
      generalize picksI sh kn sh.length = goods at *
      by_cases hlt : goods.length < kn
      · rw [if_pos hlt] at h
        injection h with h
        injection h with h1 h2
        subst h1; subst h2
        go_wp2_with fail
        go_ret2
        exact ⟨_, rfl, Kd.S_nil _ _ _ _ _, HB3.out⟩
      · rw [if_neg hlt] at h
        obtain ⟨⟨i1, i2⟩, hinv, h⟩ := Option.bind_eq_some_iff.1 h
        try dsimp only at h
        have HI := Lib.hid hinv
        have H2 := Lib.hid h
        clear h hinv
        go_wp2
        go_loopw [10, 11, 50] (fun v10 v11 v50 wr => ∃ (t : Nat) (vb vo : Value), Hid (t ≤ goods.length) ∧ vb = v10 ∧ vo = v11 ∧ v50 = .int .i64 t ∧ Hid (Kd.N DM 43 wr W1.heap.size (fun k => some k ≠ (vo : Value).ownBlock) vb ((goods.take t).map (T.rd_L1 b1))) ∧ Hid (Kd.N DM 43 wr W1.heap.size (fun k => some k ≠ (vb : Value).ownBlock) vo ((goods.take t).map (T.rd_L1 sh))) ∧ Hid (Below W1.heap.size W1 wr)) (fun _ _ v _ => goods.length - (intOf v).toNat)
        case atStart => exact ⟨0, _, _, Nat.zero_le _, rfl, rfl, rfl, Kd.N_nil _ _ _ _ _, Kd.N_nil _ _ _ _ _, Below.refl _ _⟩
        case round =>
          obtain ⟨t, vb, vo, ht, rfl, rfl, rfl, Hb, Ho, HW⟩ := hrel
          by_cases hl2 : t < goods.length
          · have hil : Hid (t < goods.length) := hl2
            obtain ⟨x, hx⟩ : ∃ x, x = Go.Proofs.YthblmkailhdhlaaW.PrintWords.rd goods (t : Int) := ⟨_, rfl⟩
            have hxm := HGM.out x (by rw [hx]; exact rd_mem hl2)
            have HX := Lib.hid hx
            obtain ⟨adg, eg, hxg⟩ := Kd.at_int HCg.out (t : Int) (by omega) (by omega)
            cases eg
            obtain ⟨adr, Br, dr, er, hxr, hlr, hCr⟩ := T.at_L1 HC1c.out x hxm.1 (by have := HLE.out; omega)
            cases er
            obtain ⟨ads, Bs, ds, es, hxs, hls, hCs⟩ := T.at_L1 HC0c.out x hxm.1 (by have := HLE.out; omega)
            cases es
            rw [← hx, Int.toNat_natCast] at hxg
            have cg := pw_cell_below HW.out hxg
            have p1 : (0 ≤ x) = True := eq_true hxm.1
            have p2 : (x < (b1.length : Int)) = True := eq_true (by have := HLE.out; omega)
            have p3 : (x < (sh.length : Int)) = True := eq_true hxm.2
            have hxr := Lib.hid hxr
            have hxs := Lib.hid hxs
            have hlr := Lib.hid hlr
            have hls := Lib.hid hls
            have hCr := Lib.hid hCr
            have hCs := Lib.hid hCs
            have hbl : Hid ((((goods.take t).map (T.rd_L1 b1)).length + 1) * 24 ≤ 140737488355328) := by
              have := H1000.out; have := HGL.out
              show _ ≤ _
              rw [List.length_map, List.length_take]; omega
            have hol : Hid ((((goods.take t).map (T.rd_L1 sh)).length + 1) * 24 ≤ 140737488355328) := by
              have := H1000.out; have := HGL.out
              show _ ≤ _
              rw [List.length_map, List.length_take]; omega
            have hcl : Hid (slices_Clone.f (T.rd_L1 sh x) = some (T.rd_L1 sh x)) := by
              show _ = _
              unfold slices_Clone.f
              rw [if_pos]
              refine HCL.out _ ?_
              unfold T.rd_L1
              rw [getD_at (show x.toNat < sh.length by omega)]
              exact List.getElem_mem _
            clear hx hxg hxm
            go_wp2
            have HW' := Lib.hid HW.out.drew
            have Hb' := Lib.hid (Kd.N_drew Hb.out)
            have Ho' := Lib.hid (Kd.N_drew Ho.out)
            clear HW Hb Ho
            have HW := HW'
            have Hb := Hb'
            have Ho := Ho'
            clear HW' Hb' Ho'
            refine start_ (n := 17) (S := fun w' => w'.cell? (adr.add x.toNat) = some (.slice Br (T.rd_L1 b1 x).length dr) ∧ w'.cell? (ads.add x.toNat) = some (.slice Bs (T.rd_L1 sh x).length ds)) (ds := [12, 13, 14]) #[false, false, false, false, false, false, false, false, false, false, false, false, false, false, false, false, false] (by kernel_rfl) rfl rfl ⟨(pw_cell_below HW.out hxr.out), (pw_cell_below HW.out hxs.out)⟩ (fun hHeld => ?_)
            generalize wr.drew = w11 at HW Hb Ho hHeld ⊢
            refine pure_ (i := 0) (N := some 54) (v := ?_) (a' := ?_) #[true, false, false, false, false, false, false, false, false, false, false, false, false, false, false, false, false] rfl rfl (by kernel_rfl) (fun _ _ _ h => h) (Or.inl ⟨by rfl, ?_⟩) ?_ ?_
            rotate_left
            · intro w'
              go_simp
              with_reducible rfl
            rotate_left
            · simp only [Act.put, List.setIfInBounds_toArray, List.set_cons_zero, List.set_cons_succ, i64_w, i32_w]
              rfl
            refine pure_ (i := 1) (N := some 55) (v := ?_) (a' := ?_) #[true, true, false, false, false, false, false, false, false, false, false, false, false, false, false, false, false] rfl rfl (by kernel_rfl) (fun _ _ _ h => h) (Or.inl ⟨by rfl, ?_⟩) ?_ ?_
            rotate_left
            · intro w'
              go_simp
              with_reducible rfl
            rotate_left
            · simp only [Act.put, List.setIfInBounds_toArray, List.set_cons_zero, List.set_cons_succ, i64_w, i32_w]
              rfl
            refine pure_ (i := 2) (N := some 56) (v := ?_) (a' := ?_) #[true, true, true, false, false, false, false, false, false, false, false, false, false, false, false, false, false] rfl rfl (by kernel_rfl) (fun _ _ _ h => h) (Or.inl ⟨by rfl, ?_⟩) ?_ ?_
            rotate_left
            · intro w'
              go_simp
              with_reducible rfl
            rotate_left
            · simp only [Act.put, List.setIfInBounds_toArray, List.set_cons_zero, List.set_cons_succ, i64_w, i32_w]
              rfl
            refine pure_ (i := 3) (N := some 57) (v := ?_) (a' := ?_) #[true, true, true, true, false, false, false, false, false, false, false, false, false, false, false, false, false] rfl rfl (by kernel_rfl) (fun _ _ _ h => h) (Or.inl ⟨by rfl, ?_⟩) ?_ ?_
            rotate_left
            · intro w'
              go_simp
              with_reducible rfl
            rotate_left
            · simp only [Act.put, List.setIfInBounds_toArray, List.set_cons_zero, List.set_cons_succ, i64_w, i32_w]
              rfl
            refine pure_ (i := 7) (N := some 61) (v := ?_) (a' := ?_) #[true, true, true, true, false, false, false, true, false, false, false, false, false, false, false, false, false] rfl rfl (by kernel_rfl) (fun _ _ _ h => h) (Or.inl ⟨by rfl, ?_⟩) ?_ ?_
            rotate_left
            · intro w'
              go_simp
              with_reducible rfl
            rotate_left
            · simp only [Act.put, List.setIfInBounds_toArray, List.set_cons_zero, List.set_cons_succ, i64_w, i32_w]
              rfl
            refine pure_ (i := 8) (N := some 62) (v := ?_) (a' := ?_) #[true, true, true, true, false, false, false, true, true, false, false, false, false, false, false, false, false] rfl rfl (by kernel_rfl) (fun _ _ _ h => h) (Or.inl ⟨by rfl, ?_⟩) ?_ ?_
            rotate_left
            · intro w'
              go_simp
              with_reducible rfl
            rotate_left
            · simp only [Act.put, List.setIfInBounds_toArray, List.set_cons_zero, List.set_cons_succ, i64_w, i32_w]
              rfl
            refine pure_ (i := 9) (N := some 63) (v := ?_) (a' := ?_) #[true, true, true, true, false, false, false, true, true, true, false, false, false, false, false, false, false] rfl rfl (by kernel_rfl) (fun _ _ _ h => h) (Or.inl ⟨by rfl, ?_⟩) ?_ ?_
            rotate_left
            · intro w'
              go_simp
              with_reducible rfl
            rotate_left
            · simp only [Act.put, List.setIfInBounds_toArray, List.set_cons_zero, List.set_cons_succ, i64_w, i32_w]
              rfl
            refine pure_ (i := 10) (N := some 64) (v := ?_) (a' := ?_) #[true, true, true, true, false, false, false, true, true, true, true, false, false, false, false, false, false] rfl rfl (by kernel_rfl) (fun _ _ _ h => h) (Or.inl ⟨by rfl, ?_⟩) ?_ ?_
            rotate_left
            · intro w'
              go_simp
              with_reducible rfl
            rotate_left
            · simp only [Act.put, List.setIfInBounds_toArray, List.set_cons_zero, List.set_cons_succ, i64_w, i32_w]
              rfl
            refine take_ (i := 4) (N := some 58) (v := ?_) (a' := ?_) #[true, true, true, true, true, false, false, true, true, true, true, false, false, false, false, false, false] rfl rfl (by kernel_rfl) (fun _ _ _ h => h) (Or.inl ⟨by rfl, ?_⟩) hHeld ?_ ?_
            rotate_left
            · rintro w' ⟨s0, s1⟩
              go_simp
              with_reducible rfl
            rotate_left
            · simp only [Act.put, List.setIfInBounds_toArray, List.set_cons_zero, List.set_cons_succ, i64_w, i32_w]
              rfl
            refine take_ (i := 11) (N := some 65) (v := ?_) (a' := ?_) #[true, true, true, true, true, false, false, true, true, true, true, true, false, false, false, false, false] rfl rfl (by kernel_rfl) (fun _ _ _ h => h) (Or.inl ⟨by rfl, ?_⟩) hHeld ?_ ?_
            rotate_left
            · rintro w' ⟨s0, s1⟩
              go_simp
              with_reducible rfl
            rotate_left
            · simp only [Act.put, List.setIfInBounds_toArray, List.set_cons_zero, List.set_cons_succ, i64_w, i32_w]
              rfl
            refine one_ (i := 5) (N := some 59) #[true, true, true, true, true, true, false, true, true, true, true, true, false, false, false, false, false] rfl rfl (by kernel_rfl) (by decide) (fun K hK => ?_)
            refine value_ (w1 := ?_) (v := ?_) (by rfl) rfl ?_ ?_
            rotate_left 2
            · go_simp
              constructor
              · rfl
              · rfl
            refine hK.out _ _ ⟨((World.cell?_alloc_lt _ _ _ (World.block_lt_of_cell? _ _ (hHeld.1))).trans (hHeld.1)), ((World.cell?_alloc_lt _ _ _ (World.block_lt_of_cell? _ _ (hHeld.2))).trans (hHeld.2))⟩ (fun hHeld => ?_)
            clear hK K
            refine norm_ (a' := ?_) ?_ ?_
            rotate_left
            · show Act.put _ (some 59) _ = _
              simp only [Act.put, List.setIfInBounds_toArray, List.set_cons_zero, List.set_cons_succ, i64_w, i32_w]
              rfl
            refine one_ (i := 6) (N := some 60) #[true, true, true, true, true, true, true, true, true, true, true, true, false, false, false, false, false] rfl rfl (by kernel_rfl) (by decide) (fun K hK => ?_)
            refine Kd.N_append_step (Kd.slice 5 (Kd.int .u8)) (w0 := W1) W1.heap.size (by rfl) (.tmp 54) (.tmp 59) 42 43 (.slice none 0 0) 24 rfl Try.underlying42 info43 rfl (by decide) (by omega) vb ((goods.take t).map (T.rd_L1 b1)) (T.rd_L1 b1 x) [.slice Br (T.rd_L1 b1 x).length dr] (fun k => some k ≠ (vo : Value).ownBlock) (fun k => k < W1.heap.size) rfl rfl ?aP ?aI ?aF ?aO ?aB ?aS ?aL ?_
            case aP => exact Kd.FK_slice_mk hlr.out (Kd.F_below (Kd.C_F (Kd.heap_int .u8) hCr.out) HW.out)
            case aI => exact fun k hk => ⟨fun e => by have := Kd.N_base Ho.out k e.symm; omega, fun e => by have := Kd.N_base Hb.out k e.symm; omega⟩
            case aF => exact fun k hk e => by have := Kd.N_lt Ho.out k e.symm; omega
            case aO => exact Hb.out
            case aB => exact HW.out
            case aS => exact HW.out.size
            case aL => have := hbl.out; omega
            intro v1 w12 ho hb hg hat
            have Hb1 := Lib.hid ho
            have Ho1 := Lib.hid (Kd.N_after (ok := fun _ => True) (u1 := v1) (Kd.N_mono Ho.out (fun k hk => ⟨trivial, hk⟩)) hg hat)
            have HW1 := Lib.hid hb
            clear ho hb hg hat Hb Ho HW
            refine hK.out _ _ ⟨(pw_cell_below HW1.out hxr.out), (pw_cell_below HW1.out hxs.out)⟩ (fun hHeld => ?_)
            clear hK K
            refine norm_ (a' := ?_) ?_ ?_
            rotate_left
            · show Act.put _ (some 60) _ = _
              simp only [Act.put, List.setIfInBounds_toArray, List.set_cons_zero, List.set_cons_succ, i64_w, i32_w]
              rfl
            refine last_ (i := 12) (N := some 66) #[true, true, true, true, true, true, true, true, true, true, true, true, true, false, false, false, false] rfl rfl (by kernel_rfl) (by decide) (fun K hK => ?_)
            refine goes_ Try.func75 (by kernel_rfl) rfl #[.slice Bs (T.rd_L1 sh x).length ds] (by rfl) rfl rfl (by (try simp only [List.map_toArray, List.map_cons, List.map_nil]); first | done | rfl) ?_
            with_reducible refine (slices_Clone.calls Bs ds (T.rd_L1 sh x) (T.rd_L1 sh x) _ (Kd.C_below hCs.out HW1.out) hls.out hcl.out).mono ?_
            rintro e w13 ⟨vc, rfl, hR, hb⟩
            refine ⟨_, rfl, ?_⟩
            obtain ⟨Ac, cc, rfl⟩ := Kd.R_slice hR
            have Hb2 := Lib.hid (Kd.N_below Hb1.out hb)
            have Ho2 := Lib.hid (Kd.N_below Ho1.out hb)
            have HW2 := Lib.hid (HW1.out.trans (hb.mono HW1.out.size))
            have HR2 := Lib.hid hR
            have l1 := Lib.hid (Kd.N_lt Hb1.out)
            have l2 := Lib.hid (Kd.N_lt Ho1.out)
            have l3 := Lib.hid (Kd.N_lt Hb2.out)
            clear hR hb
            refine hK.out _ _ ?_
            clear hK K
            refine norm_ (a' := ?_) ?_ ?_
            rotate_left
            · show Act.put _ (some 66) _ = _
              simp only [Act.put, List.setIfInBounds_toArray, List.set_cons_zero, List.set_cons_succ, i64_w, i32_w]
              rfl
            refine last_ (i := 13) (N := some 67) #[true, true, true, true, true, true, true, true, true, true, true, true, true, true, false, false, false] rfl rfl (by kernel_rfl) (by decide) (fun K hK => ?_)
            refine value_ (w1 := ?_) (v := ?_) (by rfl) rfl ?_ ?_
            rotate_left 2
            · go_simp
              constructor
              · rfl
              · rfl
            refine hK.out _ _ ?_
            clear hK K
            refine norm_ (a' := ?_) ?_ ?_
            rotate_left
            · show Act.put _ (some 67) _ = _
              simp only [Act.put, List.setIfInBounds_toArray, List.set_cons_zero, List.set_cons_succ, i64_w, i32_w]
              rfl
            refine last_ (i := 14) (N := some 68) #[true, true, true, true, true, true, true, true, true, true, true, true, true, true, true, false, false] rfl rfl (by kernel_rfl) (by decide) (fun K hK => ?_)
            refine Kd.N_append_step (Kd.slice 5 (Kd.int .u8)) (w0 := W1) W1.heap.size (by rfl) (.tmp 61) (.tmp 67) 42 43 (.slice none 0 0) 24 rfl Try.underlying42 info43 rfl (by decide) (by omega) vo ((goods.take t).map (T.rd_L1 sh)) (T.rd_L1 sh x) [.slice Ac (T.rd_L1 sh x).length cc] (fun k => some k ≠ (v1 : Value).ownBlock) (fun k => w12.heap.size ≤ k ∧ k < w13.heap.size) rfl rfl ?aP ?aI ?aF ?aO ?aB ?aS ?aL ?_
            case aP => exact Kd.FK_of_M (d := (Kd.slice 5 (Kd.int .u8))) (base := w12.heap.size) ⟨_, rfl, Kd.R_mono (Kd.R_bound HR2.out) (fun k hk => ⟨hk.2.1, hk.2.2.1⟩)⟩
            case aI => exact fun k hk => ⟨fun e => by have := l1.out k e.symm; omega, fun e => by have := l2.out k e.symm; omega⟩
            case aF => exact fun k hk e => by have := l3.out k e.symm; omega
            case aO => exact Kd.N_mono Ho2.out (fun k hk => hk.2)
            case aB => exact HW2.out
            case aS => exact HW2.out.size
            case aL => have := hol.out; omega
            intro v2 w14 ho hb hg hat
            have Ho3 := Lib.hid ho
            have Hb3 := Lib.hid (Kd.N_after (ok := fun _ => True) (u1 := v2) (Kd.N_mono Hb2.out (fun k hk => ⟨trivial, hk⟩)) hg hat)
            have HW3 := Lib.hid hb
            clear ho hb hg hat
            refine hK.out _ _ ?_
            clear hK K
            refine norm_ (a' := ?_) ?_ ?_
            rotate_left
            · show Act.put _ (some 68) _ = _
              simp only [Act.put, List.setIfInBounds_toArray, List.set_cons_zero, List.set_cons_succ, i64_w, i32_w]
              rfl
            refine pure_ (i := 15) (N := some 10) (v := ?_) (a' := ?_) #[true, true, true, true, true, true, true, true, true, true, true, true, true, true, true, true, false] rfl rfl (by kernel_rfl) (fun _ _ _ h => h) (Or.inl ⟨by rfl, ?_⟩) ?_ ?_
            rotate_left
            · intro w'
              go_simp
              with_reducible rfl
            rotate_left
            · simp only [Act.put, List.setIfInBounds_toArray, List.set_cons_zero, List.set_cons_succ, i64_w, i32_w]
              rfl
            refine pure_ (i := 16) (N := some 11) (v := ?_) (a' := ?_) #[true, true, true, true, true, true, true, true, true, true, true, true, true, true, true, true, true] rfl rfl (by kernel_rfl) (fun _ _ _ h => h) (Or.inl ⟨by rfl, ?_⟩) ?_ ?_
            rotate_left
            · intro w'
              go_simp
              with_reducible rfl
            rotate_left
            · simp only [Act.put, List.setIfInBounds_toArray, List.set_cons_zero, List.set_cons_succ, i64_w, i32_w]
              rfl
            refine done_ (by kernel_rfl) ?_
            go_wp2
            go_roundw
            case rel =>
              refine ⟨t + 1, v1, v2, hil.out, rfl, rfl, (by have h1_ := H1000.out; have h2_ := hil.out; have h3_ := HGL.out; rw [w64 (by omega) (by omega)]; rfl), ?_, ?_, HW3⟩
              · show Kd.N _ _ _ _ _ _ _
                rw [take_more hil.out, List.map_append, ← HX.out]
                exact Kd.N_mono Hb3.out (fun _ hk => hk.2)
              · show Kd.N _ _ _ _ _ _ _
                rw [take_more hil.out, List.map_append, ← HX.out]
                exact Ho3.out
            case measure => exact meas_step (by have h1_ := H1000.out; have h3_ := HGL.out; omega) hil.out
          · have et : t = goods.length := by have := ht.out; omega
            subst et
            rw [List.take_length] at Hb Ho
            obtain ⟨Ab, cb, rfl⟩ := Kd.N_slice Hb.out
            obtain ⟨Ao, co, rfl⟩ := Kd.N_slice Ho.out
            have hI := mat_Inv.calls Ab cb _ i1 i2 wr (Kd.N_reads' Hb.out).2.2 (Kd.N_reads' Hb.out).2.1 HI.out
            rw [List.length_map] at hI
            have HI2 := Lib.hid hI
            have HBw := Lib.hid (HB3.out.trans (HW.out.mono HB3.out.size))
            have HOr := Lib.hid (Kd.N_reads' Ho.out)
            clear hI HI HW HB3 HC0c HC1c HCg HGM
            go_wp2_with fail
            refine HI2.out.mono ?_
            rintro e w5 ⟨vi, rfl, hS5, hb5⟩
            clear HI2
            obtain ⟨Ai, ci, rfl⟩ := Kd.S_slice hS5
            have h := H2.out
            by_cases ei : i2 = 0
            · rw [if_pos ei] at h
              subst ei
              obtain ⟨⟨d1, d2⟩, hmul, h⟩ := Option.bind_eq_some_iff.1 h
              obtain ⟨⟨e1, e2⟩, henc, h⟩ := Option.bind_eq_some_iff.1 h
              (try dsimp only at h); (try dsimp only at henc)
              by_cases hlen : d1.length + e1.length < 5864062014805
              case neg => rw [if_neg hlen] at h; cases h
              rw [if_pos hlen] at h
              injection h with h
              injection h with h1 h2
              subst h1; subst h2
              have hM := mat_Mul.calls Ai ci i1 Ao co _ d1 d2 w5 (Kd.S_reads' hS5).2.2 (Kd.S_reads' hS5).2.1 (Kd.C_below HOr.out.2.2 hb5) HOr.out.2.1 hmul
              rw [List.length_map] at hM
              have HM2 := Lib.hid hM
              have HEN := Lib.hid henc
              have HLN := Lib.hid hlen
              have HB5 := Lib.hid (HBw.out.trans (hb5.mono HBw.out.size))
              clear hM henc hlen hmul H2 hS5 hb5 HOr HBw Hb Ho
              go_wp2_with fail
              refine HM2.out.mono ?_
              rintro e w6 ⟨vd, rfl, hS6, hb6⟩
              clear HM2
              obtain ⟨Ad, cd, rfl⟩ := Kd.S_slice hS6
              have HE2 := Lib.hid (T.rs_Encode.calls q Ad cd d1 _ e1 e2 w6 (Kd.S_reads' hS6).2.2 (Kd.S_reads' hS6).2.1 HEN.out)
              have HB6 := Lib.hid (HB5.out.trans (hb6.mono HB5.out.size))
              have HS6 := Lib.hid (Kd.S_lower hS6 HB5.out.size)
              clear HEN hS6 hb6 HB5
              go_wp2_with fail
              refine HE2.out.mono ?_
              rintro e w7 ⟨ve, rfl, hS7, hb7⟩
              clear HE2
              obtain ⟨Ae, ce, rfl⟩ := Kd.S_slice hS7
              have HB7 := Lib.hid (HB6.out.trans (hb7.mono HB6.out.size))
              have HSd := Lib.hid (Kd.S_mono (ok' := fun k => True ∧ ¬ w6.heap.size ≤ k) (Kd.S_old HS6.out hb7) (fun k hk => ⟨trivial, by omega⟩))
              have HSe := Lib.hid (Kd.S_lower (Kd.S_mono (ok' := fun k => w6.heap.size ≤ k) (Kd.S_bound hS7) (fun k hk => hk.2.1)) HB6.out.size)
              clear hS7 hb7 HS6 HB6
              go_wp2_with (at_builtin; refine T.S_append_rows (Kd.slice 5 (Kd.int .u8)) (w0 := w) w.heap.size rfl (.tmp 93) (.tmp 94) 42 43 (.slice none 0 0) 24 rfl Try.underlying42 T.info43 rfl (by decide) (by omega) (.slice Ad d1.length cd) d1 e1 Ae ce (fun _ => True) (fun k => w6.heap.size ≤ k) rfl rfl ?aO ?aR ?aP (fun _ _ => trivial) ?aB ?aS ?aL ?_)
              case aO => exact HSd.out
              case aR => exact HSe.out
              case aP => exact fun k hk => ⟨trivial, fun e => by have := (Kd.S_R HSd.out).1 k e.symm; omega⟩
              case aB => exact HB7.out
              case aS => exact HB7.out.size
              case aL => have := HLN.out; omega
              intro v1 w8 ho hb hg hat
              have HO8 := Lib.hid ho
              have HB8 := Lib.hid hb
              clear ho hb hg hat
              go_wp2_with fail
              go_ret2
              exact ⟨_, rfl, HO8.out, HB8.out⟩
            · rw [if_neg ei] at h
              injection h with h
              injection h with h1 h2
              subst h1; subst h2
              have HB5 := Lib.hid (HBw.out.trans (hb5.mono HBw.out.size))
              clear H2 hS5 hb5 HOr HBw Hb Ho
              have ei' : (i2 == 0) = false := beq_eq_false_iff_ne.2 ei
              have ei2 : (i2 != 0) = true := bne_iff_ne.2 ei
              go_wp2_with fail
              go_ret2
              exact ⟨_, rfl, Kd.S_nil _ _ _ _ _, HB5.out⟩
  · rw [if_neg e0] at h
    injection h with h
    injection h with h1 h2
    subst h1; subst h2
    have ei' : (b2 == 0) = false := beq_eq_false_iff_ne.2 e0
    have ei2 : (b2 != 0) = true := bne_iff_ne.2 e0
    clear H HC0a HC1a
    go_wp2_with fail
    go_ret2
    exact ⟨_, rfl, Kd.S_nil _ _ _ _ _, HB1.out.alloc HB1.out.size _⟩
def rs_Decode.f (sh : List (List Int)) (k : Int) : Option (List (List Int) × Int) := rs_Decode.g 2000 sh k
theorem rs_Decode.calls (A0 : Option Addr) (c0 : Nat) (sh : List (List Int)) (k : Int) (r1 : List (List Int)) (r2 : Int) (w : World) (hr0 : Kd.C (Kd.slice 5 (Kd.int .u8)) w A0 sh.length sh) (hc0 : sh.length ≤ c0) (h : rs_Decode.f sh k = some (r1, r2)) :
    Calls Try.prog 55 #[.slice A0 sh.length c0, .int .i64 k] w fun e w' => ∃ v0_ : Value, e = .returned (.tuple #[v0_, .int .i64 r2]) ∧ Kd.S (Kd.slice 5 (Kd.int .u8)) 43 w' w.heap.size (fun _ => True) v0_ r1 ∧ Below w.heap.size w w' :=
  rs_Decode.callsg 2000 A0 c0 sh k r1 r2 w hr0 hc0 h
end Go.Proofs.Ythblmkailhdhlaa.Given
