/- The laws of chapter 1 (gf), walked. -/
import Derived.Test.YthblmkailhdhlaaGfD
namespace Go.Proofs.Ythblmkailhdhlaa.Gf
set_option linter.unusedVariables false
open Go.RowKit Go.Proofs.Ythblmkailhdhlaa.F

set_option maxRecDepth 100000 in
set_option maxHeartbeats 4000000 in
theorem GfParts_walk (a0 : Int) (a1 : Int) (w0 : (Lit.int .u8 a0).wf = true) (w1 : (Lit.int .u8 a1).wf = true) (w : World) :
    Calls Try.prog 3 #[.int .u8 a0, .int .u8 a1] w fun e w' => e = .returned (.bool true) ∧ Below w.heap.size w w' := by
  obtain ⟨a, rfl, ha⟩ := bytes w0
  obtain ⟨b, rfl, hb⟩ := bytes w1
  clear w0 w1
  go_enter Try.func3, Try.ntmps3
  go_wp2_with fail
  refine (awake_calls _).mono ?_
  rintro e w1 ⟨rfl, hb1⟩
  have HB1 := Lib.hid hb1
  clear hb1
  go_wp2_with fail
  refine (new_calls _).mono ?_
  rintro e w2 ⟨rfl, ht, hb2⟩
  have HT := Lib.hid ht
  have HB2 := Lib.hid (HB1.out.trans (hb2.mono HB1.out.size))
  clear ht hb2
  go_wp2_with fail
  refine (div_n _ w1.heap.size (by exact HT.out) a b ha hb).mono ?_
  rintro e w3 ⟨rfl, n_, rfl⟩
  go_wp2_with fail
  refine (refdiv_n _ a b ha hb).mono ?_
  rintro e w3 ⟨rfl, n_, rfl⟩
  go_wp2_with fail
  refine (inv_n _ w1.heap.size (by exact HT.out) b hb).mono ?_
  rintro e w3 ⟨rfl, n_, rfl⟩
  go_wp2_with fail
  refine (refdiv_n _ 1 b (by omega) hb).mono ?_
  rintro e w3 ⟨rfl, n_, rfl⟩
  go_wp2_with fail
  go_ret
  exact ⟨rfl, by repeat (first | exact HB2.out | apply below_drewN')⟩
set_option maxRecDepth 100000 in
set_option maxHeartbeats 4000000 in
theorem GfPowers_walk (a0 : Int) (a1 : Int) (w0 : (Lit.int .i64 a0).wf = true) (w1 : (Lit.int .u8 a1).wf = true) (w : World) :
    Calls Try.prog 4 #[.int .i64 a0, .int .u8 a1] w fun e w' => e = .returned (.bool true) ∧ Below w.heap.size w w' := by
  have nb := ints w0
  obtain ⟨b, rfl, hb⟩ := bytes w1
  clear w0 w1
  go_enter Try.func4, Try.ntmps4
  go_wp2_with fail
  refine (awake_calls _).mono ?_
  rintro e w1 ⟨rfl, hb1⟩
  have HB1 := Lib.hid hb1
  clear hb1
  go_wp2_with fail
  refine (new_calls _).mono ?_
  rintro e w2 ⟨rfl, ht, hb2⟩
  have HT := Lib.hid ht
  have HB2 := Lib.hid (HB1.out.trans (hb2.mono HB1.out.size))
  clear ht hb2
  go_wp2_with fail
  refine (log_n _ w1.heap.size (by exact HT.out) b hb).mono ?_
  rintro e w3 ⟨rfl, n_, rfl⟩
  go_wp2_with fail
  refine (reflog_n _ b hb).mono ?_
  rintro e w3 ⟨rfl, n_, rfl⟩
  go_wp2_with fail
  refine (exp_tab _ w1.heap.size (by exact HT.out) a0).mono ?_
  rintro e w3 ⟨rfl, n_, rfl⟩
  go_wp2_with fail
  refine (refexp_n _ a0).mono ?_
  rintro e w3 ⟨rfl, n_, rfl⟩
  go_wp2_with fail
  go_ret
  exact ⟨rfl, by repeat (first | exact HB2.out | apply below_drewN')⟩
end Go.Proofs.Ythblmkailhdhlaa.Gf
