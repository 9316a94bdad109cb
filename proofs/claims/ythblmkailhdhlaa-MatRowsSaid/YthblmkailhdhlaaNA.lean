/- law02.awake; what is read of a matrix that was made. -/
import Derived.Test.YthblmkailhdhlaaA2
import Derived.Lib.Hide
namespace Go.Proofs.Ythblmkailhdhlaa.Mat
set_option linter.unusedVariables false
open Go.RowKit Go.Proofs.Ythblmkailhdhlaa.F Go.Proofs.Ythblmkailhdhlaa.Gf Go.Proofs.Ythblmkailhdhlaa.P Go.Proofs.YthblmkailhdhlaaW.PrintWords

theorem MatIs.reads {w : World} {B ob : Nat} {bs : List Nat} {M : List (List Nat)} (h : MatIs w B ob bs M) : ReadsM w (some ⟨ob, 0, none⟩) M := by
  obtain ⟨A, c, e, hl, hr⟩ := Kd.R_reads (Kd.S_R h.kdS)
  injection e with e1 e2 e3
  subst e1
  unfold ReadsM
  rw [mints_len] at hr
  exact hr

theorem MatIs.carry {w w' : World} {B ob : Nat} {bs : List Nat} {M : List (List Nat)} (h : MatIs w B ob bs M) (hb : Below w.heap.size w w') : MatIs w' B ob bs M :=
  ⟨h.len, below_blk h.outer hb (blk_lt h.outer), fun i b l h1 h2 => below_blk (h.rows i b l h1 h2) hb (blk_lt (h.rows i b l h1 h2)), h.nodup, h.low, h.lows, h.small, h.smalls⟩

theorem sz_alloc (w : World) (o : Obj) : (w.alloc o).heap.size = w.heap.size + 1 := Array.size_push ..
theorem two_ones (w : World) : MatIs (((w.alloc (.cells #[.int .u8 1, .int .u8 1] 5)).alloc (.cells #[.int .u8 1, .int .u8 1] 5)).alloc (.cells #[.slice (some ⟨w.heap.size, 0, none⟩) 2 2, .slice (some ⟨w.heap.size + 1, 0, none⟩) 2 2] 43)) w.heap.size (w.heap.size + 1 + 1) [w.heap.size, w.heap.size + 1] [[1, 1], [1, 1]] := by
  refine ⟨rfl, ?_, ?_, by simp, by omega, ?_, by decide, by decide⟩
  · show (Array.push _ _)[_]? = _
    rw [Array.getElem?_push, if_pos (by simp only [sz_alloc])]; rfl
  · intro i b l hb hl
    have hr : ∀ o : Obj, ((w.heap.push o).push o)[w.heap.size]? = some o := fun o => by rw [Array.getElem?_push, if_neg (by simp), Array.getElem?_push, if_pos rfl]
    have hr2 : ∀ o : Obj, ((w.heap.push o).push o)[w.heap.size + 1]? = some o := fun o => by rw [Array.getElem?_push, if_pos (by simp)]
    match i, hb, hl with
    | 0, hb, hl =>
      injection hb with hb; injection hl with hl; subst hb; subst hl
      show (Array.push _ _)[_]? = _
      rw [Array.getElem?_push, if_neg (by simp only [sz_alloc]; omega)]
      exact hr _
    | 1, hb, hl =>
      injection hb with hb; injection hl with hl; subst hb; subst hl
      show (Array.push _ _)[_]? = _
      rw [Array.getElem?_push, if_neg (by simp only [sz_alloc]; omega)]
      exact hr2 _
    | i + 2, hb, hl => simp at hb
  · intro b hb
    rcases List.mem_cons.1 hb with rfl | hb
    · omega
    · rcases List.mem_cons.1 hb with rfl | hb
      · omega
      · cases hb
theorem ones_none : gauss 2 0 ([[1, 1], [1, 1]], grid 2 2 oneAt) = none := by decide +kernel
theorem cau12 : grid 1 2 (cauAt 2) = [[142, 244]] := by decide +kernel

set_option maxRecDepth 100000 in
set_option maxHeartbeats 4000000 in
theorem awake2 (w : World) : Calls Try.prog 36 #[] w fun e w' => e = .returned (.bool true) ∧ Below w.heap.size w w' := by
  have hinv : ∀ w1 : World, Below w.heap.size w w1 → Calls Try.prog 45 #[.slice (some ⟨w1.heap.size + 1 + 1, 0, none⟩) 2 2] (((w1.alloc (.cells #[.int .u8 1, .int .u8 1] 5)).alloc (.cells #[.int .u8 1, .int .u8 1] 5)).alloc (.cells #[.slice (some ⟨w1.heap.size, 0, none⟩) 2 2, .slice (some ⟨w1.heap.size + 1, 0, none⟩) 2 2] 43)) fun e w' => e = .returned (.tuple #[.slice none 0 0, .int .i64 5]) ∧ Below w1.heap.size w1 w' := by
    intro w1 hb
    refine (inv_good _ (some ⟨w1.heap.size + 1 + 1, 0, none⟩) 2 2 [[1, 1], [1, 1]] (two_ones w1).reads (by decide) (by unfold mayN; decide) (by unfold Square; decide) (by decide) (by decide)).mono fun e w' hp => ?_
    unfold InvPost at hp
    rw [ones_none] at hp
    refine ⟨hp.2, ?_⟩
    refine Below.trans ?_ (hp.1.mono ?_)
    · exact (((Below.refl w1.heap.size w1).alloc (Nat.le_refl _) _).alloc (by simp only [sz_alloc]; omega) _).alloc (by simp only [sz_alloc]; omega) _
    · simp only [sz_alloc]; omega
  have HI := Lib.hid hinv
  clear hinv
  go_enter Try.func36, Try.ntmps36
  go_wp2_with fail
  refine (cauchy_good 1 2 (by omega) _).mono ?_
  rintro e w1 ⟨B, bs, rfl, hM, hb⟩
  have hM := Lib.hid hM
  have hb := Lib.hid hb
  go_wp2_with fail
  refine (HI.out w1 hb.out).mono ?_
  rintro e w2 ⟨rfl, hb2⟩
  have hM2 := (hM.out.carry hb2)
  rw [cau12] at hM2
  obtain ⟨b, h1, h2, h3, h4⟩ := hM2.block (i := 0) rfl
  have c0 : w2.cell? ⟨B, 0, none⟩ = some (.slice (some ⟨b, 0, none⟩) 2 2) := hM2.cell h1 rfl
  have d0 : w2.cell? ⟨b, 0, none⟩ = some (.int .u8 142) := RowIs.cell h4 (i := 0) rfl
  have d1 : w2.cell? ⟨b, 1, none⟩ = some (.int .u8 244) := RowIs.cell h4 (i := 1) rfl
  have hma := may_calls w2 (some ⟨B, 0, none⟩) 1 [[142, 244]] hM2.reads (by decide)
  have hmb : decide (mayP (mints [[142, 244]])) = true := by decide
  rw [hmb] at hma
  have hB := hb.out.trans (hb2.mono hb.out.size)
  have HM := Lib.hid hma
  have HB := Lib.hid hB
  clear hma hmb hB hM2 h1 h2 h3 h4 hb2
  go_wp2_with fail
  refine HM.out.mono ?_
  rintro e w3 ⟨rfl, n, rfl⟩
  go_wp2_with fail
  go_ret
  exact ⟨rfl, below_drewN' n HB.out⟩
end Go.Proofs.Ythblmkailhdhlaa.Mat
namespace Go.Proofs.Ythblmkailhdhlaa.Given
open Go.RowKit Go.Proofs.Ythblmkailhdhlaa.Mat
def quartermasterlaw02_awake.f : Option Bool := some true
theorem quartermasterlaw02_awake.calls (r : Bool) (w : World) (h : quartermasterlaw02_awake.f = some r) :
    Calls Try.prog 36 #[] w fun e w' => e = .returned (.bool r) ∧ Below w.heap.size w w' := by
  injection h with h; subst h
  exact awake2 w
end Go.Proofs.Ythblmkailhdhlaa.Given
