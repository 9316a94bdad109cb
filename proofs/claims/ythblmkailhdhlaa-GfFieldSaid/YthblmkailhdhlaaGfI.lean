/- The law GfField of chapter 1 (gf), walked. -/
import Derived.Test.YthblmkailhdhlaaGfD
namespace Go.Proofs.Ythblmkailhdhlaa.Gf
set_option linter.unusedVariables false
open Go.RowKit Go.Proofs.Ythblmkailhdhlaa.F

set_option maxRecDepth 100000 in
set_option maxHeartbeats 8000000 in
theorem GfField_walk (a0 a1 a2 : Int) (w0 : (Lit.int .u8 a0).wf = true) (w1 : (Lit.int .u8 a1).wf = true) (w2 : (Lit.int .u8 a2).wf = true) (w : World) :
    Calls Try.prog 9 #[.int .u8 a0, .int .u8 a1, .int .u8 a2] w fun e w' => e = .returned (.bool true) ∧ Below w.heap.size w w' := by
  obtain ⟨a, rfl, ha⟩ := bytes w0
  obtain ⟨b, rfl, hb⟩ := bytes w1
  obtain ⟨c, rfl, hc⟩ := bytes w2
  clear w0 w1 w2
  obtain ⟨s, hs⟩ : ∃ s : Nat, s = a ^^^ b := ⟨_, rfl⟩
  have ls : s < 256 := hs ▸ xor_lt ha hb
  obtain ⟨t, ht⟩ : ∃ t : Nat, t = b ^^^ c := ⟨_, rfl⟩
  have lt : t < 256 := ht ▸ xor_lt hb hc
  obtain ⟨u, hu⟩ : ∃ u : Nat, u = (a ^^^ b) ^^^ c := ⟨_, rfl⟩
  have lu : u < 256 := hu ▸ xor_lt (xor_lt ha hb) hc
  obtain ⟨p, hp⟩ : ∃ p : Nat, p = gm a b := ⟨_, rfl⟩
  have lp : p < 256 := hp ▸ gm_lt _ _
  obtain ⟨q, hq⟩ : ∃ q : Nat, q = gm b c := ⟨_, rfl⟩
  have lq : q < 256 := hq ▸ gm_lt _ _
  obtain ⟨r, hr⟩ : ∃ r : Nat, r = gm (gm a b) c := ⟨_, rfl⟩
  have lr : r < 256 := hr ▸ gm_lt _ _
  obtain ⟨v, hv⟩ : ∃ v : Nat, v = gm a (b ^^^ c) := ⟨_, rfl⟩
  have lv : v < 256 := hv ▸ gm_lt _ _
  obtain ⟨x, hx⟩ : ∃ x : Nat, x = gm a c := ⟨_, rfl⟩
  have lx : x < 256 := hx ▸ gm_lt _ _
  have H0 : Hid (Value.int .u8 ((a ^^^ b : Nat) : Int) = .int .u8 (s : Int)) := by
    show _ = _
    rw [hs]
  have H1 : Hid (Value.int .u8 ((b ^^^ a : Nat) : Int) = .int .u8 (s : Int)) := by
    show _ = _
    rw [hs, Nat.xor_comm]
  have H2 : Hid (Value.int .u8 ((a ^^^ b : Nat) : Int) = .int .u8 (s : Int)) := by
    show _ = _
    rw [hs]
  have H3 : Hid (Value.int .u8 ((s ^^^ c : Nat) : Int) = .int .u8 (u : Int)) := by
    show _ = _
    rw [hs, hu]
  have H4 : Hid (Value.int .u8 ((b ^^^ c : Nat) : Int) = .int .u8 (t : Int)) := by
    show _ = _
    rw [ht]
  have H5 : Hid (Value.int .u8 ((a ^^^ t : Nat) : Int) = .int .u8 (u : Int)) := by
    show _ = _
    rw [ht, hu, Nat.xor_assoc]
  have H6 : Hid (Value.int .u8 ((a ^^^ 0 : Nat) : Int) = .int .u8 (a : Int)) := by
    show _ = _
    simp
  have H7 : Hid (Value.int .u8 ((a ^^^ a : Nat) : Int) = .int .u8 0) := by
    show _ = _
    rw [Nat.xor_self]; rfl
  have H8 : Hid (Value.int .u8 ((gm a b : Nat) : Int) = .int .u8 (p : Int)) := by
    show _ = _
    rw [hp]
  have H9 : Hid (Value.int .u8 ((gm b a : Nat) : Int) = .int .u8 (p : Int)) := by
    show _ = _
    rw [hp, gm_comm]
  have H10 : Hid (Value.int .u8 ((gm a b : Nat) : Int) = .int .u8 (p : Int)) := by
    show _ = _
    rw [hp]
  have H11 : Hid (Value.int .u8 ((gm p c : Nat) : Int) = .int .u8 (r : Int)) := by
    show _ = _
    rw [hp, hr]
  have H12 : Hid (Value.int .u8 ((gm b c : Nat) : Int) = .int .u8 (q : Int)) := by
    show _ = _
    rw [hq]
  have H13 : Hid (Value.int .u8 ((gm a q : Nat) : Int) = .int .u8 (r : Int)) := by
    show _ = _
    rw [hq, hr, gm_assoc]
  have H14 : Hid (Value.int .u8 ((gm a 1 : Nat) : Int) = .int .u8 (a : Int)) := by
    show _ = _
    rw [gm_one ha]
  have H15 : Hid (Value.int .u8 ((gm a 0 : Nat) : Int) = .int .u8 0) := by
    show _ = _
    rw [gm_zero]; rfl
  have H16 : Hid (Value.int .u8 ((b ^^^ c : Nat) : Int) = .int .u8 (t : Int)) := by
    show _ = _
    rw [ht]
  have H17 : Hid (Value.int .u8 ((gm a t : Nat) : Int) = .int .u8 (v : Int)) := by
    show _ = _
    rw [ht, hv]
  have H18 : Hid (Value.int .u8 ((gm a b : Nat) : Int) = .int .u8 (p : Int)) := by
    show _ = _
    rw [hp]
  have H19 : Hid (Value.int .u8 ((gm a c : Nat) : Int) = .int .u8 (x : Int)) := by
    show _ = _
    rw [hx]
  have H20 : Hid (Value.int .u8 ((p ^^^ x : Nat) : Int) = .int .u8 (v : Int)) := by
    show _ = _
    rw [hp, hx, hv, gm_xor ha hb hc]
  clear hs ht hu hp hq hr hv hx
  go_enter Try.func9, Try.ntmps9
  go_wp2_with fail
  refine (awake_calls _).mono ?_
  rintro e w1 ⟨rfl, hb1⟩
  have HB1 := Lib.hid hb1
  clear hb1
  go_wp2_with fail
  refine (new_calls _).mono ?_
  rintro e w2 ⟨rfl, ht, hb2⟩
  have HT := Lib.hid ht
  have HB2 := Lib.hid (HB1.out.trans (hb2.mono HB1.out.size))
  clear ht hb2
  go_wp2_with fail
  refine (turned (add_n _ _ a b ha hb) H0.out).mono ?_
  rintro e w3 ⟨rfl, n_, rfl⟩
  go_wp2_with fail
  refine (turned (add_n _ _ b a hb ha) H1.out).mono ?_
  rintro e w3 ⟨rfl, n_, rfl⟩
  go_wp2_with fail
  refine (turned (add_n _ _ a b ha hb) H2.out).mono ?_
  rintro e w3 ⟨rfl, n_, rfl⟩
  go_wp2_with fail
  refine (turned (add_n _ _ s c ls hc) H3.out).mono ?_
  rintro e w3 ⟨rfl, n_, rfl⟩
  go_wp2_with fail
  refine (turned (add_n _ _ b c hb hc) H4.out).mono ?_
  rintro e w3 ⟨rfl, n_, rfl⟩
  go_wp2_with fail
  refine (turned (add_n _ _ a t ha lt) H5.out).mono ?_
  rintro e w3 ⟨rfl, n_, rfl⟩
  go_wp2_with fail
  refine (turned (add_n _ _ a 0 ha (by omega)) H6.out).mono ?_
  rintro e w3 ⟨rfl, n_, rfl⟩
  go_wp2_with fail
  refine (turned (add_n _ _ a a ha ha) H7.out).mono ?_
  rintro e w3 ⟨rfl, n_, rfl⟩
  go_wp2_with fail
  refine (turned (mul_n _ w1.heap.size (by exact HT.out) a b ha hb) H8.out).mono ?_
  rintro e w3 ⟨rfl, n_, rfl⟩
  go_wp2_with fail
  refine (turned (mul_n _ w1.heap.size (by exact HT.out) b a hb ha) H9.out).mono ?_
  rintro e w3 ⟨rfl, n_, rfl⟩
  go_wp2_with fail
  refine (turned (mul_n _ w1.heap.size (by exact HT.out) a b ha hb) H10.out).mono ?_
  rintro e w3 ⟨rfl, n_, rfl⟩
  go_wp2_with fail
  refine (turned (mul_n _ w1.heap.size (by exact HT.out) p c lp hc) H11.out).mono ?_
  rintro e w3 ⟨rfl, n_, rfl⟩
  go_wp2_with fail
  refine (turned (mul_n _ w1.heap.size (by exact HT.out) b c hb hc) H12.out).mono ?_
  rintro e w3 ⟨rfl, n_, rfl⟩
  go_wp2_with fail
  refine (turned (mul_n _ w1.heap.size (by exact HT.out) a q ha lq) H13.out).mono ?_
  rintro e w3 ⟨rfl, n_, rfl⟩
  go_wp2_with fail
  refine (turned (mul_n _ w1.heap.size (by exact HT.out) a 1 ha (by omega)) H14.out).mono ?_
  rintro e w3 ⟨rfl, n_, rfl⟩
  go_wp2_with fail
  refine (turned (mul_n _ w1.heap.size (by exact HT.out) a 0 ha (by omega)) H15.out).mono ?_
  rintro e w3 ⟨rfl, n_, rfl⟩
  go_wp2_with fail
  refine (turned (add_n _ _ b c hb hc) H16.out).mono ?_
  rintro e w3 ⟨rfl, n_, rfl⟩
  go_wp2_with fail
  refine (turned (mul_n _ w1.heap.size (by exact HT.out) a t ha lt) H17.out).mono ?_
  rintro e w3 ⟨rfl, n_, rfl⟩
  go_wp2_with fail
  refine (turned (mul_n _ w1.heap.size (by exact HT.out) a b ha hb) H18.out).mono ?_
  rintro e w3 ⟨rfl, n_, rfl⟩
  go_wp2_with fail
  refine (turned (mul_n _ w1.heap.size (by exact HT.out) a c ha hc) H19.out).mono ?_
  rintro e w3 ⟨rfl, n_, rfl⟩
  go_wp2_with fail
  refine (turned (add_n _ _ p x lp lx) H20.out).mono ?_
  rintro e w3 ⟨rfl, n_, rfl⟩
  go_wp2_with fail
  go_ret
  exact ⟨rfl, by repeat (first | exact HB2.out | apply below_drewN')⟩
end Go.Proofs.Ythblmkailhdhlaa.Gf
