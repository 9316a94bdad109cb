/- RsEncodes. -/
import Derived.Test.YthblmkailhdhlaaA5
import Derived.Test.YthblmkailhdhlaaOpen
import Derived.Test.YthblmkailhdhlaaU3
namespace Go.Proofs.Ythblmkailhdhlaa.Mat
set_option linter.unusedVariables false
open Go.RowKit Go.Proofs.Ythblmkailhdhlaa.F Go.Proofs.Ythblmkailhdhlaa.R Go.Proofs.Ythblmkailhdhlaa.G Go.Proofs.Ythblmkailhdhlaa.P Go.Proofs.Ythblmkailhdhlaa.Given Go.Proofs.Ythblmkailhdhlaa.Gf Go.Proofs.YthblmkailhdhlaaW.PrintWords

theorem wf_i64 {n : Int} (h : (Lit.int .i64 n).wf = true) : -9223372036854775808 ≤ n ∧ n ≤ 9223372036854775807 := by
  simp [Lit.wf] at h
  have h1 : IntKind.i64.min = -9223372036854775808 := by decide
  have h2 : IntKind.i64.max = 9223372036854775807 := by decide
  omega
theorem light_head {l : List (List Int)} (h : lightP l) : (l.getD 0 []).length ≤ 40 := by
  by_cases z : 0 < l.length
  · rw [getD_at z]; exact h.2 _ (List.getElem_mem z)
  · rw [getD_none z]; simp
theorem int_may {l : List (List Int)} (h : mayP l) (hk : okM l) : ∃ D : List (List Nat), l = mints D ∧ Rect l.length (l.getD 0 []).length D := ⟨mnats l, (mints_mnats hk).symm, mayP_rect h hk⟩
theorem renc_any {d : List (List Int)} (hd : okM d) (hl : lightP d) (m : Int) {q : Nat} (hq : 300000 ≤ q) : ∃ x e, T.rs_Encode.f q d m = some (x, e) ∧ quartermasterref02_Same.f q x x = some true := by
  by_cases g : mayP d ∧ 0 ≤ m ∧ (d.length : Int) + m ≤ 64
  · obtain ⟨m', rfl⟩ := Int.eq_ofNat_of_zero_le g.2.1
    obtain ⟨D, e, hD⟩ := int_may g.1 hd
    have h40 := light_head hl
    have hg := g.1
    refine ⟨mints (shares m' D), 0, ?_, same_true (shares_rect hD hg.1) (by omega) (by omega) hq⟩
    conv => lhs; rw [e]
    exact renc_good hD hg.1 ⟨hg.2.2.1, by omega⟩ (by omega) (by omega)
  · exact ⟨[], 1, renc_bad g (by omega), same_self _ 0 (by simp) (by omega) (by simp) hq⟩
theorem rrows_any (k m : Int) {q : Nat} (hq : 300000 ≤ q) : ∃ x e, T.rs_Rows.f q k m = some (x, e) ∧ quartermasterref02_Same.f q x x = some true := by
  obtain ⟨q, rfl⟩ : ∃ p, q = p + 1 := ⟨q - 1, by omega⟩
  by_cases g : 1 ≤ k ∧ 0 ≤ m ∧ k + m ≤ 64
  · obtain ⟨k', rfl⟩ := Int.eq_ofNat_of_zero_le (show 0 ≤ k by omega)
    obtain ⟨m', rfl⟩ := Int.eq_ofNat_of_zero_le g.2.1
    exact ⟨_, _, rrows_good (by omega) (by omega) q, same_true (allAt_rect _ _) (by omega) (by omega) hq⟩
  · exact ⟨[], 1, rrows_bad g q, same_self _ 0 (by simp) (by omega) (by simp) hq⟩
theorem encodes_f (l0 : List (List Int)) (h0 : okM l0) (a1 a2 : Int) (b1 : -9223372036854775808 ≤ a1 ∧ a1 ≤ 9223372036854775807) (b2 : -9223372036854775808 ≤ a2 ∧ a2 ≤ 9223372036854775807) : U.quartermasterlaw03_RsEncodes.f 500000 l0 a1 a2 = some true := by
  unfold U.quartermasterlaw03_RsEncodes.f
  rw [awake3_f (by omega), Option.bind_some, light_f l0 (by omega), Option.bind_some, if_pos rfl, show (500000 : Nat) = 499999 + 1 from rfl, U.quartermasterlaw03_RsEncodes.j0]
  by_cases hl : lightP l0
  · obtain ⟨x, e, e1, s1⟩ := renc_any (q := 499999) h0 hl a1 (by omega)
    obtain ⟨y, f, e2, s2⟩ := rrows_any (q := 499999) a2 a1 (by omega)
    rw [decide_eq_true hl, if_neg (by decide), rref_enc h0 (by have := hl.1; omega) (light_head hl) b1 (by omega), rref_rows b2 b1 (by omega), e1, e2, Option.bind_some, Option.bind_some, Option.bind_some, Option.bind_some, s1, s2, Option.bind_some, Option.bind_some, if_pos rfl, if_pos rfl, if_pos rfl]
    simp
  · rw [decide_eq_false hl]; rfl
theorem encodes_walk (W : World) (A0 : Option Addr) (len0 c0 : Nat) (l0 : List (List Int)) (y0 : MatArg W A0 len0 c0 l0) (a1 : Int) (w1 : (Lit.int .i64 a1).wf = true) (a2 : Int) (w2 : (Lit.int .i64 a2).wf = true) :
    Calls Try.prog 16 #[.slice A0 len0 c0, .int .i64 a1, .int .i64 a2] W fun e w' => e = .returned (.bool true) ∧ Below W.heap.size W w' := by
  have := U.quartermasterlaw03_RsEncodes.calls 500000 A0 c0 l0 a1 a2 true W y0.reads y0.room (encodes_f l0 y0.ok a1 a2 (wf_i64 w1) (wf_i64 w2))
  rw [y0.long] at this
  exact this
end Go.Proofs.Ythblmkailhdhlaa.Mat
