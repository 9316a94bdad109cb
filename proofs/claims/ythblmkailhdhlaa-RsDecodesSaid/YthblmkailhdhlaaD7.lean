/- light. -/
import Derived.Test.YthblmkailhdhlaaD4
namespace Go.Proofs.Ythblmkailhdhlaa.Mat
set_option linter.unusedVariables false
open Go.RowKit Go.Proofs.Ythblmkailhdhlaa.F Go.Proofs.Ythblmkailhdhlaa.R Go.Proofs.Ythblmkailhdhlaa.G Go.Proofs.Ythblmkailhdhlaa.P Go.Proofs.Ythblmkailhdhlaa.Given Go.Proofs.Ythblmkailhdhlaa.Gf Go.Proofs.YthblmkailhdhlaaW.PrintWords

def lightP (l : List (List Int)) : Prop := l.length ≤ 20 ∧ ∀ r ∈ l, r.length ≤ 40
instance (l : List (List Int)) : Decidable (lightP l) := by unfold lightP; exact inferInstance
theorem light_l0 (l : List (List Int)) (h20 : l.length ≤ 20) : ∀ d i q, i + d = l.length → d < q → T.quartermasterlaw03_light.l0 q l (i : Int) = some (decide (∀ r ∈ l.drop i, r.length ≤ 40)) := by
  intro d
  induction d with
  | zero =>
    intro i q h hq
    obtain ⟨q, rfl⟩ : ∃ p, q = p + 1 := ⟨q - 1, by omega⟩
    rw [T.quartermasterlaw03_light.l0, if_neg (by omega), List.drop_eq_nil_of_le (by omega), decide_eq_true (fun r hr => by cases hr)]
  | succ d ih =>
    intro i q h hq
    obtain ⟨q, rfl⟩ : ∃ p, q = p + 1 := ⟨q - 1, by omega⟩
    rw [T.quartermasterlaw03_light.l0, if_pos (by omega), if_pos (by omega), rd_L1_natT, drop_cons (d := []) (show i < l.length by omega)]
    by_cases z : (l.getD i []).length ≤ 40
    · rw [if_neg (by omega), w64 (by omega) (by omega), ← succ_cast, ih (i + 1) q (by omega) (by omega)]
      congr 1
      apply decide_eq_decide.2
      exact ⟨fun h r hr => by rcases List.mem_cons.1 hr with rfl | hr <;> first | exact z | exact h _ hr, fun h r hr => h r (List.mem_cons_of_mem _ hr)⟩
    · rw [if_pos (by omega), decide_eq_false (fun h => z (h _ List.mem_cons_self))]
theorem light_f (l : List (List Int)) {q : Nat} (hq : 30 ≤ q) : T.quartermasterlaw03_light.f q l = some (decide (lightP l)) := by
  unfold T.quartermasterlaw03_light.f
  by_cases h : l.length ≤ 20
  · rw [if_neg (by omega)]
    have := light_l0 l h l.length 0 q (by omega) (by omega)
    rw [show ((0 : Nat) : Int) = 0 from rfl] at this
    rw [this, List.drop_zero]
    congr 1
    apply decide_eq_decide.2
    exact ⟨fun h' => ⟨h, h'⟩, fun h' => h'.2⟩
  · rw [if_pos (by omega), decide_eq_false (fun h' => h h'.1)]
theorem head_light {l : List (List Int)} (h : ∀ r ∈ l, r.length ≤ 40) : (l.getD 0 []).length ≤ 40 := by
  by_cases z : 0 < l.length
  · rw [getD_at z]; exact h _ (List.getElem_mem z)
  · rw [getD_none z]; simp
theorem may_data {l0 : List (List Int)} (h0 : okM l0) (hm : mayP l0) : ∃ D : List (List Nat), l0 = mints D ∧ Rect l0.length (l0.getD 0 []).length D := ⟨mnats l0, (mints_mnats h0).symm, mayP_rect hm h0⟩
end Go.Proofs.Ythblmkailhdhlaa.Mat
