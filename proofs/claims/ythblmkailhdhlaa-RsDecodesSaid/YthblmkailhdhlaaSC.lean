/- The document's 'solved', in the form in which the print's texts ask it. -/
import Derived.Test.YthblmkailhdhlaaSB
namespace Go.Proofs.Ythblmkailhdhlaa.Given
set_option linter.unusedVariables false
open Go.RowKit Go.Proofs.Ythblmkailhdhlaa.F Go.Proofs.Ythblmkailhdhlaa.Mat Go.Proofs.YthblmkailhdhlaaW.PrintWords

theorem quartermasterref03_solved.calls (A0 : Option Addr) (c0 : Nat) (l0 : List (List Int)) (A1 : Option Addr) (c1 : Nat) (l1 : List Int) (r : List Int) (w : World) (hr0 : Kd.C (Kd.slice 5 (Kd.int .u8)) w A0 l0.length l0) (hc0 : l0.length ≤ c0) (hr1 : Kd.C (Kd.int .u8) w A1 l1.length l1) (hc1 : l1.length ≤ c1) (h : quartermasterref03_solved.f l0 l1 = some r) :
    Calls Try.prog 76 #[.slice A0 l0.length c0, .slice A1 l1.length c1] w fun e w' => ∃ v0_ : Value, e = .returned v0_ ∧ (Kd.int .u8).R 5 w' w.heap.size (fun _ => True) v0_ r ∧ Below w.heap.size w w' := by
  unfold quartermasterref03_solved.f at h
  by_cases hk : okM l0 ∧ okB l1 ∧ 1 ≤ l0.length ∧ l0.length ≤ 64 ∧ (∀ r ∈ l0, r.length = l0.length) ∧ l1.length = l0.length
  · rw [if_pos hk] at h
    injection h with h
    subst h
    obtain ⟨k1, k2, k3, k4, k5, k6⟩ := hk
    have hR : Rect l0.length l0.length (mnats l0) := by
      refine ⟨mnats_len _, fun l hl => ?_⟩
      obtain ⟨q, hq, rfl⟩ := List.mem_map.1 hl
      exact ⟨by unfold nats; rw [List.length_map]; exact k5 q hq, fun x hx => mnats_bytes k1 _ (List.mem_map.2 ⟨q, hq, rfl⟩) x hx⟩
    have := solved_calls A0 c0 (mnats l0) A1 c1 (nats l1) l0.length ⟨k3, k4⟩ hR (by unfold nats; rw [List.length_map]; exact k6) (fun x hx => by
      obtain ⟨z, hz, rfl⟩ := List.mem_map.1 hx
      have := k2 z hz; omega) w (by unfold ReadsM; rw [mnats_len, mints_mnats k1]; exact hr0) (by unfold ReadsB; rw [ints_nats k2]; unfold nats; rw [List.length_map]; exact hr1)
    rw [k6]
    exact this
  · rw [if_neg hk] at h; cases h
end Go.Proofs.Ythblmkailhdhlaa.Given
