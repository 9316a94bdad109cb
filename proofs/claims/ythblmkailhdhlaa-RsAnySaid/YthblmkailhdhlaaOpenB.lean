/- An argument of type []bool, opened. -/
import Derived.Test.YthblmkailhdhlaaOpen
import Derived.Deep.Grids
namespace Go.Proofs.Ythblmkailhdhlaa.Mat
set_option linter.unusedVariables false
open Go.ChangeShapes Go.WideShapes Go.Deep Go.RowKit Go.Proofs.Ythblmkailhdhlaa.Given Go.Proofs.YthblmkailhdhlaaW.PrintWords

/-- What a law is told of an argument of type []bool. -/
structure BoolArg (w : World) (a : Option Addr) (len cap : Nat) (l : List Bool) : Prop where
  long : l.length = len
  room : l.length ≤ cap
  most : cap ≤ Go.maxLen
  reads : Kd.C Kd.bool w a l.length l

theorem open_boolarg {H : Type} {enc : TypeId × Value → H} {w : World} {base : Nat} {held : Bool} {a : Option Addr} {len cap : Nat} {d : DataW H} {ps : List MemPlace}
    (h : DataW.Trod enc Try.prog w base (fun _ => true) held 55 (.slice a len cap) d ps) : ∃ l, BoolArg w a len cap l := by
  obtain ⟨fuel, hf⟩ := h
  rcases open_bools Try.underlying55 Try.underlying4 (by kernel_rfl) hf with ⟨hcs, _⟩ | ⟨x, l, c, B, hcs, _, hl, hm, _, hcell⟩
  · simp [Value.cells] at hcs
    obtain ⟨rfl, rfl, rfl⟩ := hcs
    exact ⟨[], ⟨rfl, Nat.le_refl _, Nat.zero_le _, ⟨rfl, by decide, (fun h => by cases h)⟩⟩⟩
  · simp [Value.cells] at hcs
    obtain ⟨rfl, rfl, rfl⟩ := hcs
    have hlen : ((List.range len).map B).length = len := by simp
    refine ⟨(List.range len).map B, ⟨hlen, by rw [hlen]; exact hl, hm, ?_⟩⟩
    rw [hlen]
    refine ⟨hlen, Nat.le_trans (Nat.le_trans hl hm) (by unfold maxLen; omega), fun _ => ⟨x, rfl, fun j p hj => ?_⟩⟩
    rw [List.getElem?_map] at hj
    by_cases hjl : j < len
    · rw [List.getElem?_range hjl] at hj
      injection hj with hj
      subst hj
      refine ⟨[.bool (B j)], rfl, rfl, fun i u hu => ?_⟩
      match i, hu with
      | 0, hu => injection hu with hu; subst hu; simpa [show Kd.bool.sz = 1 from rfl] using hcell j (by omega)
    · rw [List.getElem?_eq_none (by simp; omega)] at hj
      cases hj
end Go.Proofs.Ythblmkailhdhlaa.Mat
