/- An argument of type [][]byte, opened: its rows are bytes. -/
import Derived.Test.YthblmkailhdhlaaD2
import Derived.Deep.Matrix
import Derived.Carry
namespace Go.Proofs.Ythblmkailhdhlaa.Mat
set_option linter.unusedVariables false
open Go.ChangeShapes Go.WideShapes Go.Deep Go.RowKit Go.Proofs.Ythblmkailhdhlaa.Given Go.Proofs.YthblmkailhdhlaaW.PrintWords

/-- What a law is told of an argument of type [][]byte. -/
structure MatArg (w : World) (a : Option Addr) (len cap : Nat) (l : List (List Int)) : Prop where
  ok : okM l
  long : l.length = len
  room : l.length ≤ cap
  most : cap ≤ Go.maxLen
  mosts : ∀ r ∈ l, r.length ≤ Go.maxLen
  reads : Kd.C (Kd.slice 5 (Kd.int .u8)) w a l.length l

theorem wf_u8 {n : Int} (h : (Lit.int .u8 n).wf = true) : 0 ≤ n ∧ n < 256 := by
  simp [Lit.wf] at h
  have h1 : IntKind.u8.min = 0 := by decide
  have h2 : IntKind.u8.max = 255 := by decide
  omega

theorem open_mat {H : Type} {enc : TypeId × Value → H} {w : World} {base : Nat} {held : Bool} {a : Option Addr} {len cap : Nat} {d : DataW H} {ps : List MemPlace}
    (h : DataW.Trod enc Try.prog w base (fun _ => true) held 42 (.slice a len cap) d ps) : ∃ l, MatArg w a len cap l := by
  obtain ⟨fuel, hf⟩ := h
  rcases open_int_rows Try.underlying42 Try.underlying43 Try.underlying5 (by kernel_rfl) (by kernel_rfl) hf with ⟨hcs, _⟩ | ⟨x, l, c, A, L, C, Z, hcs, _, hl, hm, _, hr⟩
  · simp [Value.cells] at hcs
    obtain ⟨rfl, rfl, rfl⟩ := hcs
    exact ⟨[], ⟨(fun r hr => by cases hr), rfl, Nat.le_refl _, Nat.zero_le _, (fun r hr => by cases hr), ⟨rfl, by decide, (fun h => by cases h)⟩⟩⟩
  · simp [Value.cells] at hcs
    obtain ⟨rfl, rfl, rfl⟩ := hcs
    have hlen : ((List.range len).map fun r => (Z r).take (L r)).length = len := by simp
    have hml : ∀ r, r < len → ((Z r).take (L r)).length = L r := by
      intro r hlt
      have := hr r (by omega)
      rw [List.length_take]; omega
    refine ⟨(List.range len).map fun r => (Z r).take (L r), ⟨?_, hlen, by rw [hlen]; exact hl, hm, ?_, ?_⟩⟩
    · intro r hr'
      obtain ⟨i, hi, rfl⟩ := List.mem_map.1 hr'
      have := hr i (by have := List.mem_range.1 hi; omega)
      intro y hy
      exact wf_u8 (this.2.2.2.2.1 y (List.mem_of_mem_take hy))
    · intro r hr'
      obtain ⟨i, hi, rfl⟩ := List.mem_map.1 hr'
      have hi := List.mem_range.1 hi
      have := hr i (by omega)
      rw [hml i hi]; omega
    · rw [hlen]
      refine ⟨hlen, Nat.le_trans (Nat.le_trans hl hm) (by unfold maxLen; omega), fun _ => ⟨x, rfl, fun j p hj => ?_⟩⟩
      rw [List.getElem?_map] at hj
      by_cases hjl : j < len
      · rw [List.getElem?_range hjl] at hj
        injection hj with hj
        subst hj
        have hh := hr j (by omega)
        refine ⟨[.slice (A j) (L j) (C j)], rfl, ⟨A j, C j, ?_, ?_, ?_⟩, ?_⟩
        · rw [hml j hjl]
        · rw [hml j hjl]; exact hh.2.1
        · rw [hml j hjl]
          refine ⟨hml j hjl, Nat.le_trans (Nat.le_trans hh.2.1 hh.2.2.1) (by unfold maxLen; omega), fun hpos => ?_⟩
          cases hA : A j with
          | none => have := hh.2.2.2.2.2.1 hA; omega
          | some a' =>
            refine ⟨a', rfl, fun i q hi => ?_⟩
            have hi2 := (List.getElem?_eq_some_iff.1 hi).1
            rw [hml j hjl] at hi2
            have hc := (hh.2.2.2.2.2.2 a' hA).2 i (by omega)
            rw [List.getElem?_take, if_pos hi2] at hi
            have hg : (Z j).getD i 0 = q := by rw [List.getD_eq_getElem?_getD, hi]; rfl
            rw [hg] at hc
            refine ⟨[.int .u8 q], rfl, rfl, fun i' u hu => ?_⟩
            match i', hu with
            | 0, hu => injection hu with hu; subst hu; rw [show (Kd.int .u8).sz = 1 from rfl]; simpa using hc
        · intro i u hu
          match i, hu with
          | 0, hu => injection hu with hu; subst hu; simpa [show (Kd.slice 5 (Kd.int .u8)).sz = 1 from rfl] using hh.1
      · rw [List.getElem?_eq_none (by simp; omega)] at hj
        cases hj
end Go.Proofs.Ythblmkailhdhlaa.Mat
