/- A matrix of the call's own, with room behind its rows, as it lies in memory. -/
import Derived.Test.YthblmkailhdhlaaD4
namespace Go.Proofs.Ythblmkailhdhlaa.Mat
set_option linter.unusedVariables false
open Go.RowKit Go.Proofs.Ythblmkailhdhlaa.F Go.Proofs.Ythblmkailhdhlaa.R Go.Proofs.Ythblmkailhdhlaa.Given Go.Proofs.Ythblmkailhdhlaa.Gf Go.Proofs.YthblmkailhdhlaaW.PrintWords

structure GM (w : World) (B ob n c : Nat) (g : Nat → Nat) (f : Nat → Nat → Nat) : Prop where
  outer : ∃ oc : Array Value, w.heap[ob]? = some (.cells oc 43 (0, 0)) ∧ ∀ i, i < n → ∃ cap, oc[i]? = some (.slice (some ⟨g i, 0, none⟩) c cap) ∧ c ≤ cap
  rows : ∀ i, i < n → ∃ cells : Array Value, w.heap[g i]? = some (.cells cells 5 (0, 0)) ∧ ∀ j, j < c → cells[j]? = some (.int .u8 (f i j : Nat))
  inj : ∀ i j, i < n → j < n → g i = g j → i = j
  ne : ∀ i, i < n → g i ≠ ob
  low : ∀ i, i < n → B ≤ g i
  lowo : B ≤ ob
section
variable {w : World} {B ob n c : Nat} {g : Nat → Nat} {f : Nat → Nat → Nat}
theorem GM.drewN (h : GM w B ob n c g f) (m : Nat) : GM (w.drewN m) B ob n c g f := ⟨h.outer, h.rows, h.inj, h.ne, h.low, h.lowo⟩
theorem GM.drew (h : GM w B ob n c g f) : GM w.drew B ob n c g f := ⟨h.outer, h.rows, h.inj, h.ne, h.low, h.lowo⟩
theorem GM.cellO (h : GM w B ob n c g f) {i : Nat} (hi : i < n) : ∃ cap, w.cell? ⟨ob, i, none⟩ = some (.slice (some ⟨g i, 0, none⟩) c cap) := by
  obtain ⟨oc, h1, h2⟩ := h.outer
  obtain ⟨cap, h3, _⟩ := h2 i hi
  exact ⟨cap, (blk_cell h1 i).trans h3⟩
theorem GM.frzO (h : GM w B ob n c g f) (i : Nat) : w.frozen? ⟨ob, i, none⟩ = false := by
  obtain ⟨oc, h1, h2⟩ := h.outer
  exact blk_frozen h1 i
theorem GM.cellR (h : GM w B ob n c g f) {i j : Nat} (hi : i < n) (hj : j < c) : w.cell? ⟨g i, j, none⟩ = some (.int .u8 (f i j : Nat)) := by
  obtain ⟨cells, h1, h2⟩ := h.rows i hi
  exact (blk_cell h1 j).trans (h2 j hj)
theorem GM.frzR (h : GM w B ob n c g f) {i : Nat} (hi : i < n) (j : Nat) : w.frozen? ⟨g i, j, none⟩ = false := by
  obtain ⟨cells, h1, h2⟩ := h.rows i hi
  exact blk_frozen h1 j
theorem GM.congr {f' : Nat → Nat → Nat} (h : GM w B ob n c g f) (e : ∀ i j, i < n → j < c → f' i j = f i j) : GM w B ob n c g f' :=
  ⟨h.outer, fun i hi => by obtain ⟨cells, h1, h2⟩ := h.rows i hi; exact ⟨cells, h1, fun j hj => by rw [e i j hi hj]; exact h2 j hj⟩, h.inj, h.ne, h.low, h.lowo⟩
theorem GM.put (h : GM w B ob n c g f) {i j : Nat} (hi : i < n) (hj : j < c) (x : Nat) : GM (w.setCell ⟨g i, j, none⟩ (.int .u8 (x : Nat))) B ob n c g (fun r q => if r = i ∧ q = j then x else f r q) := by
  obtain ⟨oc, o1, o2⟩ := h.outer
  refine ⟨⟨oc, blk_far o1 (p := ⟨g i, j, none⟩) (fun e => h.ne i hi e.symm) _, o2⟩, fun r hr => ?_, h.inj, h.ne, h.low, h.lowo⟩
  obtain ⟨cells, h1, h2⟩ := h.rows r hr
  by_cases e : r = i
  · subst e
    refine ⟨_, blk_set h1 j _, fun q hq => ?_⟩
    rw [Array.getElem?_setIfInBounds]
    by_cases ej : j = q
    · subst ej
      have := (Array.getElem?_eq_some_iff.1 (h2 j hq)).1
      rw [if_pos rfl, if_pos this, if_pos ⟨rfl, rfl⟩]
    · rw [if_neg ej, if_neg (fun hh => ej hh.2.symm)]; exact h2 q hq
  · refine ⟨cells, blk_far h1 (p := ⟨g i, j, none⟩) (fun hh => e (h.inj r i hr hi hh)) _, fun q hq => ?_⟩
    rw [if_neg (fun hh => e hh.1)]; exact h2 q hq
theorem GM.swap (h : GM w B ob n c g f) {p q : Nat} (hp : p < n) (hq : q < n) {cp cq : Nat} (c1 : w.cell? ⟨ob, p, none⟩ = some (.slice (some ⟨g p, 0, none⟩) c cp)) (c2 : w.cell? ⟨ob, q, none⟩ = some (.slice (some ⟨g q, 0, none⟩) c cq)) :
    GM ((w.setCell ⟨ob, p, none⟩ (.slice (some ⟨g q, 0, none⟩) c cq)).setCell ⟨ob, q, none⟩ (.slice (some ⟨g p, 0, none⟩) c cp)) B ob n c (fun r => if r = q then g p else if r = p then g q else g r) (swF p q f) := by
  obtain ⟨oc, o1, o2⟩ := h.outer
  have hsz : ∀ i, i < n → i < oc.size := fun i hi => by obtain ⟨cap, h3, _⟩ := o2 i hi; exact (Array.getElem?_eq_some_iff.1 h3).1
  obtain ⟨cp', k1, k1'⟩ := o2 p hp
  obtain ⟨cq', k2, k2'⟩ := o2 q hq
  have e1 := (blk_cell o1 p).symm.trans c1
  have e2 := (blk_cell o1 q).symm.trans c2
  rw [k1] at e1
  rw [k2] at e2
  injection e1 with e1; injection e1 with _ _ e1; subst e1
  injection e2 with e2; injection e2 with _ _ e2; subst e2
  have hg : ∀ r, r < n → ∃ t, t < n ∧ (if r = q then g p else if r = p then g q else g r) = g t ∧ ∀ j, swF p q f r j = f t j := fun r hr => by
    unfold swF
    by_cases e : r = q
    · exact ⟨p, hp, by rw [if_pos e], fun j => by rw [if_pos e]⟩
    · by_cases e' : r = p
      · exact ⟨q, hq, by rw [if_neg e, if_pos e'], fun j => by rw [if_neg e, if_pos e']⟩
      · exact ⟨r, hr, by rw [if_neg e, if_neg e'], fun j => by rw [if_neg e, if_neg e']⟩
  refine ⟨⟨_, blk_set (blk_set o1 p _) q _, fun i hi => ?_⟩, fun r hr => ?_, fun i j hi hj e => ?_, fun i hi => ?_, fun i hi => ?_, h.lowo⟩
  · rw [Array.getElem?_setIfInBounds, Array.getElem?_setIfInBounds, Array.size_setIfInBounds]
    by_cases e : q = i
    · subst e
      exact ⟨_, by rw [if_pos rfl, if_pos (hsz q hi), if_pos rfl], k1'⟩
    · by_cases e' : p = i
      · subst e'
        exact ⟨_, by rw [if_neg e, if_pos rfl, if_pos (hsz p hi), if_neg (fun hh => e hh.symm), if_pos rfl], k2'⟩
      · obtain ⟨cap, h3, h4⟩ := o2 i hi
        exact ⟨cap, by rw [if_neg e, if_neg e', if_neg (fun hh => e hh.symm), if_neg (fun hh => e' hh.symm)]; exact h3, h4⟩
  · obtain ⟨t, ht, e1, e2⟩ := hg r hr
    obtain ⟨cells, h1, h2⟩ := h.rows t ht
    rw [e1]
    exact ⟨cells, blk_far (blk_far h1 (p := ⟨ob, p, none⟩) (h.ne t ht) _) (p := ⟨ob, q, none⟩) (h.ne t ht) _, fun j hj => by rw [e2]; exact h2 j hj⟩
  · show i = j
    have e : (if i = q then g p else if i = p then g q else g i) = (if j = q then g p else if j = p then g q else g j) := e
    have ij := h.inj
    by_cases a1 : i = q <;> by_cases a2 : j = q
    · omega
    · rw [if_pos a1, if_neg a2] at e
      by_cases a3 : j = p
      · rw [if_pos a3] at e
        have := ij p q hp hq e; omega
      · rw [if_neg a3] at e
        have := ij p j hp hj e; omega
    · rw [if_neg a1, if_pos a2] at e
      by_cases a3 : i = p
      · rw [if_pos a3] at e
        have := ij q p hq hp e; omega
      · rw [if_neg a3] at e
        have := ij i p hi hp e; omega
    · rw [if_neg a1, if_neg a2] at e
      by_cases a3 : i = p <;> by_cases a4 : j = p
      · omega
      · rw [if_pos a3, if_neg a4] at e
        have := ij q j hq hj e; omega
      · rw [if_neg a3, if_pos a4] at e
        have := ij i q hi hq e; omega
      · rw [if_neg a3, if_neg a4] at e
        exact ij i j hi hj e
  · obtain ⟨t, ht, e1, _⟩ := hg i hi
    show (if i = q then g p else if i = p then g q else g i) ≠ ob
    rw [e1]; exact h.ne t ht
  · obtain ⟨t, ht, e1, _⟩ := hg i hi
    show B ≤ (if i = q then g p else if i = p then g q else g i)
    rw [e1]; exact h.low t ht
end
theorem GM.of_S {W : World} {base ob n c cap : Nat} {M : List (List Nat)} (hM : Rect n c M) (hc : 0 < c) (h : Kd.S (Kd.slice 5 (Kd.int .u8)) 43 W base (fun _ => True) (.slice (some ⟨ob, 0, none⟩) n cap) (mints M)) : ∃ g, GM W base ob n c g (el M) := by
  have hn := (Kd.S_reads' h).1
  obtain ⟨oc, ho⟩ := Kd.S_typed h ob (by simp [Value.ownBlock])
  have hbo := Kd.S_base h ob (by simp [Value.ownBlock])
  obtain ⟨fo, hR⟩ := h
  have key : ∀ i, i < n → ∃ gi cp cells, oc[i]? = some (.slice (some ⟨gi, 0, none⟩) c cp) ∧ c ≤ cp ∧ W.heap[gi]? = some (.cells cells 5 (0, 0)) ∧ (∀ j, j < c → cells[j]? = some (.int .u8 (el M i j : Nat))) ∧ fo gi = i ∧ gi ≠ ob ∧ base ≤ gi := fun i hi => by
    obtain ⟨cs, _, hMd, hcc, _⟩ := Kd.R_elem hR (([] : List Int), 0) (i : Int) (by omega) (by omega)
    rw [Int.toNat_natCast] at hMd hcc
    obtain ⟨l, e1, e2, e3, e4⟩ := hM.row hi
    have hz : (mints M).zipIdx.getD i (([] : List Int), 0) = (ints l, i) := by
      rw [List.getD_eq_getElem?_getD, Kd.zip_at (p := ints l) (by unfold mints; rw [List.getElem?_map, e1]; rfl)]; rfl
    rw [hz] at hMd
    obtain ⟨v, rfl, hr⟩ := hMd
    obtain ⟨gi, cp, ev, hb, hlt, cells, hcells⟩ := Kd.R_form hr (by rw [ints_len, e3]; exact hc)
    subst ev
    have hle := (Kd.R_reads' hr).2.1
    rw [ints_len, e3] at hle
    have hok := hr.1 gi (by simp [Value.ownBlock])
    have hcell := hcc 0 _ rfl
    rw [show (Kd.tag fo (Kd.slice 5 (Kd.int .u8))).sz = 1 from rfl, Nat.mul_one, Nat.add_zero, blk_cell ho, ints_len, e3] at hcell
    refine ⟨gi, cp, cells, hcell, hle, hcells, fun j hj => ?_, hok.2, hok.1.2, hb⟩
    have h1 := (Kd.R_celln (0 : Int) hr (j : Int) (by omega) (by rw [ints_len, e3]; omega)).1
    rw [Int.toNat_natCast, blk_cell hcells] at h1
    rw [h1]
    show some (Value.int .u8 ((ints l).getD (j : Int).toNat 0)) = _
    rw [Int.toNat_natCast, ints_getD]
    show some (Value.int .u8 ((l.getD j 0 : Nat) : Int)) = some (Value.int .u8 (((M.getD i []).getD j 0 : Nat) : Int))
    rw [e2]
  let g : Nat → Nat := fun i => if hi : i < n then (key i hi).choose else 0
  have hg : ∀ i (hi : i < n), g i = (key i hi).choose := fun i hi => dif_pos hi
  refine ⟨g, ⟨⟨oc, ho, fun i hi => ?_⟩, fun i hi => ?_, fun i j hi hj e => ?_, fun i hi => ?_, fun i hi => ?_, hbo⟩⟩
  · obtain ⟨cp, cells, h1, h2, _⟩ := (key i hi).choose_spec
    rw [hg i hi]; exact ⟨cp, h1, h2⟩
  · obtain ⟨cp, cells, h1, h2, h3, h4, _⟩ := (key i hi).choose_spec
    rw [hg i hi]; exact ⟨cells, h3, h4⟩
  · obtain ⟨_, _, _, _, _, _, h5, _⟩ := (key i hi).choose_spec
    obtain ⟨_, _, _, _, _, _, h6, _⟩ := (key j hj).choose_spec
    rw [hg i hi, hg j hj] at e
    rw [e] at h5
    exact h5.symm.trans h6
  · obtain ⟨_, _, _, _, _, _, _, h5, _⟩ := (key i hi).choose_spec
    rw [hg i hi]; exact h5
  · obtain ⟨_, _, _, _, _, _, _, _, h5⟩ := (key i hi).choose_spec
    rw [hg i hi]; exact h5
end Go.Proofs.Ythblmkailhdhlaa.Mat
