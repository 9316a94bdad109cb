/- What Gauss makes, in plain Lean: the inverse on both sides, or none where the determinant is nothing. -/
import Derived.Test.YthblmkailhdhlaaNE
namespace Go.Proofs.Ythblmkailhdhlaa.Mat
set_option linter.unusedVariables false
open Go.RowKit Go.Proofs.Ythblmkailhdhlaa.F Go.Proofs.Ythblmkailhdhlaa.Gf Go.Proofs.YthblmkailhdhlaaW.PrintWords

/-- What holds of the two matrices while the rows are worked on. -/
structure GI (n : Nat) (m f g : Nat → Nat → Nat) : Prop where
  ml : ∀ i j, m i j < 256
  fl : ∀ i j, f i j < 256
  gl : ∀ i j, g i j < 256
  left : ∀ i j, i < n → j < n → mulF n g m i j = f i j
  right : ∃ P : Nat → Nat → Nat, (∀ i j, P i j < 256) ∧ (∀ i j, i < n → j < n → mulF n P f i j = m i j) ∧ ∀ i j, i < n → j < n → mulF n P g i j = oneAt i j
  dz : detF n f = 0 ↔ detF n m = 0

theorem mulF_congr {n : Nat} {f f' g g' : Nat → Nat → Nat} {i j : Nat} (h1 : ∀ t, t < n → f i t = f' i t) (h2 : ∀ t, t < n → g t j = g' t j) : mulF n f g i j = mulF n f' g' i j :=
  sg_congr fun t ht => by rw [h1 t ht, h2 t ht]
theorem GI.congr {n : Nat} {m f g f' g' : Nat → Nat → Nat} (h : GI n m f g) (hf : ∀ i j, f' i j < 256) (hg : ∀ i j, g' i j < 256)
    (h1 : ∀ i j, i < n → j < n → f' i j = f i j) (h2 : ∀ i j, i < n → j < n → g' i j = g i j) : GI n m f' g' := by
  obtain ⟨P, p1, p2, p3⟩ := h.right
  refine ⟨h.ml, hf, hg, fun i j hi hj => ?_, ⟨P, p1, fun i j hi hj => ?_, fun i j hi hj => ?_⟩, ?_⟩
  · rw [h1 i j hi hj, ← h.left i j hi hj]; exact mulF_congr (fun t ht => h2 i t hi ht) fun _ _ => rfl
  · rw [← p2 i j hi hj]; exact mulF_congr (fun _ _ => rfl) fun t ht => h1 t j ht hj
  · rw [← p3 i j hi hj]; exact mulF_congr (fun _ _ => rfl) fun t ht => h2 t j ht hj
  · rw [detF_congr h1]; exact h.dz
theorem sg_put (h : Nat → Nat) (A : Nat) {n c : Nat} (hc : c < n) : sg (fun t => h t ^^^ (if t = c then A else 0)) n = sg h n ^^^ A := by
  rw [sg_xor, sg_only (f := fun t => if t = c then A else 0) hc fun i _ hne => if_neg hne]
  rw [if_pos rfl]
theorem xor_three (a b : Nat) : (a ^^^ b) ^^^ b = a := by rw [Nat.xor_assoc, xor_same, xor_zero]
theorem col_add {n i c x : Nat} {P h : Nat → Nat → Nat} (hP : ∀ i j, P i j < 256) (hh : ∀ i j, h i j < 256) (hi : i < n) (hc : c < n) (hne : i ≠ c) (hx : x < 256) (r j : Nat) :
    mulF n (fun r t => if t = c then P r c ^^^ gm (P r i) x else P r t) (addF i c x h) r j = mulF n P h r j := by
  have e : ∀ t, t < n → gm (if t = c then P r c ^^^ gm (P r i) x else P r t) (addF i c x h t j) =
      (gm (P r t) (h t j) ^^^ (if t = c then gm (gm (P r i) x) (h c j) else 0)) ^^^ (if t = i then gm (P r i) (gm x (h c j)) else 0) := by
    intro t ht
    unfold addF
    by_cases h1 : t = c
    · subst h1
      rw [if_pos rfl, if_neg (fun z => hne z.symm), if_pos rfl, if_neg (fun z => hne z.symm), xor_zero, xor_gm (hh _ _) (hP _ _) (gm_lt _ _)]
    · rw [if_neg h1, if_neg h1, xor_zero]
      by_cases h2 : t = i
      · subst h2
        rw [if_pos rfl, if_pos rfl, gm_xor (hP _ _) (hh _ _) (gm_lt _ _)]
      · rw [if_neg h2, if_neg h2, xor_zero]
  show sg _ n = sg _ n
  rw [sg_congr e, sg_put _ _ hi, sg_put _ _ hc, gm_assoc, xor_three]
theorem GI.add {n i c x : Nat} {m f g : Nat → Nat → Nat} (h : GI n m f g) (hi : i < n) (hc : c < n) (hne : i ≠ c) (hx : x < 256) : GI n m (addF i c x f) (addF i c x g) := by
  obtain ⟨P, p1, p2, p3⟩ := h.right
  refine ⟨h.ml, addF_lt h.fl, addF_lt h.gl, fun r j hr hj => ?_, ⟨fun r t => if t = c then P r c ^^^ gm (P r i) x else P r t, fun r t => ?_, fun r j hr hj => ?_, fun r j hr hj => ?_⟩, ?_⟩
  · by_cases e : r = i
    · subst e
      have : mulF n (addF r c x g) m r j = sg (fun t => gm (g r t) (m t j) ^^^ gm x (gm (g c t) (m t j))) n := sg_congr fun t _ => by
        unfold addF; rw [if_pos rfl, xor_gm (h.ml _ _) (h.gl _ _) (gm_lt _ _), gm_assoc]
      rw [this, sg_xor, ← sg_gm hx fun _ _ => gm_lt _ _]
      have e1 := h.left r j hr hj
      have e2 := h.left c j hc hj
      unfold mulF at e1 e2
      rw [e1, e2]
      unfold addF; rw [if_pos rfl]
    · have : mulF n (addF i c x g) m r j = mulF n g m r j := mulF_congr (fun t _ => by unfold addF; rw [if_neg e]) fun _ _ => rfl
      rw [this, h.left r j hr hj]; unfold addF; rw [if_neg e]
  · show (if t = c then P r c ^^^ gm (P r i) x else P r t) < 256
    split
    · exact xor_lt (p1 _ _) (gm_lt _ _)
    · exact p1 _ _
  · rw [col_add p1 h.fl hi hc hne hx, p2 r j hr hj]
  · rw [col_add p1 h.gl hi hc hne hx, p3 r j hr hj]
  · rw [detF_addF hi hc hne hx h.fl]; exact h.dz
theorem col_sca {n c x : Nat} {P h : Nat → Nat → Nat} (hh : ∀ i j, h i j < 256) (hc : c < n) (hx : x < 256) (hx0 : x ≠ 0) (r j : Nat) :
    mulF n (fun r t => if t = c then gm (P r c) (gd 1 x) else P r t) (scaF c x h) r j = mulF n P h r j := by
  refine sg_congr fun t _ => ?_
  show gm (if t = c then gm (P r c) (gd 1 x) else P r t) (if t = c then gm (h t j) x else h t j) = _
  by_cases e : t = c
  · subst e
    rw [if_pos rfl, if_pos rfl, gm_assoc, gm_comm (h t j) x, ← gm_assoc (a := gd 1 x), gd_gm (by omega) hx hx0, one_gm (hh _ _)]
  · rw [if_neg e, if_neg e]
theorem GI.sca {n c x : Nat} {m f g : Nat → Nat → Nat} (h : GI n m f g) (hc : c < n) (hx : x < 256) (hx0 : x ≠ 0) : GI n m (scaF c x f) (scaF c x g) := by
  obtain ⟨P, p1, p2, p3⟩ := h.right
  refine ⟨h.ml, scaF_lt h.fl, scaF_lt h.gl, fun r j hr hj => ?_, ⟨fun r t => if t = c then gm (P r c) (gd 1 x) else P r t, fun r t => ?_, fun r j hr hj => ?_, fun r j hr hj => ?_⟩, ?_⟩
  · by_cases e : r = c
    · subst e
      have : mulF n (scaF r x g) m r j = sg (fun t => gm (gm (g r t) (m t j)) x) n := sg_congr fun t _ => by
        unfold scaF; rw [if_pos rfl, gm_assoc, gm_comm x, ← gm_assoc]
      rw [this, ← gm_sg hx fun _ _ => gm_lt _ _]
      have e1 := h.left r j hr hj
      unfold mulF at e1
      rw [e1]
      unfold scaF; rw [if_pos rfl]
    · have : mulF n (scaF c x g) m r j = mulF n g m r j := mulF_congr (fun t _ => by unfold scaF; rw [if_neg e]) fun _ _ => rfl
      rw [this, h.left r j hr hj]; unfold scaF; rw [if_neg e]
  · show (if t = c then gm (P r c) (gd 1 x) else P r t) < 256
    split
    · exact gm_lt _ _
    · exact p1 _ _
  · rw [col_sca h.fl hc hx hx0, p2 r j hr hj]
  · rw [col_sca h.gl hc hx hx0, p3 r j hr hj]
  · rw [detF_scaF hc hx h.fl]
    refine Iff.trans ⟨fun z => ?_, fun z => ?_⟩ h.dz
    · by_cases e : detF n f = 0
      · exact e
      · exact absurd z (gm_ne e hx0)
    · rw [z, zero_gm]
/-- Rows c and p in each other's places. -/
def swF (c p : Nat) (f : Nat → Nat → Nat) : Nat → Nat → Nat := fun r j => if r = p then f c j else if r = c then f p j else f r j
theorem swF_adds {c p : Nat} (hne : c ≠ p) {f : Nat → Nat → Nat} (hf : ∀ i j, f i j < 256) : swF c p f = addF p c 1 (addF c p 1 (addF p c 1 f)) := by
  funext r j
  have h1 : ∀ r j, addF p c 1 f r j = if r = p then f p j ^^^ f c j else f r j := fun r j => by
    unfold addF; by_cases e : r = p
    · rw [if_pos e, if_pos e, one_gm (hf _ _), e]
    · rw [if_neg e, if_neg e]
  have h2 : ∀ r j, addF c p 1 (addF p c 1 f) r j = if r = p then f p j ^^^ f c j else if r = c then f p j else f r j := fun r j => by
    show (if r = c then addF p c 1 f r j ^^^ gm 1 (addF p c 1 f p j) else addF p c 1 f r j) = _
    rw [h1, h1, if_pos rfl, one_gm (xor_lt (hf _ _) (hf _ _))]
    by_cases e : r = c
    · subst e
      rw [if_pos rfl, if_neg hne, if_neg hne, if_pos rfl, Nat.xor_comm (f p j), ← Nat.xor_assoc, xor_same, zero_xor]
    · rw [if_neg e]; split
      · rfl
      · rfl
  have h3 : addF p c 1 (addF c p 1 (addF p c 1 f)) r j = if r = p then addF c p 1 (addF p c 1 f) r j ^^^ gm 1 (addF c p 1 (addF p c 1 f) c j) else addF c p 1 (addF p c 1 f) r j := rfl
  rw [h3, h2, h2, if_neg hne, if_pos rfl, one_gm (hf _ _)]
  unfold swF
  by_cases e : r = p
  · rw [if_pos e, if_pos e, if_pos e, Nat.xor_comm (f p j), xor_three]
  · rw [if_neg e, if_neg e, if_neg e]
theorem swF_lt {c p : Nat} {f : Nat → Nat → Nat} (hf : ∀ i j, f i j < 256) (i j : Nat) : swF c p f i j < 256 := by
  unfold swF; split
  · exact hf _ _
  · split
    · exact hf _ _
    · exact hf _ _
theorem GI.swap {n c p : Nat} {m f g : Nat → Nat → Nat} (h : GI n m f g) (hc : c < n) (hp : p < n) : GI n m (swF c p f) (swF c p g) := by
  by_cases hne : c = p
  · subst hne
    have e : ∀ f : Nat → Nat → Nat, swF c c f = f := fun f => by
      funext r j; unfold swF; by_cases e : r = c
      · rw [if_pos e, e]
      · rw [if_neg e, if_neg e]
    rw [e, e]; exact h
  · rw [swF_adds hne h.fl, swF_adds hne h.gl]
    exact ((h.add hp hc (Ne.symm hne) (by omega)).add hc hp hne (by omega)).add hp hc (Ne.symm hne) (by omega)

/-! The same of the lists. -/
theorem Square.lt {n : Nat} {M : List (List Nat)} (h : Square n M) (i j : Nat) : Mat.el M i j < 256 := h.rect.lt i j
theorem el_set {M : List (List Nat)} {i : Nat} (hi : i < M.length) (l : List Nat) (r j : Nat) : el (M.set i l) r j = if r = i then l.getD j 0 else el M r j := by
  unfold el
  rw [List.getD_eq_getElem?_getD (l := M.set i l), List.getElem?_set]
  by_cases e : i = r
  · rw [if_pos e, if_pos e.symm]
    rw [if_pos hi]; rfl
  · rw [if_neg e, if_neg (fun z => e z.symm), ← List.getD_eq_getElem?_getD]
theorem el_swapL {n : Nat} {M : List (List Nat)} (h : Square n M) {c p : Nat} (hc : c < n) (hp : p < n) (r j : Nat) : el (swapL M c p) r j = swF c p (el M) r j := by
  have e : (swapL M c p).getD r [] = if r = p then M.getD c [] else if r = c then M.getD p [] else M.getD r [] := by
    rw [List.getD_eq_getElem?_getD, swapL_get (by rw [h.1]; exact hc) (by rw [h.1]; exact hp)]
    split
    · rw [← List.getD_eq_getElem?_getD]
    · split
      · rw [← List.getD_eq_getElem?_getD]
      · rw [← List.getD_eq_getElem?_getD]
  show ((swapL M c p).getD r []).getD j 0 = _
  rw [e]
  unfold swF
  split
  · rfl
  · split
    · rfl
    · rfl
theorem map_getD (l : List Nat) (x j : Nat) : (l.map (gm · x)).getD j 0 = gm (l.getD j 0) x := by
  by_cases hj : j < l.length
  · rw [getD_at (by simp; omega), getD_at hj, List.getElem_map]
  · rw [getD_none (by simp; omega), getD_none hj, zero_gm]
theorem el_scale {n : Nat} {M : List (List Nat)} (h : Square n M) {c x : Nat} (hc : c < n) (r j : Nat) : el (scale M c x) r j = scaF c x (el M) r j := by
  unfold scale
  rw [el_set (by rw [h.1]; exact hc), map_getD]
  unfold scaF
  by_cases e : r = c
  · rw [if_pos e, if_pos e, e]; rfl
  · rw [if_neg e, if_neg e]
theorem el_addTo {n : Nat} {M : List (List Nat)} (h : Square n M) {i c x : Nat} (hi : i < n) (hc : c < n) (r : Nat) {j : Nat} (hj : j < n) : el (addTo' M i c x) r j = addF i c x (el M) r j := by
  unfold addTo'
  obtain ⟨l1, _, e1, q1, _⟩ := h.row hi
  obtain ⟨l2, _, e2, q2, _⟩ := h.row hc
  rw [el_set (by rw [h.1]; exact hi), addRow_getD (c := n) (by rw [e1, q1]) (by rw [e2, q2]) hj]
  unfold addF
  by_cases e : r = i
  · rw [if_pos e, if_pos e, e]; rfl
  · rw [if_neg e, if_neg e]
theorem Square.scale {n : Nat} {M : List (List Nat)} (h : Square n M) {c x : Nat} (hc : c < n) : Square n (scale M c x) := by
  obtain ⟨l, _, e, q, _⟩ := h.row hc
  exact h.set c ⟨by rw [List.length_map, e, q], map_lt _ _⟩
theorem Square.addTo {n : Nat} {M : List (List Nat)} (h : Square n M) {i c x : Nat} (hi : i < n) (hc : c < n) : Square n (addTo' M i c x) := by
  obtain ⟨l1, _, e1, q1, b1⟩ := h.row hi
  obtain ⟨l2, _, e2, q2, _⟩ := h.row hc
  exact h.set i ⟨by rw [e1, e2, addRow_len _ _ _ (by omega), q1], by rw [e1]; exact addRow_lt b1⟩

/-- What holds of both lists. -/
structure GL (n : Nat) (m : Nat → Nat → Nat) (S : List (List Nat) × List (List Nat)) : Prop where
  s1 : Square n S.1
  s2 : Square n S.2
  gi : GI n m (el S.1) (el S.2)
theorem GL.rid {n c i : Nat} {m : Nat → Nat → Nat} {S : List (List Nat) × List (List Nat)} (h : GL n m S) (hc : c < n) (hi : i < n) : GL n m (rid c S i) := by
  unfold Mat.rid
  by_cases e : i ≠ c ∧ el S.1 i c ≠ 0
  · rw [if_pos e]
    refine ⟨h.s1.addTo hi hc, h.s2.addTo hi hc, ?_⟩
    exact (h.gi.add hi hc e.1 (h.s1.lt i c)).congr (Square.lt (h.s1.addTo hi hc)) (Square.lt (h.s2.addTo hi hc)) (fun r j _ hj => el_addTo h.s1 hi hc r hj) (fun r j _ hj => el_addTo h.s2 hi hc r hj)
  · rw [if_neg e]; exact h
/-- What rid makes of the left one's places, where row c has a 1 in column c. -/
theorem rid_el {n c i : Nat} {S : List (List Nat) × List (List Nat)} (h1 : Square n S.1) (hc : c < n) (hi : i < n) (hcc : el S.1 c c = 1) (r : Nat) {j : Nat} (hj : j < n) :
    el (rid c S i).1 r j = if r = i ∧ i ≠ c then el S.1 i j ^^^ gm (el S.1 i c) (el S.1 c j) else el S.1 r j := by
  unfold Mat.rid
  by_cases e : i ≠ c ∧ el S.1 i c ≠ 0
  · rw [if_pos e]
    show el (addTo' S.1 i c (el S.1 i c)) r j = _
    rw [el_addTo h1 hi hc r hj]
    unfold addF
    by_cases e2 : r = i
    · subst e2; rw [if_pos rfl, if_pos ⟨rfl, e.1⟩]
    · rw [if_neg e2, if_neg (fun z => e2 z.1)]
  · rw [if_neg e]
    by_cases e2 : r = i ∧ i ≠ c
    · rw [if_pos e2]
      have : el S.1 i c = 0 := by
        by_cases z : el S.1 i c = 0
        · exact z
        · exact absurd ⟨e2.2, z⟩ e
      rw [this, zero_gm, xor_zero, e2.1]
    · rw [if_neg e2]
theorem rids_ok {n c : Nat} {m : Nat → Nat → Nat} (hc : c < n) : ∀ d i (S : List (List Nat) × List (List Nat)), i + d = n → GL n m S → el S.1 c c = 1 → (∀ j, j < c → ∀ r, r < n → el S.1 r j = oneAt r j) → (∀ r, r < i → el S.1 r c = oneAt r c) →
    GL n m (rids c d i S) ∧ (∀ j, j < c + 1 → ∀ r, r < n → el (rids c d i S).1 r j = oneAt r j)
  | 0, i, S, hd, h, hcc, hj, hr => by
    refine ⟨h, fun j hj' r hrn => ?_⟩
    show el S.1 r j = _
    by_cases e : j < c
    · exact hj j e r hrn
    · obtain rfl : j = c := by omega
      exact hr r (by omega)
  | d + 1, i, S, hd, h, hcc, hj, hr => by
    have hi : i < n := by omega
    have hz : ∀ j, j < c → el S.1 c j = 0 := fun j hjc => by rw [hj j hjc c hc]; unfold oneAt; rw [if_neg (by omega)]
    refine rids_ok hc d (i + 1) (rid c S i) (by omega) (h.rid hc hi) ?_ ?_ ?_
    · rw [rid_el h.s1 hc hi hcc c hc, if_neg (fun z => z.2 z.1.symm), hcc]
    · intro j hjc r hrn
      rw [rid_el h.s1 hc hi hcc r (by omega)]
      by_cases e : r = i ∧ i ≠ c
      · rw [if_pos e, hz j hjc, gm_zero, xor_zero, ← e.1]; exact hj j hjc r hrn
      · rw [if_neg e]; exact hj j hjc r hrn
    · intro r hri
      rw [rid_el h.s1 hc hi hcc r hc]
      by_cases e : r = i ∧ i ≠ c
      · rw [if_pos e, hcc, gm_one (h.s1.lt i c), xor_same]
        unfold oneAt; rw [if_neg (by omega)]
      · rw [if_neg e]
        by_cases e2 : r = c
        · subst e2; rw [hcc]; unfold oneAt; rw [if_pos rfl]
        · exact hr r (by omega)
theorem pivN_none {L : List (List Nat)} {c : Nat} : ∀ {d i : Nat}, pivN L c d i = none → ∀ r, i ≤ r → r < i + d → el L r c = 0
  | 0, i, h, r, h1, h2 => by omega
  | d + 1, i, h, r, h1, h2 => by
    unfold pivN at h
    by_cases h0 : el L i c = 0
    · rw [if_pos h0] at h
      by_cases e : r = i
      · rw [e]; exact h0
      · exact pivN_none h r (by omega) (by omega)
    · rw [if_neg h0] at h; cases h
theorem lead_ok {n c p : Nat} {m : Nat → Nat → Nat} {S : List (List Nat) × List (List Nat)} (h : GL n m S) (hc : c < n) (hp : p < n) (hcp : c ≤ p) (h0 : el S.1 p c ≠ 0) (hj : ∀ j, j < c → ∀ r, r < n → el S.1 r j = oneAt r j) :
    GL n m (lead c p S) ∧ el (lead c p S).1 c c = 1 ∧ ∀ j, j < c → ∀ r, r < n → el (lead c p S).1 r j = oneAt r j := by
  have s1 := h.s1.swap c p
  have s2 := h.s2.swap c p
  have ec : ∀ j, el (swapL S.1 c p) c j = el S.1 p j := fun j => by
    rw [el_swapL h.s1 hc hp]; unfold swF
    by_cases e : c = p
    · rw [if_pos e, e]
    · rw [if_neg e, if_pos rfl]
  have hv : el (swapL S.1 c p) c c ≠ 0 := by rw [ec]; exact h0
  have hvl : el (swapL S.1 c p) c c < 256 := s1.lt _ _
  have hx : (dq 1 (el (swapL S.1 c p) c c)).1 = gd 1 (el (swapL S.1 c p) c c) := by unfold dq; rw [if_neg hv]
  have hg := gd_gm (a := 1) (by omega) hvl hv
  have hgne : gd 1 (el (swapL S.1 c p) c c) ≠ 0 := fun z => by rw [z, zero_gm] at hg; omega
  unfold Mat.lead
  rw [hx]
  have g1 : GI n m (el (swapL S.1 c p)) (el (swapL S.2 c p)) := (h.gi.swap hc hp).congr s1.lt s2.lt (fun r j _ _ => el_swapL h.s1 hc hp r j) (fun r j _ _ => el_swapL h.s2 hc hp r j)
  generalize hV : el (swapL S.1 c p) c c = v at *
  have g2 := (g1.sca hc (gd_lt 1 v) hgne).congr (Square.lt (s1.scale (x := gd 1 v) hc)) (Square.lt (s2.scale (x := gd 1 v) hc)) (fun r j _ _ => el_scale s1 hc r j) (fun r j _ _ => el_scale s2 hc r j)
  refine ⟨⟨s1.scale hc, s2.scale hc, g2⟩, ?_, ?_⟩
  · show el (scale (swapL S.1 c p) c (gd 1 v)) c c = 1
    rw [el_scale s1 hc]; unfold scaF; rw [if_pos rfl, hV, gm_comm]; exact hg
  · intro j hjc r hr
    show el (scale (swapL S.1 c p) c (gd 1 v)) r j = _
    rw [el_scale s1 hc]; unfold scaF
    by_cases e : r = c
    · rw [if_pos e, e, ec, hj j hjc p hp]
      unfold oneAt; rw [if_neg (by omega), if_neg (by omega), zero_gm]
    · rw [if_neg e, el_swapL h.s1 hc hp]; unfold swF
      by_cases e2 : r = p
      · rw [if_pos e2, hj j hjc c hc, e2]; unfold oneAt; rw [if_neg (by omega), if_neg (by omega)]
      · rw [if_neg e2, if_neg e]; exact hj j hjc r hr
/-- Something that the matrix makes nothing of. -/
def Ker (n : Nat) (m : Nat → Nat → Nat) : Prop := ∃ (v : Nat → Nat) (c : Nat), (∀ t, v t < 256) ∧ c < n ∧ v c = 1 ∧ ∀ i, i < n → sg (fun t => gm (m i t) (v t)) n = 0
theorem ker_of {n c : Nat} {m f g : Nat → Nat → Nat} (h : GI n m f g) (hc : c < n) (hj : ∀ j, j < c → ∀ r, r < n → f r j = oneAt r j) (hz : ∀ r, c ≤ r → r < n → f r c = 0) : Ker n m := by
  let v : Nat → Nat := fun t => if t < c then f t c else if t = c then 1 else 0
  have hv : ∀ t, v t < 256 := fun t => by show (if t < c then f t c else if t = c then 1 else 0) < 256; split; exact h.fl _ _; split <;> omega
  have vc : v c = 1 := by show (if c < c then f c c else if c = c then 1 else 0) = 1; rw [if_neg (by omega), if_pos rfl]
  have vl : ∀ t, t < c → v t = f t c := fun t ht => if_pos ht
  have vg : ∀ t, c < t → v t = 0 := fun t ht => by show (if t < c then f t c else if t = c then 1 else 0) = 0; rw [if_neg (by omega), if_neg (by omega)]
  have fv : ∀ i, i < n → sg (fun t => gm (f i t) (v t)) n = 0 := by
    intro i hi
    by_cases e : i < c
    · rw [sg_two e hc fun t ht h1 h2 => ?_]
      · rw [hj i e i hi, vl i e, vc, gm_one (h.fl _ _)]
        unfold oneAt; rw [if_pos rfl, one_gm (h.fl _ _), xor_same]
      · show gm (f i t) (v t) = 0
        by_cases e2 : t < c
        · rw [hj t e2 i hi]; unfold oneAt; rw [if_neg (by omega), zero_gm]
        · rw [vg t (by omega), gm_zero]
    · rw [sg_congr (g := fun _ => 0) fun t ht => ?_]
      · exact sg_zero n
      · show gm (f i t) (v t) = 0
        by_cases e2 : t < c
        · rw [hj t e2 i hi]; unfold oneAt; rw [if_neg (by omega), zero_gm]
        · by_cases e3 : t = c
          · rw [e3, hz i (by omega) hi, zero_gm]
          · rw [vg t (by omega), gm_zero]
  refine ⟨v, c, hv, hc, vc, fun i hi => ?_⟩
  obtain ⟨P, p1, p2, p3⟩ := h.right
  have e1 : sg (fun t => gm (m i t) (v t)) n = mulF n (mulF n P f) (fun t _ => v t) i 0 := sg_congr fun t ht => by rw [p2 i t hi ht]
  rw [e1, mulF_assoc _ _ _ _ _ p1 h.fl (fun t _ => hv t)]
  show sg (fun s => gm (P i s) (sg (fun t => gm (f s t) (v t)) n)) n = 0
  rw [sg_congr (g := fun _ => 0) fun s hs => by rw [fv s hs, gm_zero]]
  exact sg_zero n
theorem gauss_ok {n : Nat} {m : Nat → Nat → Nat} : ∀ d c (S : List (List Nat) × List (List Nat)), c + d = n → GL n m S → (∀ j, j < c → ∀ r, r < n → el S.1 r j = oneAt r j) →
    (gauss d c S = none ∧ detF n m = 0 ∧ Ker n m) ∨ ∃ T, gauss d c S = some T ∧ GL n m T ∧ ∀ j, j < n → ∀ r, r < n → el T.1 r j = oneAt r j
  | 0, c, S, hd, h, hj => .inr ⟨S, rfl, h, by rw [show n = c by omega] at hj ⊢; exact hj⟩
  | d + 1, c, S, hd, h, hj => by
    have hl : S.1.length = n := h.s1.1
    unfold gauss
    cases hp : pivN S.1 c (S.1.length - c) c with
    | none =>
      refine .inl ⟨rfl, ?_⟩
      have := pivN_none hp
      exact ⟨h.gi.dz.1 (detF_none (c := c) (by omega) hj fun i hi hin => this i hi (by omega)), ker_of h.gi (by omega) hj fun i hi hin => this i hi (by omega)⟩
    | some p =>
      obtain ⟨h1, h2, h3⟩ := pivN_lt hp
      obtain ⟨k1, k2, k3⟩ := lead_ok h (by omega) (by omega) h1 h3 hj
      rw [hl]
      obtain ⟨k4, k5⟩ := rids_ok (by omega) n 0 (lead c p S) (by omega) k1 k2 k3 (fun r hr => by omega)
      exact gauss_ok d (c + 1) _ (by omega) k4 k5
/-- Gauss, in the whole. -/
theorem gauss_all {n : Nat} {M : List (List Nat)} (h : Square n M) (hn : 0 < n) :
    (gauss n 0 (M, grid n n oneAt) = none ∧ detF n (el M) = 0 ∧ Ker n (el M)) ∨
    ∃ T, gauss n 0 (M, grid n n oneAt) = some T ∧ detF n (el M) ≠ 0 ∧ Square n T.2 ∧ mulM T.2 M = grid n n oneAt ∧ mulM M T.2 = grid n n oneAt := by
  have h1 : Square n (grid n n oneAt) := one_rect n
  have e1 : ∀ f : Nat → Nat → Nat, (∀ i j, f i j < 256) → ∀ i j, i < n → j < n → mulF n (el (grid n n oneAt)) f i j = f i j := fun f hf i j hi hj => by
    unfold mulF
    rw [sg_congr (g := fun t => gm (oneAt i t) (f t j)) fun t ht => by rw [el_grid hi ht]]
    exact sg_one (x := fun t => f t j) (fun t => hf t j) hi
  have g0 : GL n (el M) (M, grid n n oneAt) := by
    refine ⟨h, h1, h.lt, h.lt, h1.lt, fun i j hi hj => e1 _ h.lt i j hi hj, ⟨el (grid n n oneAt), h1.lt, fun i j hi hj => e1 _ h.lt i j hi hj, fun i j hi hj => ?_⟩, Iff.rfl⟩
    rw [e1 _ h1.lt i j hi hj, el_grid hi hj]
  rcases gauss_ok n 0 _ (by omega) g0 (fun j hj => by omega) with ⟨a, b⟩ | ⟨T, a, b, c⟩
  · exact .inl ⟨a, b⟩
  · refine .inr ⟨T, a, fun z => ?_, b.s2, ?_, ?_⟩
    · have := b.gi.dz.2 z
      rw [detF_one fun i j hi hj => c j hj i hi] at this
      omega
    · refine (mulM_rect b.s2.rect h.rect hn).ext h1.rect fun i j hi hj => ?_
      rw [el_mulM b.s2.rect h.rect hn hi hj, b.gi.left i j hi hj, c j hj i hi, el_grid hi hj]
    · obtain ⟨P, p1, p2, p3⟩ := b.gi.right
      have pm : ∀ i t, i < n → t < n → P i t = el M i t := fun i t hi ht => by
        rw [← p2 i t hi ht]
        symm
        have : mulF n P (el T.1) i t = mulF n P oneAt i t := mulF_congr (fun _ _ => rfl) fun s hs => c t ht s hs
        rw [this]
        exact sg_one' (x := fun s => P i s) (fun s => p1 i s) ht
      refine (mulM_rect h.rect b.s2.rect hn).ext h1.rect fun i j hi hj => ?_
      rw [el_mulM h.rect b.s2.rect hn hi hj, el_grid hi hj, ← p3 i j hi hj]
      exact mulF_congr (fun t ht => (pm i t hi ht).symm) fun _ _ => rfl
/-- Where a matrix has something on its left that makes the one, it makes something of whatever is something. -/
theorem no_ker {n : Nat} {M N : List (List Nat)} (h : Square n M) (hN : Square n N) (hn : 0 < n) (e : mulM N M = grid n n oneAt) : ¬ Ker n (el M) := by
  rintro ⟨v, c, hv, hc, vc, hz⟩
  have h1 : mulF n (mulF n (el N) (el M)) (fun t _ => v t) c 0 = v c := by
    have : mulF n (mulF n (el N) (el M)) (fun t _ => v t) c 0 = sg (fun t => gm (oneAt c t) (v t)) n := sg_congr fun t ht => by
      rw [← el_mulM hN.rect h.rect hn hc ht, e, el_grid hc ht]
    rw [this]; exact sg_one hv hc
  rw [mulF_assoc _ _ _ _ _ hN.lt h.lt (fun t _ => hv t)] at h1
  have h2 : mulF n (el N) (mulF n (el M) (fun t _ => v t)) c 0 = 0 := by
    show sg (fun s => gm (el N c s) (sg (fun t => gm (el M s t) (v t)) n)) n = 0
    rw [sg_congr (g := fun _ => 0) fun s hs => by rw [hz s hs, gm_zero]]
    exact sg_zero n
  rw [h2, vc] at h1
  omega
/-- The inverse's inverse. -/
theorem gauss_back {n : Nat} {M T : List (List Nat)} (h : Square n M) (hT : Square n T) (hn : 0 < n) (e1 : mulM T M = grid n n oneAt) (e2 : mulM M T = grid n n oneAt) :
    ∃ S, gauss n 0 (T, grid n n oneAt) = some S ∧ S.2 = M := by
  rcases gauss_all hT hn with ⟨_, _, k⟩ | ⟨S, a, _, s, l, r⟩
  · exact absurd k (no_ker hT h hn e2)
  · refine ⟨S, a, ?_⟩
    have : mulM (mulM S.2 T) M = mulM S.2 (mulM T M) := mulM_assoc s.rect hT.rect h.rect hn hn
    rw [l, e1, one_mul h.rect hn, mul_one s.rect hn] at this
    exact this.symm
end Go.Proofs.Ythblmkailhdhlaa.Mat
