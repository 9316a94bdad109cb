/- Matrices as functions: sums, products. -/
import Derived.Test.YthblmkailhdhlaaNB
namespace Go.Proofs.Ythblmkailhdhlaa.Mat
set_option linter.unusedVariables false
open Go.RowKit Go.Proofs.Ythblmkailhdhlaa.F Go.Proofs.Ythblmkailhdhlaa.Gf Go.Proofs.YthblmkailhdhlaaW.PrintWords

/-- The field's sum of f 0 .. f (n - 1). -/
def sg (f : Nat → Nat) : Nat → Nat
  | 0 => 0
  | n + 1 => sg f n ^^^ f n
theorem sg_lt {f : Nat → Nat} : ∀ {n : Nat}, (∀ i, i < n → f i < 256) → sg f n < 256
  | 0, _ => by show (0 : Nat) < 256; decide
  | n + 1, h => xor_lt (sg_lt fun i hi => h i (by omega)) (h n (by omega))
theorem sg_congr {f g : Nat → Nat} : ∀ {n : Nat}, (∀ i, i < n → f i = g i) → sg f n = sg g n
  | 0, _ => rfl
  | n + 1, h => by
    show sg f n ^^^ f n = sg g n ^^^ g n
    rw [sg_congr fun i hi => h i (by omega), h n (by omega)]
theorem sg_xor (f g : Nat → Nat) : ∀ n, sg (fun i => f i ^^^ g i) n = sg f n ^^^ sg g n
  | 0 => by show (0 : Nat) = 0 ^^^ 0; decide
  | n + 1 => by
    show sg _ n ^^^ (f n ^^^ g n) = (sg f n ^^^ f n) ^^^ (sg g n ^^^ g n)
    rw [sg_xor f g n, xor4]
theorem sg_zero : ∀ n, sg (fun _ => 0) n = 0
  | 0 => rfl
  | n + 1 => by
    show sg _ n ^^^ 0 = 0
    rw [sg_zero n]; rfl
theorem sg_gm {x : Nat} (hx : x < 256) {f : Nat → Nat} : ∀ {n : Nat}, (∀ i, i < n → f i < 256) → gm x (sg f n) = sg (fun i => gm x (f i)) n
  | 0, _ => gm_zero x
  | n + 1, h => by
    show gm x (sg f n ^^^ f n) = sg _ n ^^^ gm x (f n)
    rw [gm_xor hx (sg_lt fun i hi => h i (by omega)) (h n (by omega)), sg_gm hx fun i hi => h i (by omega)]
theorem gm_sg {x : Nat} (hx : x < 256) {f : Nat → Nat} {n : Nat} (h : ∀ i, i < n → f i < 256) : gm (sg f n) x = sg (fun i => gm (f i) x) n := by
  rw [gm_comm, sg_gm hx h]
  exact sg_congr fun i hi => gm_comm _ _
theorem sg_swap (f : Nat → Nat → Nat) (m : Nat) : ∀ n, sg (fun i => sg (f i) m) n = sg (fun j => sg (fun i => f i j) n) m
  | 0 => (sg_zero m).symm
  | n + 1 => by
    show sg _ n ^^^ sg (f n) m = sg (fun j => sg (fun i => f i j) n ^^^ f n j) m
    rw [sg_swap f m n, sg_xor]
theorem xor_zero (x : Nat) : x ^^^ 0 = x := Nat.xor_zero x
theorem zero_xor (x : Nat) : 0 ^^^ x = x := Nat.zero_xor x
/-- A sum of which only one is something. -/
theorem sg_only {f : Nat → Nat} {k : Nat} : ∀ {n : Nat}, k < n → (∀ i, i < n → i ≠ k → f i = 0) → sg f n = f k
  | n + 1, hk, h => by
    show sg f n ^^^ f n = f k
    by_cases e : k = n
    · subst e
      rw [show sg f k = 0 from (sg_congr fun i hi => h i (by omega) (by omega)).trans (sg_zero k), zero_xor]
    · rw [sg_only (by omega) fun i hi hne => h i (by omega) hne, h n (by omega) (by omega), xor_zero]
theorem sg_one {x : Nat → Nat} (hx : ∀ i, x i < 256) {n k : Nat} (hk : k < n) : sg (fun t => gm (oneAt k t) (x t)) n = x k := by
  rw [sg_only hk fun i hi hne => by show gm (oneAt k i) (x i) = 0; unfold oneAt; rw [if_neg (by omega)]; exact zero_gm _]
  show gm (oneAt k k) (x k) = _
  unfold oneAt; rw [if_pos rfl]; exact one_gm (hx k)
theorem sg_one' {x : Nat → Nat} (hx : ∀ i, x i < 256) {n k : Nat} (hk : k < n) : sg (fun t => gm (x t) (oneAt t k)) n = x k := by
  rw [sg_only hk fun i hi hne => by show gm (x i) (oneAt i k) = 0; unfold oneAt; rw [if_neg (by omega)]; exact gm_zero _]
  show gm (x k) (oneAt k k) = _
  unfold oneAt; rw [if_pos rfl]; exact gm_one (hx k)

/-- n rows of c bytes. -/
def Rect (n c : Nat) (M : List (List Nat)) : Prop := M.length = n ∧ ∀ l ∈ M, l.length = c ∧ ∀ x ∈ l, x < 256
instance (n c : Nat) (M : List (List Nat)) : Decidable (Rect n c M) := by unfold Rect; exact inferInstance
theorem Square.rect {n : Nat} {M : List (List Nat)} (h : Square n M) : Rect n n M := h
theorem Rect.row {n c : Nat} {M : List (List Nat)} (h : Rect n c M) {i : Nat} (hi : i < n) : ∃ l, M[i]? = some l ∧ M.getD i [] = l ∧ l.length = c ∧ ∀ x ∈ l, x < 256 := by
  have hl : i < M.length := by rw [h.1]; exact hi
  exact ⟨M[i], List.getElem?_eq_getElem hl, getD_at hl, h.2 _ (List.getElem_mem hl)⟩
theorem getD_none {α : Type} {l : List α} {d : α} {i : Nat} (h : ¬ i < l.length) : l.getD i d = d := by
  rw [List.getD_eq_getElem?_getD, List.getElem?_eq_none (by omega)]; rfl
theorem el_lt {M : List (List Nat)} (h : Bytes M) (i j : Nat) : el M i j < 256 := by
  show (M.getD i []).getD j 0 < 256
  by_cases hi : i < M.length
  · have hr : ∀ x ∈ M.getD i [], x < 256 := by rw [getD_at hi]; exact h _ (List.getElem_mem hi)
    generalize M.getD i [] = r at *
    by_cases hj : j < r.length
    · rw [getD_at hj]; exact hr _ (List.getElem_mem hj)
    · rw [getD_none hj]; decide
  · rw [getD_none hi]; simp
theorem Rect.bytes {n c : Nat} {M : List (List Nat)} (h : Rect n c M) : Bytes M := fun l hl => (h.2 l hl).2
theorem Rect.lt {n c : Nat} {M : List (List Nat)} (h : Rect n c M) (i j : Nat) : el M i j < 256 := el_lt h.bytes i j
theorem list_range_el (l : List Nat) (c : Nat) (h : l.length = c) : (List.range c).map (fun j => l.getD j 0) = l := by
  apply List.ext_getElem?
  intro j
  rw [List.getElem?_map]
  by_cases hj : j < c
  · rw [List.getElem?_range hj]
    show some (l.getD j 0) = _
    rw [getD_at (by omega), List.getElem?_eq_getElem (by omega)]
  · rw [List.getElem?_eq_none (by simp; omega), List.getElem?_eq_none (by omega)]; rfl
theorem Rect.grid {n c : Nat} {M : List (List Nat)} (h : Rect n c M) : grid n c (el M) = M := by
  unfold Mat.grid
  apply List.ext_getElem?
  intro i
  rw [List.getElem?_map]
  by_cases hi : i < n
  · rw [List.getElem?_range hi]
    obtain ⟨l, h1, h2, h3, _⟩ := h.row hi
    rw [h1]
    show some _ = some l
    rw [← list_range_el l c h3]
    congr 1
    apply List.map_congr_left
    intro j hj
    show (M.getD i []).getD j 0 = l.getD j 0
    rw [h2]
  · rw [List.getElem?_eq_none (by simp; omega), List.getElem?_eq_none (by have := h.1; omega)]; rfl
theorem el_grid {n c : Nat} {g : Nat → Nat → Nat} {i j : Nat} (hi : i < n) (hj : j < c) : el (grid n c g) i j = g i j := by
  unfold el
  have h1 : (grid n c g).getD i [] = (List.range c).map (g i) := by rw [List.getD_eq_getElem?_getD, grid_get n c g hi]; rfl
  rw [h1, List.getD_eq_getElem?_getD, List.getElem?_map, List.getElem?_range hj]; rfl
theorem grid_rect {n c : Nat} {g : Nat → Nat → Nat} (h : ∀ i j, i < n → j < c → g i j < 256) : Rect n c (grid n c g) := by
  refine ⟨grid_len n c g, fun l hl => ?_⟩
  obtain ⟨i, hi, rfl⟩ := List.mem_map.1 hl
  refine ⟨by simp, fun x hx => ?_⟩
  obtain ⟨j, hj, rfl⟩ := List.mem_map.1 hx
  exact h i j (List.mem_range.1 hi) (List.mem_range.1 hj)
theorem grid_congr {n c : Nat} {g g' : Nat → Nat → Nat} (h : ∀ i j, i < n → j < c → g i j = g' i j) : grid n c g = grid n c g' := by
  unfold Mat.grid
  apply List.map_congr_left
  intro i hi
  apply List.map_congr_left
  intro j hj
  exact h i j (List.mem_range.1 hi) (List.mem_range.1 hj)
theorem grid_ext {n c : Nat} {g : Nat → Nat → Nat} {M : List (List Nat)} (hM : Rect n c M) (h : ∀ i j, i < n → j < c → g i j = el M i j) : grid n c g = M := by
  rw [grid_congr h, hM.grid]
theorem Rect.ext {n c : Nat} {M N : List (List Nat)} (hM : Rect n c M) (hN : Rect n c N) (h : ∀ i j, i < n → j < c → el M i j = el N i j) : M = N := by
  rw [← hM.grid, grid_ext hN h]

theorem addRow_getD {ys xs : List Nat} {x c j : Nat} (hy : ys.length = c) (hx : xs.length = c) (hj : j < c) : (addRow ys x xs).getD j 0 = ys.getD j 0 ^^^ gm x (xs.getD j 0) := by
  unfold addRow
  rw [getD_at (by simp; omega), getD_at (by omega), getD_at (by omega), List.getElem_zipWith]
theorem mulRow_sg {b : List (List Nat)} {c : Nat} (hb : ∀ r ∈ b, r.length = c) {row : List Nat} (hr : row.length = b.length) {j : Nat} (hj : j < c) :
    ∀ k, k ≤ b.length → (mulRow b c (row.take k)).getD j 0 = sg (fun t => gm (row.getD t 0) (el b t j)) k
  | 0, _ => by
    rw [List.take_zero, mulRow_nil]
    rw [getD_at (by simp; omega)]; simp [sg]
  | k + 1, hk => by
    have h1 : row[k]? = some (row.getD k 0) := by rw [getD_at (by omega), List.getElem?_eq_getElem (by omega)]
    have h2 : b[k]? = some (b.getD k []) := by rw [getD_at (by omega), List.getElem?_eq_getElem (by omega)]
    rw [mulRow_step h1 h2]
    have hbl : (b.getD k []).length = c := hb _ (by rw [getD_at (by omega)]; exact List.getElem_mem _)
    rw [addRow_getD (mulRow_len _ hb) hbl hj, mulRow_sg hb hr hj k (by omega)]
    rfl
/-- The product, place by place. -/
def mulF (m : Nat) (f g : Nat → Nat → Nat) (i j : Nat) : Nat := sg (fun t => gm (f i t) (g t j)) m
theorem mulF_lt (m : Nat) (f g : Nat → Nat → Nat) (i j : Nat) : mulF m f g i j < 256 := sg_lt fun t _ => gm_lt _ _
theorem Rect.head {n c : Nat} {M : List (List Nat)} (h : Rect n c M) (hn : 0 < n) : (M.getD 0 []).length = c := by
  obtain ⟨l, _, h2, h3, _⟩ := h.row hn
  rw [h2, h3]
theorem mulM_grid {n m c : Nat} {a b : List (List Nat)} (ha : Rect n m a) (hb : Rect m c b) (hm : 0 < m) : mulM a b = grid n c (mulF m (el a) (el b)) := by
  have hmc := hb.head hm
  have hlen : (mulM a b).length = n := by unfold mulM; rw [List.length_map, ha.1]
  have hr : Rect n c (mulM a b) := by
    refine ⟨hlen, fun l hl => ?_⟩
    unfold mulM at hl
    obtain ⟨row, hrow, rfl⟩ := List.mem_map.1 hl
    rw [hmc]
    exact ⟨mulRow_len _ (fun r hr => (hb.2 r hr).1), mulRow_lt _⟩
  symm
  refine grid_ext hr fun i j hi hj => ?_
  obtain ⟨row, h1, h2, h3, h4⟩ := ha.row hi
  have : (mulM a b).getD i [] = mulRow b c row := by
    unfold mulM
    rw [hmc, List.getD_eq_getElem?_getD, List.getElem?_map, h1]; rfl
  show _ = ((mulM a b).getD i []).getD j 0
  rw [this]
  have hk := mulRow_sg (fun r hr => (hb.2 r hr).1) (show row.length = b.length by rw [h3, hb.1]) hj b.length (Nat.le_refl _)
  rw [List.take_of_length_le (by rw [h3, hb.1]; exact Nat.le_refl _)] at hk
  rw [hk, hb.1]
  refine sg_congr fun t _ => ?_
  rw [show el a i t = row.getD t 0 by unfold el; rw [h2]]
theorem mulM_rect {n m c : Nat} {a b : List (List Nat)} (ha : Rect n m a) (hb : Rect m c b) (hm : 0 < m) : Rect n c (mulM a b) := by
  rw [mulM_grid ha hb hm]; exact grid_rect fun i j _ _ => mulF_lt _ _ _ _ _
theorem el_mulM {n m c : Nat} {a b : List (List Nat)} (ha : Rect n m a) (hb : Rect m c b) (hm : 0 < m) {i j : Nat} (hi : i < n) (hj : j < c) : el (mulM a b) i j = mulF m (el a) (el b) i j := by
  rw [mulM_grid ha hb hm, el_grid hi hj]

/-! The laws -/
theorem mulF_assoc (p q : Nat) (f g h : Nat → Nat → Nat) (hf : ∀ i j, f i j < 256) (hg : ∀ i j, g i j < 256) (hh : ∀ i j, h i j < 256) (i j : Nat) :
    mulF q (mulF p f g) h i j = mulF p f (mulF q g h) i j := by
  show sg (fun t => gm (sg (fun s => gm (f i s) (g s t)) p) (h t j)) q = sg (fun s => gm (f i s) (sg (fun t => gm (g s t) (h t j)) q)) p
  rw [sg_congr (g := fun t => sg (fun s => gm (gm (f i s) (g s t)) (h t j)) p) fun t _ => gm_sg (hh t j) fun s _ => gm_lt _ _]
  rw [sg_swap (fun t s => gm (gm (f i s) (g s t)) (h t j)) p q]
  refine sg_congr fun s _ => ?_
  rw [sg_gm (hf i s) fun t _ => gm_lt _ _]
  exact sg_congr fun t _ => gm_assoc
theorem mulM_assoc {n m p c : Nat} {a b d : List (List Nat)} (ha : Rect n m a) (hb : Rect m p b) (hd : Rect p c d) (hm : 0 < m) (hp : 0 < p) :
    mulM (mulM a b) d = mulM a (mulM b d) := by
  have hab := mulM_rect ha hb hm
  have hbd := mulM_rect hb hd hp
  refine (mulM_rect hab hd hp).ext (mulM_rect ha hbd hm) fun i j hi hj => ?_
  rw [el_mulM hab hd hp hi hj, el_mulM ha hbd hm hi hj]
  have e1 : mulF p (el (mulM a b)) (el d) i j = mulF p (mulF m (el a) (el b)) (el d) i j := sg_congr fun t ht => by rw [el_mulM ha hb hm hi ht]
  have e2 : mulF m (el a) (el (mulM b d)) i j = mulF m (el a) (mulF p (el b) (el d)) i j := sg_congr fun t ht => by rw [el_mulM hb hd hp ht hj]
  rw [e1, e2, mulF_assoc _ _ _ _ _ ha.lt hb.lt hd.lt]
theorem oneAt_lt (i j : Nat) : oneAt i j < 256 := by unfold oneAt; split <;> decide
theorem one_rect (n : Nat) : Rect n n (grid n n oneAt) := grid_rect fun i j _ _ => oneAt_lt i j
theorem one_mul {n c : Nat} {a : List (List Nat)} (ha : Rect n c a) (hn : 0 < n) : mulM (grid n n oneAt) a = a := by
  refine (mulM_rect (one_rect n) ha hn).ext ha fun i j hi hj => ?_
  rw [el_mulM (one_rect n) ha hn hi hj]
  unfold mulF
  rw [sg_congr (g := fun t => gm (oneAt i t) (el a t j)) fun t ht => by rw [el_grid hi ht]]
  exact sg_one (fun t => ha.lt t j) hi
theorem mul_one {n c : Nat} {a : List (List Nat)} (ha : Rect n c a) (hc : 0 < c) : mulM a (grid c c oneAt) = a := by
  refine (mulM_rect ha (one_rect c) hc).ext ha fun i j hi hj => ?_
  rw [el_mulM ha (one_rect c) hc hi hj]
  unfold mulF
  rw [sg_congr (g := fun t => gm (el a i t) (oneAt t j)) fun t ht => by rw [el_grid ht hj]]
  exact sg_one' (fun t => ha.lt i t) hj
end Go.Proofs.Ythblmkailhdhlaa.Mat
