/- The determinant by its first column, in plain Lean: linear in each row, nothing where two rows are the same. -/
import Derived.Test.YthblmkailhdhlaaND
namespace Go.Proofs.Ythblmkailhdhlaa.Mat
set_option linter.unusedVariables false
open Go.RowKit Go.Proofs.Ythblmkailhdhlaa.F Go.Proofs.Ythblmkailhdhlaa.Gf Go.Proofs.YthblmkailhdhlaaW.PrintWords

def skip (i r : Nat) : Nat := if r < i then r else r + 1
def minF (i : Nat) (f : Nat → Nat → Nat) : Nat → Nat → Nat := fun r c => f (skip i r) (c + 1)
def detF : Nat → (Nat → Nat → Nat) → Nat
  | 0, _ => 1
  | n + 1, f => sg (fun i => gm (f i 0) (detF n (minF i f))) (n + 1)
theorem detF_lt : ∀ (n : Nat) (f : Nat → Nat → Nat), detF n f < 256
  | 0, _ => by show (1 : Nat) < 256; decide
  | n + 1, f => sg_lt fun i _ => gm_lt _ _
theorem skip_lt {i r n : Nat} (hi : i < n + 1) (hr : r < n) : skip i r < n + 1 := by unfold skip; split <;> omega
theorem skip_ne (i r : Nat) : skip i r ≠ i := by unfold skip; split <;> omega
theorem detF_congr : ∀ {n : Nat} {f g : Nat → Nat → Nat}, (∀ i j, i < n → j < n → f i j = g i j) → detF n f = detF n g
  | 0, _, _, _ => rfl
  | n + 1, f, g, h => by
    refine sg_congr fun i hi => ?_
    rw [h i 0 hi (by omega), detF_congr (n := n) (f := minF i f) (g := minF i g) fun r c hr hc => h _ _ (skip_lt hi hr) (by omega)]
/-- Where row k lies in the minor without row i. -/
def back (i k : Nat) : Nat := if k < i then k else k - 1
theorem skip_back {i k : Nat} (h : k ≠ i) : skip i (back i k) = k := by
  unfold skip back
  by_cases h1 : k < i
  · rw [if_pos h1, if_pos h1]
  · rw [if_neg h1, if_neg (by omega)]; omega
theorem back_lt {i k n : Nat} (h : k ≠ i) (hk : k < n + 1) (hi : i < n + 1) : back i k < n := by
  unfold back; split <;> omega
theorem skip_eq {i k r : Nat} (h : k ≠ i) : skip i r = k ↔ r = back i k := by
  unfold skip back
  split <;> split <;> omega
theorem detF_lin : ∀ {n k : Nat} {f g h : Nat → Nat → Nat}, k < n → (∀ i j, f i j < 256) → (∀ i j, g i j < 256) →
    (∀ i j, i ≠ k → g i j = f i j) → (∀ i j, i ≠ k → h i j = f i j) → (∀ j, h k j = f k j ^^^ g k j) → detF n h = detF n f ^^^ detF n g
  | n + 1, k, f, g, h, hk, hf, hg, h1, h2, h3 => by
    show sg _ (n + 1) = sg _ (n + 1) ^^^ sg _ (n + 1)
    rw [← sg_xor]
    refine sg_congr fun i hi => ?_
    by_cases e : i = k
    · subst e
      have e1 : detF n (minF i h) = detF n (minF i f) := detF_congr fun r c _ _ => h2 _ _ (skip_ne i r)
      have e2 : detF n (minF i g) = detF n (minF i f) := detF_congr fun r c _ _ => h1 _ _ (skip_ne i r)
      rw [h3, e1, e2, xor_gm (detF_lt _ _) (hf _ _) (hg _ _)]
    · have hb : k ≠ i := fun x => e x.symm
      rw [h2 i 0 e, h1 i 0 e]
      rw [detF_lin (k := back i k) (f := minF i f) (g := minF i g) (h := minF i h) (back_lt hb hk hi) (fun _ _ => hf _ _) (fun _ _ => hg _ _) (fun r j hr => h1 _ _ fun x => hr ((skip_eq hb).1 x)) (fun r j hr => h2 _ _ fun x => hr ((skip_eq hb).1 x)) (fun j => by
        show h (skip i (back i k)) (j + 1) = f (skip i (back i k)) (j + 1) ^^^ g (skip i (back i k)) (j + 1)
        rw [skip_back hb, h3])]
      rw [gm_xor (hf _ _) (detF_lt _ _) (detF_lt _ _)]
theorem detF_sca : ∀ {n k x : Nat} {f h : Nat → Nat → Nat}, k < n → x < 256 → (∀ i j, f i j < 256) →
    (∀ i j, i ≠ k → h i j = f i j) → (∀ j, h k j = gm (f k j) x) → detF n h = gm (detF n f) x
  | n + 1, k, x, f, h, hk, hx, hf, h2, h3 => by
    show sg _ (n + 1) = gm (sg _ (n + 1)) x
    rw [gm_sg hx fun i _ => gm_lt _ _]
    refine sg_congr fun i hi => ?_
    by_cases e : i = k
    · subst e
      have e1 : detF n (minF i h) = detF n (minF i f) := detF_congr fun r c _ _ => h2 _ _ (skip_ne i r)
      rw [h3, e1, gm_assoc, gm_comm x, ← gm_assoc]
    · have hb : k ≠ i := fun x => e x.symm
      rw [h2 i 0 e, detF_sca (k := back i k) (x := x) (f := minF i f) (h := minF i h) (back_lt hb hk hi) hx (fun _ _ => hf _ _) (fun r j hr => h2 _ _ fun x => hr ((skip_eq hb).1 x)) (fun j => by
        show h (skip i (back i k)) (j + 1) = gm (f (skip i (back i k)) (j + 1)) x
        rw [skip_back hb, h3]), gm_assoc]
theorem sg_two {f : Nat → Nat} {p q : Nat} (hpq : p < q) : ∀ {n : Nat}, q < n → (∀ i, i < n → i ≠ p → i ≠ q → f i = 0) → sg f n = f p ^^^ f q
  | n + 1, hq, h => by
    show sg f n ^^^ f n = _
    by_cases e : q = n
    · subst e
      rw [sg_only hpq fun i hi hne => h i (by omega) hne (by omega)]
    · rw [sg_two hpq (by omega) fun i hi => h i (by omega), h n (by omega) (by omega) (by omega), xor_zero]
theorem xor_same (x : Nat) : x ^^^ x = 0 := Nat.xor_self x
theorem xor_eq {x y : Nat} (h : x ^^^ y = 0) : x = y := by
  have h1 : (x ^^^ y) ^^^ y = x := by rw [Nat.xor_assoc, xor_same, xor_zero]
  rw [← h1, h, zero_xor]
theorem detF_adj : ∀ {n p : Nat} {f : Nat → Nat → Nat}, p + 1 < n → (∀ j, f (p + 1) j = f p j) → detF n f = 0
  | n + 1, p, f, hp, h => by
    show sg _ (n + 1) = 0
    rw [sg_two (p := p) (q := p + 1) (by omega) hp]
    · have e : detF n (minF (p + 1) f) = detF n (minF p f) := detF_congr fun r c hr _ => by
        show f (skip (p + 1) r) (c + 1) = f (skip p r) (c + 1)
        unfold skip
        by_cases h1 : r < p
        · rw [if_pos (by omega), if_pos h1]
        · rw [if_neg h1]
          by_cases h2 : r = p
          · subst h2; rw [if_pos (by omega), h]
          · rw [if_neg (by omega)]
      rw [h, e, xor_same]
    · intro i hi h1 h2
      have : detF n (minF i f) = 0 := by
        by_cases hip : i < p
        · refine detF_adj (p := p - 1) (by omega) fun j => ?_
          show f (skip i (p - 1 + 1)) (j + 1) = f (skip i (p - 1)) (j + 1)
          rw [show skip i (p - 1 + 1) = p + 1 by unfold skip; split <;> omega, show skip i (p - 1) = p by unfold skip; split <;> omega, h]
        · refine detF_adj (p := p) (by omega) fun j => ?_
          show f (skip i (p + 1)) (j + 1) = f (skip i p) (j + 1)
          rw [show skip i (p + 1) = p + 1 by unfold skip; split <;> omega, show skip i p = p by unfold skip; split <;> omega, h]
      rw [this, gm_zero]
/-- Rows p and p + 1 put in. -/
def put2 (f : Nat → Nat → Nat) (p : Nat) (a b : Nat → Nat) : Nat → Nat → Nat := fun r j => if r = p then a j else if r = p + 1 then b j else f r j
theorem put2_lt {f : Nat → Nat → Nat} {p : Nat} {a b : Nat → Nat} (hf : ∀ i j, f i j < 256) (ha : ∀ j, a j < 256) (hb : ∀ j, b j < 256) (i j : Nat) : put2 f p a b i j < 256 := by
  unfold put2; split
  · exact ha j
  · split
    · exact hb j
    · exact hf i j
theorem detF_turn {n p : Nat} {f : Nat → Nat → Nat} {a b : Nat → Nat} (hp : p + 1 < n) (hf : ∀ i j, f i j < 256) (ha : ∀ j, a j < 256) (hb : ∀ j, b j < 256) :
    detF n (put2 f p a b) = detF n (put2 f p b a) := by
  have l1 : ∀ c : Nat → Nat, (∀ j, c j < 256) → detF n (put2 f p (fun j => a j ^^^ b j) c) = detF n (put2 f p a c) ^^^ detF n (put2 f p b c) := fun c hc =>
    detF_lin (k := p) (by omega) (put2_lt hf ha hc) (put2_lt hf hb hc) (fun i j hi => by simp [put2, hi]) (fun i j hi => by simp [put2, hi]) (fun j => by simp [put2])
  have l2 : ∀ c : Nat → Nat, (∀ j, c j < 256) → detF n (put2 f p c (fun j => a j ^^^ b j)) = detF n (put2 f p c a) ^^^ detF n (put2 f p c b) := fun c hc =>
    detF_lin (k := p + 1) (by omega) (put2_lt hf hc ha) (put2_lt hf hc hb) (fun i j hi => by simp [put2, hi]) (fun i j hi => by simp [put2, hi]) (fun j => by simp [put2])
  have z : ∀ c : Nat → Nat, detF n (put2 f p c c) = 0 := fun c => detF_adj hp fun j => by simp [put2]
  have hs : ∀ j, a j ^^^ b j < 256 := fun j => xor_lt (ha j) (hb j)
  have h0 := z (fun j => a j ^^^ b j)
  rw [l1 _ hs, l2 a ha, l2 b hb, z a, z b, zero_xor, xor_zero] at h0
  exact xor_eq h0
theorem put2_self (f : Nat → Nat → Nat) (p : Nat) : put2 f p (f p) (f (p + 1)) = f := by
  funext r j
  unfold put2
  split
  · next h => rw [h]
  · split
    · next h => rw [h]
    · rfl
theorem detF_same : ∀ {d n p : Nat} {f : Nat → Nat → Nat}, p + 1 + d < n → (∀ i j, f i j < 256) → (∀ j, f (p + 1 + d) j = f p j) → detF n f = 0
  | 0, n, p, f, hp, hf, h => detF_adj hp h
  | d + 1, n, p, f, hp, hf, h => by
    rw [← put2_self f (p + 1 + d), detF_turn (by omega) hf (hf _) (hf _)]
    refine detF_same (d := d) (p := p) (by omega) (put2_lt hf (hf _) (hf _)) fun j => ?_
    unfold put2
    rw [if_pos rfl, if_neg (by omega), if_neg (by omega)]
    exact h j
theorem detF_two {n p q : Nat} {f : Nat → Nat → Nat} (hp : p < n) (hq : q < n) (hne : p ≠ q) (hf : ∀ i j, f i j < 256) (h : ∀ j, f p j = f q j) : detF n f = 0 := by
  by_cases hlt : p < q
  · exact detF_same (d := q - p - 1) (p := p) (by omega) hf fun j => by rw [show p + 1 + (q - p - 1) = q by omega, h]
  · exact detF_same (d := p - q - 1) (p := q) (by omega) hf fun j => by rw [show q + 1 + (p - q - 1) = p by omega, h]

/-- Row i with x times row c. -/
def addF (i c x : Nat) (f : Nat → Nat → Nat) : Nat → Nat → Nat := fun r j => if r = i then f r j ^^^ gm x (f c j) else f r j
/-- Row c times x. -/
def scaF (c x : Nat) (f : Nat → Nat → Nat) : Nat → Nat → Nat := fun r j => if r = c then gm (f r j) x else f r j
theorem addF_lt {i c x : Nat} {f : Nat → Nat → Nat} (hf : ∀ i j, f i j < 256) (r j : Nat) : addF i c x f r j < 256 := by
  unfold addF; split
  · exact xor_lt (hf _ _) (gm_lt _ _)
  · exact hf _ _
theorem scaF_lt {c x : Nat} {f : Nat → Nat → Nat} (hf : ∀ i j, f i j < 256) (r j : Nat) : scaF c x f r j < 256 := by
  unfold scaF; split
  · exact gm_lt _ _
  · exact hf _ _
theorem detF_scaF {n c x : Nat} {f : Nat → Nat → Nat} (hc : c < n) (hx : x < 256) (hf : ∀ i j, f i j < 256) : detF n (scaF c x f) = gm (detF n f) x :=
  detF_sca hc hx hf (fun i j hi => by simp [scaF, hi]) (fun j => by simp [scaF])
theorem detF_addF {n i c x : Nat} {f : Nat → Nat → Nat} (hi : i < n) (hc : c < n) (hne : i ≠ c) (hx : x < 256) (hf : ∀ i j, f i j < 256) : detF n (addF i c x f) = detF n f := by
  let g : Nat → Nat → Nat := fun r j => if r = i then gm (f c j) x else f r j
  let e : Nat → Nat → Nat := fun r j => if r = i then f c j else f r j
  have hg : ∀ r j, g r j < 256 := fun r j => by show (if r = i then gm (f c j) x else f r j) < 256; split; exact gm_lt _ _; exact hf _ _
  have he : ∀ r j, e r j < 256 := fun r j => by show (if r = i then f c j else f r j) < 256; split; exact hf _ _; exact hf _ _
  have h1 : detF n (addF i c x f) = detF n f ^^^ detF n g := detF_lin hi hf hg (fun r j hr => by simp [g, hr]) (fun r j hr => by simp [addF, hr]) (fun j => by simp [addF, g, gm_comm x])
  have h2 : detF n g = gm (detF n e) x := detF_sca hi hx he (fun r j hr => by simp [g, e, hr]) (fun j => by simp [g, e])
  have h3 : detF n e = 0 := detF_two hi hc hne he fun j => by simp [e]
  rw [h1, h2, h3, zero_gm, xor_zero]
/-- The first c columns are the one's, and column c has nothing from row c on. -/
theorem detF_none : ∀ {c n : Nat} {f : Nat → Nat → Nat}, c < n → (∀ j, j < c → ∀ i, i < n → f i j = oneAt i j) → (∀ i, c ≤ i → i < n → f i c = 0) → detF n f = 0
  | 0, n + 1, f, _, _, h => by
    show sg _ (n + 1) = 0
    rw [sg_congr (g := fun _ => 0) fun i hi => by rw [h i (by omega) hi, zero_gm]]
    exact sg_zero _
  | c + 1, n + 1, f, hc, h1, h => by
    show sg _ (n + 1) = 0
    rw [sg_only (k := 0) (by omega) fun i hi hne => by rw [h1 0 (by omega) i hi]; unfold oneAt; rw [if_neg hne]; exact zero_gm _]
    rw [detF_none (c := c) (f := minF 0 f) (by omega) (fun j hj i hi => by
      show f (skip 0 i) (j + 1) = _
      rw [show skip 0 i = i + 1 from rfl, h1 (j + 1) (by omega) (i + 1) (by omega)]
      unfold oneAt; by_cases e : i = j
      · rw [if_pos e, if_pos (by omega)]
      · rw [if_neg e, if_neg (by omega)]) (fun i hi hin => h (i + 1) (by omega) (by omega)), gm_zero]
theorem detF_one : ∀ {n : Nat} {f : Nat → Nat → Nat}, (∀ i j, i < n → j < n → f i j = oneAt i j) → detF n f = 1
  | 0, _, _ => rfl
  | n + 1, f, h => by
    show sg _ (n + 1) = 1
    rw [sg_only (k := 0) (by omega) fun i hi hne => by rw [h i 0 hi (by omega)]; unfold oneAt; rw [if_neg hne]; exact zero_gm _]
    rw [h 0 0 (by omega) (by omega), detF_one (f := minF 0 f) fun i j hi hj => by
      show f (skip 0 i) (j + 1) = _
      rw [show skip 0 i = i + 1 from rfl, h (i + 1) (j + 1) (by omega) (by omega)]
      unfold oneAt; by_cases e : i = j
      · rw [if_pos e, if_pos (by omega)]
      · rw [if_neg e, if_neg (by omega)]]
    exact one_gm (a := 1) (by omega)
end Go.Proofs.Ythblmkailhdhlaa.Mat
